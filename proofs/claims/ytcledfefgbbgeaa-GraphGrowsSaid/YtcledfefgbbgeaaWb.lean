/- Walks of graph's own functions. Printed by wip/walks/graph2.py. -/
import Derived.Test.YtcledfefgbbgeaaWa
import Derived.Test.YtcledfefgbbgeaaPlainG
namespace Go.Proofs.Ytcledfefgbbgeaa
open Go Rw Go.RowKit

/-- node: is a number a node's? -/
theorem node_spec (M : Nat → Prop) (w : World) (v : Value) (needs : List (List Int)) (i : Int) (hn : Sl M w v needs) :
    Calls Try.prog 22 #[v, .int .i64 i] w (Ret fun r w' => r = .bool (isNode needs i) ∧ w = w') := by
  refine c_enter (n := 13) Try.func22 rfl rfl rfl ?_
  refine c_seq ?_
  refine c_reg ?_
  refine l_cons (o_p tbOk rfl rfl rfl ?_)
  refine l_nil ?_
  refine x_seq ?_
  refine c_seq ?_
  refine c_reg ?_
  refine l_cons (o_p tbOk rfl rfl rfl ?_)
  refine l_cons (o_p tbOk rfl rfl rfl ?_)
  refine l_cons (o_p tbOk rfl rfl rfl ?_)
  refine l_splitP 7 _ rfl (fun h => ?_) (fun h => ?_)
  · refine l_cons (o_p tbOk rfl rfl rfl ?_)
    refine l_cons (o_p tbOk rfl rfl rfl ?_)
    refine l_cons (o_len tbOk hn rfl rfl rfl rfl rfl ?_)
    refine l_cons (o_p tbOk rfl rfl rfl ?_)
    refine l_cons (o_p tbOk rfl rfl rfl ?_)
    refine l_cons (o_p tbOk rfl rfl rfl ?_)
    refine l_nil ?_
    refine x_seq ?_
    refine c_ret ?_
    refine x_ret1 rfl rfl ?_
    exact ⟨by simp [isNode, h], rfl⟩
  · refine l_cons (o_skip rfl rfl ?_)
    refine l_cons (o_skip rfl rfl ?_)
    refine l_cons (o_skip rfl rfl ?_)
    refine l_cons (o_skip rfl rfl ?_)
    refine l_cons (o_p tbOk rfl rfl rfl ?_)
    refine l_cons (o_p tbOk rfl rfl rfl ?_)
    refine l_nil ?_
    refine x_seq ?_
    refine c_ret ?_
    refine x_ret1 rfl rfl ?_
    exact ⟨by simp [isNode, h], rfl⟩

/-- marked: the places of marks. -/
theorem marked_spec (M : Nat → Prop) (w : World) (vl : Value) (l : List Bool) (hl : Sl M w vl l) (hlow0 : Low M w) (hsm : l.length ≤ 1000000) :
    Calls Try.prog 23 #[vl] w (Ret fun r w' => Sl M w' r (markedL l) ∧ Ext w w') := by
  have hle := markedUpto_length l
  refine c_enter (n := 20) Try.func23 rfl rfl rfl ?_
  refine c_seq ?_
  refine c_reg ?_
  refine l_cons (o_p tbOk rfl rfl rfl ?_)
  refine l_nil ?_
  refine x_seq ?_
  refine c_seq ?_
  refine c_reg ?_
  refine l_cons (o_p tbOk rfl rfl rfl ?_)
  refine l_nil ?_
  refine x_seq ?_
  refine c_seq ?_
  refine c_seq ?_
  refine c_reg ?_
  refine l_cons (o_p tbOk rfl rfl rfl ?_)
  refine l_cons (o_len tbOk hl rfl rfl rfl rfl rfl ?_)
  refine l_cons (o_p tbOk rfl rfl rfl ?_)
  refine l_nil ?_
  refine x_seq ?_
  refine c_blk ?_
  refine c_loop3 (X := Nat) (Y := Value) (Z := Nat → Prop) (fun k v M1 => [(3, v), (6, vl), (7, .int .i64 (l.length : Int)), (8, .int .i64 (k : Nat))]) (fun k v M1 w' => k ≤ l.length ∧ OwnSl 3 w.heap.size M1 w' v (markedUpto l k) ∧ Sl M1 w' vl l ∧ Low M1 w' ∧ (∀ b, M b → M1 b) ∧ Below w.heap.size w w' ∧ w.heap.size ≤ w'.heap.size) (fun k v M1 => l.length - k) (0) (.slice none 0 0) (M) (subL_cons rfl (subL_cons rfl (subL_cons rfl (subL_cons rfl (subL_nil))))) ?_ ?_
  · exact ⟨Nat.zero_le _, own_nil, hl, hlow0, fun _ h => h, Below.refl _ _, Nat.le_refl _⟩
  rintro k v M1 w1 ⟨hk, hown, hl, hlow, hsub, hE, hB⟩
  refine c_seq ?_
  refine c_reg ?_
  refine l_cons (o_p tbOk rfl rfl rfl ?_)
  refine l_nil ?_
  refine x_seq ?_
  refine c_seq ?_
  refine c_ifP _ rfl (fun h => ?_) (fun h => ?_)
  · have hkl : k < l.length := by omega
    have hk2 := hle k
    refine c_skip ?_
    refine x_seq ?_
    refine c_seq ?_
    refine c_blk ?_
    refine c_seq ?_
    refine c_reg ?_
    refine l_cons (o_p tbOk rfl rfl rfl ?_)
    refine l_cons (o_ixS tbOk hl (List.getElem?_eq_getElem hkl) rfl rfl rfl rfl rfl rfl rfl rfl rfl ?_)
    intro b o u hr hat
    obtain rfl := hr
    refine l_cons (o_ld tbOk (hat.cell 0 _ rfl) rfl rfl rfl rfl rfl ?_)
    refine l_cons (o_p tbOk rfl rfl rfl ?_)
    refine l_cons (o_p tbOk rfl rfl rfl ?_)
    refine l_nil ?_
    refine x_seq ?_
    refine c_seq ?_
    refine c_reg ?_
    refine l_cons (o_p tbOk rfl rfl rfl ?_)
    refine l_nil ?_
    refine x_seq ?_
    refine c_if _ rfl (fun h2 => ?_) (fun h2 => ?_)
    · refine c_reg ?_
      refine l_cons (o_p tbOk rfl rfl rfl ?_)
      refine l_cons (o_p tbOk rfl rfl rfl ?_)
      refine l_cons (o_bs tbOk rfl rfl rfl rfl rfl rfl rfl (sz1 rfl) rfl rfl rfl ?_)
      intro bw2 w2 qbw2 ew2 hbw2
      have nbw2 := nM_of hlow qbw2
      replace hown := hown.ext hlow hB ew2
      replace hE := hE.trans (Below.mono ew2 hB)
      replace hl := hl.ext ew2
      replace hlow := hlow.ext ew2
      replace hB := Nat.le_trans hB ew2.size
      refine l_cons (o_app1 tbOk hown hbw2 nbw2 ⟨rfl, by unfold I64; omega⟩ hlow hB rfl rfl rfl rfl rfl rfl rfl (by omega) (by show (_ + _) * 8 ≤ _; omega) rfl rfl ?_)
      intro vw3 w3 Mw3 hw3 sw3 frw3 blw3
      replace hE := hE.trans sw3.below
      replace hl := hl.stp sw3
      replace hsub := fun b h => sw3.sub b (hsub b h)
      replace hlow := sw3.low
      replace hB := Nat.le_trans hB sw3.upd.1
      replace hown := hw3
      clear hw3
      refine l_cons (o_p tbOk rfl rfl rfl ?_)
      refine l_nil ?_
      refine x_blk ?_
      refine x_seq ?_
      refine c_reg ?_
      refine l_cons (o_ar rfl rfl rfl (IntWalk.i64_in _ (by omega)) rfl rfl ?_)
      refine l_cons (o_p tbOk rfl rfl rfl ?_)
      refine l_nil ?_
      exact x_round3 (k + 1) (vw3) (Mw3) (subL_cons rfl (subL_cons rfl (subL_cons rfl (subL_cons rfl (subL_nil))))) ⟨by omega, by rw [markedUpto_yes hkl h2]; exact hown, hl, hlow, hsub, hE, hB⟩ (by omega)
    · refine c_skip ?_
      refine x_blk ?_
      refine x_seq ?_
      refine c_reg ?_
      refine l_cons (o_ar rfl rfl rfl (IntWalk.i64_in _ (by omega)) rfl rfl ?_)
      refine l_cons (o_p tbOk rfl rfl rfl ?_)
      refine l_nil ?_
      exact x_round3 (k + 1) (v) (M1) (subL_cons rfl (subL_cons rfl (subL_cons rfl (subL_cons rfl (subL_nil))))) ⟨by omega, by rw [markedUpto_no hkl h2]; exact hown, hl, hlow, hsub, hE, hB⟩ (by omega)
  · refine c_exit ?_
    refine x_seqE ?_
    refine x_seqE ?_
    refine x_blkE ?_
    refine x_seq ?_
    refine c_seq ?_
    refine c_reg ?_
    refine l_cons (o_p tbOk rfl rfl rfl ?_)
    refine l_cons (o_p tbOk rfl rfl rfl ?_)
    refine l_nil ?_
    refine x_seq ?_
    refine c_ret ?_
    refine x_ret1 rfl rfl ?_
    rw [markedUpto_all hk (by omega)] at hown
    exact ⟨hown.sl (by rw [← markedUpto_all hk (by omega)]; have := hle k; omega) (fun b hb => hlow0 b hb) hsub, hE⟩

/-- reach: what a node reaches, as marks. -/
theorem reach_spec (M : Nat → Prop) (w : World) (vn : Value) (needs : List (List Int)) (i : Nat) (hn : Sl M w vn needs) (hi : i < needs.length) (hlow0 : Low M w) (hsm : needs.length ≤ 1000000) :
    Calls Try.prog 24 #[vn, .int .i64 (i : Int)] w (Ret fun r w' => Sl M w' r (reachM needs i) ∧ Ext w w') := by
  have hlow := hlow0
  have hB : w.heap.size ≤ w.heap.size := Nat.le_refl _
  have hE : Below w.heap.size w w := Below.refl _ _
  have hsub : ∀ b, M b → M b := fun _ h => h
  refine c_enter (n := 52) Try.func24 rfl rfl rfl ?_
  refine c_seq ?_
  refine c_reg ?_
  refine l_cons (o_p tbOk rfl rfl rfl ?_)
  refine l_nil ?_
  refine x_seq ?_
  refine c_seq ?_
  refine c_reg ?_
  refine l_cons (o_p tbOk rfl rfl rfl ?_)
  refine l_cons (o_len tbOk hn rfl rfl rfl rfl rfl ?_)
  refine l_cons (o_mk (false) tbOk rfl rfl rfl rfl rfl rfl rfl rfl (fun _ _ => rfl) (by show 1 * _ ≤ 140737488355328; omega) (by omega) hlow hB rfl rfl ?_)
  intro bw1 w1 qbw1 ew1 sw1 hm
  replace hE := hE.trans sw1.below
  replace hn := hn.stp sw1
  replace hsub := fun b h => sw1.sub b (hsub b h)
  replace hlow := sw1.low
  replace hB := Nat.le_trans hB sw1.upd.1
  refine l_cons (o_p tbOk rfl rfl rfl ?_)
  refine l_nil ?_
  refine x_seq ?_
  refine c_seq ?_
  refine c_reg ?_
  refine l_cons (o_p tbOk rfl rfl rfl ?_)
  have hmb : bw1 < w1.heap.size := (hm.lt bw1 rfl).2
  refine l_cons (o_bs tbOk rfl rfl rfl rfl rfl rfl rfl (sz1 rfl) rfl rfl rfl ?_)
  intro bw2 w2 qbw2 ew2 hbw2
  have sw2 := Stp.add ew2 hlow hB (Nat.le_of_eq qbw2.symm) hbw2.lt
  have le_bw2 := hB
  replace hm := hm.stp sw2 (fun x hx => ew2.block x (hm.lt x hx).2)
  replace hE := hE.trans sw2.below
  replace hn := hn.stp sw2
  replace hsub := fun b h => sw2.sub b (hsub b h)
  replace hlow := sw2.low
  replace hB := Nat.le_trans hB sw2.upd.1
  have hl := own_litS sw2 hbw2 (show Rs _ _ [_] [(i : Int)] from ⟨⟨rfl, by unfold I64; omega⟩, trivial⟩) qbw2 le_bw2 (by simp [maxLen])
  refine l_cons (o_p tbOk rfl rfl rfl ?_)
  refine l_nil ?_
  refine x_seq ?_
  refine c_seq ?_
  refine c_seq ?_
  refine c_reg ?_
  refine l_cons (o_p tbOk rfl rfl rfl ?_)
  refine l_nil ?_
  refine x_seq ?_
  refine c_blk ?_
  refine c_loop5 (X := Nat) (Y := Value) (Z := Nat → Prop) (U := List Int) (V := List Bool) (fun k vl M1 l m => [(0, vn), (5, (.slice (some ⟨bw1, 0, none⟩) needs.length needs.length)), (6, vl), (7, .int .i64 (k : Nat))]) (fun k vl M1 l m w' => Bfs needs i k l m ∧ OwnSl 4 w.heap.size M1 w' (.slice (some ⟨bw1, 0, none⟩) needs.length needs.length) m ∧ OwnSl 3 w.heap.size M1 w' vl l ∧ (∀ b, vl.ownBlock = some b → b ≠ bw1) ∧ Sl M1 w' vn needs ∧ Low M1 w' ∧ (∀ b, M b → M1 b) ∧ Below w.heap.size w w' ∧ w.heap.size ≤ w'.heap.size) (fun k vl M1 l m => needs.length + 1 - k) (0) (.slice (some ⟨bw2, 0, none⟩) 1 1) ((Rw.Add (Rw.Add M bw1) bw2)) ([(i : Int)]) (List.replicate needs.length false) (subL_cons rfl (subL_cons rfl (subL_cons rfl (subL_cons rfl (subL_nil))))) ?_ ?_
  · exact ⟨bfs_start hi, hm, hl, fun b hb => by simp [Value.ownBlock] at hb; omega, hn, hlow, hsub, hE, hB⟩
  rintro k vl M1 l m w3 ⟨hb, hm, hl, hne, hn, hlow, hsub, hE, hB⟩
  refine c_seq ?_
  refine c_seq ?_
  refine c_reg ?_
  refine l_cons (o_p tbOk rfl rfl rfl ?_)
  refine l_cons (o_p tbOk rfl rfl rfl ?_)
  refine l_cons (o_lenO tbOk hl rfl rfl rfl rfl rfl ?_)
  refine l_cons (o_p tbOk rfl rfl rfl ?_)
  refine l_nil ?_
  refine x_seq ?_
  refine c_ifP _ rfl (fun h => ?_) (fun h => ?_)
  · have hkl : k < l.length := by omega
    have hll := bfs_length hb
    refine c_skip ?_
    refine x_seq ?_
    refine c_seq ?_
    refine c_blk ?_
    refine c_seq ?_
    refine c_reg ?_
    refine l_cons (o_p tbOk rfl rfl rfl ?_)
    refine l_cons (o_p tbOk rfl rfl rfl ?_)
    refine l_cons (o_p tbOk rfl rfl rfl ?_)
    refine l_cons (o_ixO tbOk hl (List.getElem?_eq_getElem hkl) rfl rfl rfl rfl rfl rfl rfl rfl rfl ?_)
    intro b u hob hr hat
    obtain ⟨rfl, hi64⟩ := hr
    obtain ⟨u, hu, hun⟩ := hb.node (List.getElem?_eq_getElem hkl)
    refine l_cons (o_ld tbOk (hat.cell 0 _ rfl) rfl rfl rfl rfl rfl ?_)
    refine l_cons (o_ixS tbOk hn (List.getElem?_eq_getElem hun) rfl rfl hu rfl rfl rfl rfl rfl rfl ?_)
    intro b2 o2 vs hs hat2
    replace hs : Sl M1 w3 vs needs[u] := hs
    replace hat2 := hat2.sl hs
    refine l_cons (o_ld tbOk (hat2.cell 0 _ rfl) rfl rfl rfl rfl rfl ?_)
    refine l_cons (o_len tbOk hs rfl rfl rfl rfl rfl ?_)
    refine l_cons (o_p tbOk rfl rfl rfl ?_)
    refine l_nil ?_
    refine x_seq ?_
    refine c_blk ?_
    have hbi := bfs_in hb (u := u) (by rw [List.getElem?_eq_getElem hkl, hu]) (List.getElem?_eq_getElem hun)
    have hsl := hs.lt
    refine c_loop5 (X := Nat) (Y := Value) (Z := Nat → Prop) (U := List Int) (V := List Bool) (fun p vl M1 l m => [(0, vn), (5, (.slice (some ⟨bw1, 0, none⟩) needs.length needs.length)), (6, vl), (7, .int .i64 (k : Nat)), (27, vs), (28, .int .i64 (needs[u].length : Int)), (29, .int .i64 (p : Nat))]) (fun p vl M1 l m w' => BfsIn needs i k u needs[u] p l m ∧ Sl M1 w' vs needs[u] ∧ OwnSl 4 w.heap.size M1 w' (.slice (some ⟨bw1, 0, none⟩) needs.length needs.length) m ∧ OwnSl 3 w.heap.size M1 w' vl l ∧ (∀ b, vl.ownBlock = some b → b ≠ bw1) ∧ Sl M1 w' vn needs ∧ Low M1 w' ∧ (∀ b, M b → M1 b) ∧ Below w.heap.size w w' ∧ w.heap.size ≤ w'.heap.size) (fun p vl M1 l m => needs[u].length - p) (0) (vl) (M1) (l) (m) (subL_cons rfl (subL_cons rfl (subL_cons rfl (subL_cons rfl (subL_cons rfl (subL_cons rfl (subL_cons rfl (subL_nil)))))))) ?_ ?_
    · exact ⟨hbi, hs, hm, hl, hne, hn, hlow, hsub, hE, hB⟩
    rintro p vl M1 l m w4 ⟨hb, hs, hm, hl, hne, hn, hlow, hsub, hE, hB⟩
    refine c_seq ?_
    refine c_reg ?_
    refine l_cons (o_p tbOk rfl rfl rfl ?_)
    refine l_nil ?_
    refine x_seq ?_
    refine c_seq ?_
    refine c_ifP _ rfl (fun h1 => ?_) (fun h1 => ?_)
    · have hp : p < needs[u].length := by omega
      refine c_skip ?_
      refine x_seq ?_
      refine c_seq ?_
      refine c_blk ?_
      refine c_seq ?_
      refine c_reg ?_
      refine l_cons (o_ixS tbOk hs (List.getElem?_eq_getElem hp) rfl rfl rfl rfl rfl rfl rfl rfl rfl ?_)
      intro b3 o3 u3 hr3 hat3
      obtain ⟨rfl, hi3⟩ := hr3
      refine l_cons (o_ld tbOk (hat3.cell 0 _ rfl) rfl rfl rfl rfl rfl ?_)
      refine l_cons (o_p tbOk rfl rfl rfl ?_)
      refine l_nil ?_
      refine x_seq ?_
      refine c_seq ?_
      refine c_reg ?_
      refine l_cons (o_p tbOk rfl rfl rfl ?_)
      refine l_cons (o_p tbOk rfl rfl rfl ?_)
      refine l_cons (o_call fo22 rfl rfl rfl (node_spec M1 _ _ needs _ hn) ?_)
      rintro _ _ ⟨rfl, rfl⟩
      refine l_cons (o_p tbOk rfl rfl rfl ?_)
      refine l_split 36 _ rfl (fun h3 => ?_) (fun h3 => ?_)
      · obtain ⟨v, hv, hvn⟩ := isNode_nat h3
        have hvm : v < m.length := by rw [hb.base.len]; exact hvn
        refine l_cons (o_p tbOk rfl rfl rfl ?_)
        refine l_cons (o_p tbOk rfl rfl rfl ?_)
        refine l_cons (o_ixO tbOk hm (List.getElem?_eq_getElem hvm) rfl rfl hv rfl rfl rfl rfl rfl rfl ?_)
        intro b4 u4 hob4 hr4 hat4
        obtain rfl := hr4
        refine l_cons (o_ld tbOk (hat4.cell 0 _ rfl) rfl rfl rfl rfl rfl ?_)
        refine l_cons (o_p tbOk rfl rfl rfl ?_)
        refine l_cons (o_p tbOk rfl rfl rfl ?_)
        refine l_nil ?_
        refine x_seq ?_
        refine c_ifB _ rfl (fun h4 => ?_) (fun h4 => ?_)
        · refine c_seq ?_
          refine c_reg ?_
          refine l_cons (o_p tbOk rfl rfl rfl ?_)
          refine l_cons (o_p tbOk rfl rfl rfl ?_)
          refine l_cons (o_ixO tbOk hm (List.getElem?_eq_getElem hvm) rfl rfl hv rfl rfl rfl rfl rfl rfl ?_)
          intro b5 u5 hob5 hr5 hat5
          obtain rfl : bw1 = b5 := by simpa [Value.ownBlock] using hob5
          refine l_cons (o_stO tbOk hm hob5 hvm (z := true) rfl hlow rfl rfl rfl rfl rfl rfl ?_)
          intro w5 hw5 sw5 frw5
          replace hl := hl.stp sw5 (fun x hx => frw5 x (hl.lt x hx).2 (hne x hx))
          replace hE := hE.trans sw5.below
          replace hn := hn.stp sw5
          replace hs := hs.stp sw5
          replace hsub := fun b h => sw5.sub b (hsub b h)
          replace hlow := sw5.low
          replace hB := Nat.le_trans hB sw5.upd.1
          replace hm := hw5
          clear hw5
          have hll := bfs_length hb.base
          have hlm := hm.lt bw1 rfl
          refine l_nil ?_
          refine x_seq ?_
          refine c_reg ?_
          refine l_cons (o_p tbOk rfl rfl rfl ?_)
          refine l_cons (o_p tbOk rfl rfl rfl ?_)
          refine l_cons (o_bs tbOk rfl rfl rfl rfl rfl rfl rfl (sz1 rfl) rfl rfl rfl ?_)
          intro bw6 w6 qbw6 ew6 hbw6
          have nbw6 := nM_of hlow qbw6
          replace hm := hm.ext hlow hB ew6
          replace hl := hl.ext hlow hB ew6
          replace hE := hE.trans (Below.mono ew6 hB)
          replace hn := hn.ext ew6
          replace hs := hs.ext ew6
          replace hlow := hlow.ext ew6
          replace hB := Nat.le_trans hB ew6.size
          refine l_cons (o_app1 tbOk hl hbw6 nbw6 ⟨rfl, hi3⟩ hlow hB rfl rfl rfl rfl rfl rfl rfl (by omega) (by show (_ + _) * 8 ≤ _; omega) rfl rfl ?_)
          intro vw7 w7 Mw7 hw7 sw7 frw7 blw7
          replace hm := hm.stp sw7 (fun x hx => frw7 x (hm.lt x hx).2 (fun e => hne x e.symm (by simpa [Value.ownBlock] using hx.symm)))
          replace hE := hE.trans sw7.below
          replace hn := hn.stp sw7
          replace hs := hs.stp sw7
          replace hsub := fun b h => sw7.sub b (hsub b h)
          replace hlow := sw7.low
          replace hB := Nat.le_trans hB sw7.upd.1
          replace hl := hw7
          clear hw7
          refine l_cons (o_p tbOk rfl rfl rfl ?_)
          refine l_nil ?_
          refine x_blk ?_
          refine x_seq ?_
          refine c_reg ?_
          refine l_cons (o_ar rfl rfl rfl (IntWalk.i64_in _ (by omega)) rfl rfl ?_)
          refine l_cons (o_p tbOk rfl rfl rfl ?_)
          refine l_nil ?_
          exact x_round5 (p + 1) (vw7) (Mw7) (l ++ [needs[u][p]]) (m.set v true) (subL_cons rfl (subL_cons rfl (subL_cons rfl (subL_cons rfl (subL_cons rfl (subL_cons rfl (subL_cons rfl (subL_nil)))))))) ⟨by rw [hv]; exact bfs_new hb hp hv hvn (by rw [List.getElem?_eq_getElem hvm, h4]; simp), hs, hm, hl, (fun x hx => (blw7 x hx).elim (hne x) (fun h => by have := hlm.2; have := ew6.size; omega)), hn, hlow, hsub, hE, hB⟩ (by omega)
        · refine c_skip ?_
          refine x_blk ?_
          refine x_seq ?_
          refine c_reg ?_
          refine l_cons (o_ar rfl rfl rfl (IntWalk.i64_in _ (by omega)) rfl rfl ?_)
          refine l_cons (o_p tbOk rfl rfl rfl ?_)
          refine l_nil ?_
          exact x_round5 (p + 1) (vl) (M1) (l) (m) (subL_cons rfl (subL_cons rfl (subL_cons rfl (subL_cons rfl (subL_cons rfl (subL_cons rfl (subL_cons rfl (subL_nil)))))))) ⟨bfs_old hb hp hv (by rw [List.getElem?_eq_getElem hvm, h4]), hs, hm, hl, hne, hn, hlow, hsub, hE, hB⟩ (by omega)
      · refine l_cons (o_skip rfl rfl ?_)
        refine l_cons (o_skip rfl rfl ?_)
        refine l_cons (o_skip rfl rfl ?_)
        refine l_cons (o_skip rfl rfl ?_)
        refine l_cons (o_skip rfl rfl ?_)
        refine l_cons (o_p tbOk rfl rfl rfl ?_)
        refine l_nil ?_
        refine x_seq ?_
        refine c_ifF rfl ?_
        refine c_skip ?_
        refine x_blk ?_
        refine x_seq ?_
        refine c_reg ?_
        refine l_cons (o_ar rfl rfl rfl (IntWalk.i64_in _ (by omega)) rfl rfl ?_)
        refine l_cons (o_p tbOk rfl rfl rfl ?_)
        refine l_nil ?_
        exact x_round5 (p + 1) (vl) (M1) (l) (m) (subL_cons rfl (subL_cons rfl (subL_cons rfl (subL_cons rfl (subL_cons rfl (subL_cons rfl (subL_cons rfl (subL_nil)))))))) ⟨bfs_skip hb hp (fun v' hv' hl' => absurd h3 (isNode_of hv' hl')), hs, hm, hl, hne, hn, hlow, hsub, hE, hB⟩ (by omega)
    · refine c_exit ?_
      refine x_seqE ?_
      refine x_seqE ?_
      refine x_blkE ?_
      refine x_blk ?_
      refine x_seq ?_
      refine c_reg ?_
      refine l_cons (o_p tbOk rfl rfl rfl ?_)
      refine l_cons (o_ar rfl rfl rfl (IntWalk.i64_in _ (by omega)) rfl rfl ?_)
      refine l_cons (o_p tbOk rfl rfl rfl ?_)
      refine l_nil ?_
      exact x_round5 (k + 1) (vl) (M1) (l) (m) (subL_cons rfl (subL_cons rfl (subL_cons rfl (subL_cons rfl (subL_nil))))) ⟨bfs_next hb (by omega), hm, hl, hne, hn, hlow, hsub, hE, hB⟩ (by omega)
  · refine c_exit ?_
    refine x_seqE ?_
    refine x_seqE ?_
    refine x_blkE ?_
    refine x_seq ?_
    refine c_seq ?_
    refine c_reg ?_
    refine l_cons (o_p tbOk rfl rfl rfl ?_)
    refine l_cons (o_p tbOk rfl rfl rfl ?_)
    refine l_nil ?_
    refine x_seq ?_
    refine c_ret ?_
    refine x_ret1 rfl rfl ?_
    rw [bfs_end hb (by omega)] at hm
    exact ⟨hm.sl (by simp [reachM]; omega) hlow0 hsub, hE⟩

end Go.Proofs.Ytcledfefgbbgeaa
