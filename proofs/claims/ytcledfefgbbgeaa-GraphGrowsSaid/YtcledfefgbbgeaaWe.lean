/- The walk of Behind. Printed by wip/walks/graph5.py. -/
import Derived.Test.YtcledfefgbbgeaaWd
import Derived.Test.YtcledfefgbbgeaaMat
import Derived.Test.YtcledfefgbbgeaaPlainI
namespace Go.Proofs.Ytcledfefgbbgeaa
open Go Rw Go.RowKit

/-- Behind: the nodes that reach one. -/
theorem Behind_spec (M : Nat → Prop) (w : World) (vn : Value) (needs : List (List Int)) (i : Int) (hn : Sl M w vn needs) (hlow0 : Low M w) (hsm : needs.length ≤ 1000000) (hsm2 : ∀ l ∈ needs, l.length ≤ 1000000) :
    Calls Try.prog 16 #[vn, .int .i64 i] w (Ret fun r w' => Sl M w' r (behindL needs i) ∧ Ext w w') := by
  have hlow := hlow0
  have hB : w.heap.size ≤ w.heap.size := Nat.le_refl _
  have hE : Below w.heap.size w w := Below.refl _ _
  have hsub : ∀ b, M b → M b := fun _ h => h
  refine c_enter (n := 49) Try.func16 rfl rfl rfl ?_
  refine c_seq ?_
  refine c_reg ?_
  refine l_cons (o_p tbOk rfl rfl rfl ?_)
  refine l_nil ?_
  refine x_seq ?_
  refine c_seq ?_
  refine c_seq ?_
  refine c_reg ?_
  refine l_cons (o_p tbOk rfl rfl rfl ?_)
  refine l_cons (o_p tbOk rfl rfl rfl ?_)
  refine l_cons (o_call fo22 rfl rfl rfl (node_spec M _ _ needs _ hn) ?_)
  rintro _ _ ⟨rfl, rfl⟩
  refine l_cons (o_p tbOk rfl rfl rfl ?_)
  refine l_nil ?_
  refine x_seq ?_
  refine c_ifB _ rfl (fun h => ?_) (fun h => ?_)
  · refine c_seq ?_
    refine c_reg ?_
    refine l_cons (o_p tbOk rfl rfl rfl ?_)
    refine l_nil ?_
    refine x_seq ?_
    refine c_ret ?_
    refine x_seqR ?_
    refine x_ret1 rfl rfl ?_
    exact ⟨by rw [behindL, if_neg (by simp [h])]; exact sl_nil, ext_refl _⟩
  · obtain ⟨u, rfl, hun⟩ := isNode_nat h
    refine c_skip ?_
    refine x_seq ?_
    refine c_seq ?_
    refine c_reg ?_
    refine l_cons (o_p tbOk rfl rfl rfl ?_)
    refine l_cons (o_len tbOk hn rfl rfl rfl rfl rfl ?_)
    refine l_cons (o_mk ((⟨.slice none 0 0⟩ : Raw)) tbOk rfl rfl rfl rfl rfl rfl rfl rfl (fun _ _ => ⟨rfl, _, _, _, rfl⟩) (by show 24 * _ ≤ 140737488355328; omega) (by omega) hlow hB rfl rfl ?_)
    intro bw1 w1 qbw1 ew1 sw1 hback
    replace hE := hE.trans sw1.below
    replace hn := hn.stp sw1
    replace hsub := fun b h => sw1.sub b (hsub b h)
    replace hlow := sw1.low
    replace hB := Nat.le_trans hB sw1.upd.1
    have hbt : bw1 < w1.heap.size := (hback.lt bw1 rfl).2
    have hrows : MRows 3 w.heap.size (Rw.Add M bw1) w1 (.slice (some ⟨bw1, 0, none⟩) needs.length needs.length) (List.replicate needs.length ⟨.slice none 0 0⟩) (List.replicate needs.length ([] : List Int)) := rows_start _
    refine l_cons (o_p tbOk rfl rfl rfl ?_)
    refine l_nil ?_
    refine x_seq ?_
    refine c_seq ?_
    refine c_seq ?_
    refine c_reg ?_
    refine l_cons (o_p tbOk rfl rfl rfl ?_)
    refine l_cons (o_len tbOk hn rfl rfl rfl rfl rfl ?_)
    refine l_cons (o_p tbOk rfl rfl rfl ?_)
    refine l_nil ?_
    refine x_seq ?_
    refine c_blk ?_
    have hE0 := hE
    refine c_loop4 (X := Nat) (Y := List Raw) (Z := List (List Int)) (U := Nat → Prop) (fun k vs rows M1 => [(0, vn), (1, .int .i64 (u : Int)), (5, (.slice (some ⟨bw1, 0, none⟩) needs.length needs.length)), (17, vn), (18, .int .i64 (needs.length : Int)), (19, .int .i64 (k : Nat))]) (fun k vs rows M1 w' => k ≤ needs.length ∧ Back needs k rows ∧ OwnSl 26 w.heap.size M1 w' (.slice (some ⟨bw1, 0, none⟩) needs.length needs.length) vs ∧ MRows 3 w.heap.size M1 w' (.slice (some ⟨bw1, 0, none⟩) needs.length needs.length) vs rows ∧ Sl M1 w' vn needs ∧ bw1 < w'.heap.size ∧ Low M1 w' ∧ (∀ b, M b → M1 b) ∧ Below w.heap.size w w' ∧ w.heap.size ≤ w'.heap.size) (fun k vs rows M1 => needs.length - k) (0) (List.replicate needs.length ⟨.slice none 0 0⟩) (List.replicate needs.length []) ((Rw.Add M bw1)) (subL_cons rfl (subL_cons rfl (subL_cons rfl (subL_cons rfl (subL_cons rfl (subL_cons rfl (subL_nil))))))) ?_ ?_
    · exact ⟨Nat.zero_le _, back_start needs, hback, hrows, hn, hbt, hlow, hsub, hE, hB⟩
    rintro k vs rows M1 w2 ⟨hk, hb, hback, hrows, hn, hbt, hlow, hsub, hE, hB⟩
    refine c_seq ?_
    refine c_reg ?_
    refine l_cons (o_p tbOk rfl rfl rfl ?_)
    refine l_nil ?_
    refine x_seq ?_
    refine c_seq ?_
    refine c_ifP _ rfl (fun h1 => ?_) (fun h1 => ?_)
    · have hkn : k < needs.length := by omega
      have h6 := hsm2 needs[k] (List.getElem_mem hkn)
      refine c_skip ?_
      refine x_seq ?_
      refine c_seq ?_
      refine c_blk ?_
      refine c_seq ?_
      refine c_reg ?_
      refine l_cons (o_p tbOk rfl rfl rfl ?_)
      refine l_cons (o_ixS tbOk hn (List.getElem?_eq_getElem hkn) rfl rfl rfl rfl rfl rfl rfl rfl rfl ?_)
      intro b1 o1 vs1 hs hat1
      replace hs : Sl M1 w2 vs1 needs[k] := hs
      replace hat1 := hat1.sl hs
      have hbi := back_in hb (List.getElem?_eq_getElem hkn)
      refine l_cons (o_ld tbOk (hat1.cell 0 _ rfl) rfl rfl rfl rfl rfl ?_)
      refine l_cons (o_p tbOk rfl rfl rfl ?_)
      refine l_cons (o_p tbOk rfl rfl rfl ?_)
      refine l_nil ?_
      refine x_seq ?_
      refine c_seq ?_
      refine c_reg ?_
      refine l_cons (o_p tbOk rfl rfl rfl ?_)
      refine l_cons (o_len tbOk hs rfl rfl rfl rfl rfl ?_)
      refine l_cons (o_p tbOk rfl rfl rfl ?_)
      refine l_nil ?_
      refine x_seq ?_
      refine c_blk ?_
      refine c_loop4 (X := Nat) (Y := List Raw) (Z := List (List Int)) (U := Nat → Prop) (fun p vs rows M1 => [(0, vn), (1, .int .i64 (u : Int)), (5, (.slice (some ⟨bw1, 0, none⟩) needs.length needs.length)), (6, .int .i64 (k : Nat)), (17, vn), (18, .int .i64 (needs.length : Int)), (19, .int .i64 (k : Nat)), (24, vs1), (25, .int .i64 (needs[k].length : Int)), (26, .int .i64 (p : Nat))]) (fun p vs rows M1 w' => BackIn needs k needs[k] p rows ∧ Sl M1 w' vs1 needs[k] ∧ OwnSl 26 w.heap.size M1 w' (.slice (some ⟨bw1, 0, none⟩) needs.length needs.length) vs ∧ MRows 3 w.heap.size M1 w' (.slice (some ⟨bw1, 0, none⟩) needs.length needs.length) vs rows ∧ Sl M1 w' vn needs ∧ bw1 < w'.heap.size ∧ Low M1 w' ∧ (∀ b, M b → M1 b) ∧ Below w.heap.size w w' ∧ w.heap.size ≤ w'.heap.size) (fun p vs rows M1 => needs[k].length - p) (0) (vs) (rows) (M1) (subL_cons rfl (subL_cons rfl (subL_cons rfl (subL_cons rfl (subL_cons rfl (subL_cons rfl (subL_cons rfl (subL_cons rfl (subL_cons rfl (subL_cons rfl (subL_nil))))))))))) ?_ ?_
      · exact ⟨hbi, hs, hback, hrows, hn, hbt, hlow, hsub, hE, hB⟩
      rintro p vs rows M1 w3 ⟨hb, hs, hback, hrows, hn, hbt, hlow, hsub, hE, hB⟩
      refine c_seq ?_
      refine c_reg ?_
      refine l_cons (o_p tbOk rfl rfl rfl ?_)
      refine l_nil ?_
      refine x_seq ?_
      refine c_seq ?_
      refine c_ifP _ rfl (fun h2 => ?_) (fun h2 => ?_)
      · have hp : p < needs[k].length := by omega
        refine c_skip ?_
        refine x_seq ?_
        refine c_seq ?_
        refine c_blk ?_
        refine c_seq ?_
        refine c_reg ?_
        refine l_cons (o_ixS tbOk hs (List.getElem?_eq_getElem hp) rfl rfl rfl rfl rfl rfl rfl rfl rfl ?_)
        intro b2 o2 u2 hr2 hat2
        obtain ⟨rfl, hi2⟩ := hr2
        refine l_cons (o_ld tbOk (hat2.cell 0 _ rfl) rfl rfl rfl rfl rfl ?_)
        refine l_cons (o_p tbOk rfl rfl rfl ?_)
        refine l_nil ?_
        refine x_seq ?_
        refine c_seq ?_
        refine c_reg ?_
        refine l_cons (o_p tbOk rfl rfl rfl ?_)
        refine l_cons (o_p tbOk rfl rfl rfl ?_)
        refine l_cons (o_call fo22 rfl rfl rfl (node_spec M1 _ _ needs _ hn) ?_)
        rintro _ _ ⟨rfl, rfl⟩
        refine l_nil ?_
        refine x_seq ?_
        refine c_if _ rfl (fun h3 => ?_) (fun h3 => ?_)
        · obtain ⟨v, hv, hvn⟩ := isNode_nat h3
          have hvr : v < rows.length := by rw [hb.len]; exact hvn
          have hvv : v < vs.length := by rw [hrows.len]; exact hvr
          refine c_reg ?_
          refine l_cons (o_p tbOk rfl rfl rfl ?_)
          refine l_cons (o_p tbOk rfl rfl rfl ?_)
          refine l_cons (o_p tbOk rfl rfl rfl ?_)
          refine l_cons (o_p tbOk rfl rfl rfl ?_)
          refine l_cons (o_ixO tbOk hback (List.getElem?_eq_getElem hvv) rfl rfl hv rfl rfl rfl rfl rfl rfl ?_)
          intro b3 u3 hob3 hr3 hat3
          obtain ⟨rfl, hsl3⟩ := hr3
          replace hat3 := hat3.raw hsl3
          have hrow := hrows.row v vs[v] rows[v] (List.getElem?_eq_getElem hvv) (List.getElem?_eq_getElem hvr)
          have hrl := (hb.row v rows[v] (List.getElem?_eq_getElem hvr)).1
          refine l_cons (o_ld tbOk (hat3.cell 0 _ rfl) rfl rfl rfl rfl rfl ?_)
          refine l_cons (o_p tbOk rfl rfl rfl ?_)
          refine l_cons (o_bs tbOk rfl rfl rfl rfl rfl rfl rfl (sz1 rfl) rfl rfl rfl ?_)
          intro bw4 w4 qbw4 ew4 hbw4
          have nbw4 := nM_of hlow qbw4
          replace hback := hback.ext hlow hB ew4
          replace hrows := hrows.ext hlow hB ew4
          replace hrow := hrow.ext hlow hB ew4
          replace hE := hE.trans (Below.mono ew4 hB)
          replace hn := hn.ext ew4
          replace hs := hs.ext ew4
          replace hlow := hlow.ext ew4
          replace hB := Nat.le_trans hB ew4.size
          refine l_cons (o_app1 tbOk hrow hbw4 nbw4 ⟨rfl, by unfold I64; omega⟩ hlow hB rfl rfl rfl rfl rfl rfl rfl (by omega) (by show (_ + _) * 8 ≤ _; omega) rfl rfl ?_)
          intro vw5 w5 Mw5 hw5 sw5 frw5 blw5
          replace hback := hback.stp sw5 (fun x hx => frw5 x (hback.lt x hx).2 (fun e => hrows.top v vs[v] x (List.getElem?_eq_getElem hvv) e.symm hx))
          replace hE := hE.trans sw5.below
          replace hn := hn.stp sw5
          replace hs := hs.stp sw5
          replace hsub := fun b h => sw5.sub b (hsub b h)
          replace hlow := sw5.low
          replace hB := Nat.le_trans hB sw5.upd.1
          replace hrow := hw5
          clear hw5
          replace hrows := hrows.app (List.getElem?_eq_getElem hvv) sw5 frw5 blw5 hrow (fun b hb => by have := ob_eq hb; have := ew4.size; omega)
          have hval := hrow.val
          refine l_cons (o_ixO tbOk hback (List.getElem?_eq_getElem hvv) rfl rfl hv rfl rfl rfl rfl rfl rfl ?_)
          intro b4 u4 hob4 hr4 hat4
          refine l_cons (o_stO tbOk hback hob4 hvv (z := ⟨vw5⟩) ⟨rfl, hval.elim fun a h => h.elim fun c h => ⟨a, _, c, h.1⟩⟩ hlow rfl rfl rfl rfl rfl rfl ?_)
          intro w6 hw6 sw6 frw6
          replace hrows := hrows.stp sw6 (fun i x b hx hb => frw6 b (hrows.lt hx hb).2 (fun e => hrows.top i x b hx hb (e ▸ hob4)))
          replace hE := hE.trans sw6.below
          replace hn := hn.stp sw6
          replace hs := hs.stp sw6
          replace hsub := fun b h => sw6.sub b (hsub b h)
          replace hlow := sw6.low
          replace hB := Nat.le_trans hB sw6.upd.1
          replace hback := hw6
          clear hw6
          replace hbt : bw1 < w6.heap.size := Nat.lt_of_lt_of_le hbt (Nat.le_trans ew4.size (Nat.le_trans sw5.upd.1 sw6.upd.1))
          refine l_nil ?_
          refine x_blk ?_
          refine x_seq ?_
          refine c_reg ?_
          refine l_cons (o_ar rfl rfl rfl (IntWalk.i64_in _ (by omega)) rfl rfl ?_)
          refine l_cons (o_p tbOk rfl rfl rfl ?_)
          refine l_nil ?_
          exact x_round4 (p + 1) (vs.set v ⟨vw5⟩) (rows.set v (rows[v] ++ [(k : Int)])) (Mw5) (subL_cons rfl (subL_cons rfl (subL_cons rfl (subL_cons rfl (subL_cons rfl (subL_cons rfl (subL_cons rfl (subL_cons rfl (subL_cons rfl (subL_cons rfl (subL_nil))))))))))) ⟨back_mark hb hp hv hvr, hs, hback, hrows, hn, hbt, hlow, hsub, hE, hB⟩ (by omega)
        · refine c_skip ?_
          refine x_blk ?_
          refine x_seq ?_
          refine c_reg ?_
          refine l_cons (o_ar rfl rfl rfl (IntWalk.i64_in _ (by omega)) rfl rfl ?_)
          refine l_cons (o_p tbOk rfl rfl rfl ?_)
          refine l_nil ?_
          exact x_round4 (p + 1) (vs) (rows) (M1) (subL_cons rfl (subL_cons rfl (subL_cons rfl (subL_cons rfl (subL_cons rfl (subL_cons rfl (subL_cons rfl (subL_cons rfl (subL_cons rfl (subL_cons rfl (subL_nil))))))))))) ⟨back_skip hb hp h3, hs, hback, hrows, hn, hbt, hlow, hsub, hE, hB⟩ (by omega)
      · refine c_exit ?_
        refine x_seqE ?_
        refine x_seqE ?_
        refine x_blkE ?_
        refine x_blk ?_
        refine x_seq ?_
        refine c_reg ?_
        refine l_cons (o_ar rfl rfl rfl (IntWalk.i64_in _ (by omega)) rfl rfl ?_)
        refine l_cons (o_p tbOk rfl rfl rfl ?_)
        refine l_nil ?_
        exact x_round4 (k + 1) (vs) (rows) (M1) (subL_cons rfl (subL_cons rfl (subL_cons rfl (subL_cons rfl (subL_cons rfl (subL_cons rfl (subL_nil))))))) ⟨by omega, back_next hb (by omega) h6, hback, hrows, hn, hbt, hlow, hsub, hE, hB⟩ (by omega)
    · have hrl : ∀ r ∈ rows, r.length < 140737488355328 := fun r hr => by
        obtain ⟨j, hj, rfl⟩ := List.getElem_of_mem hr
        have := (hb.row j _ (List.getElem?_eq_getElem hj)).1
        omega
      have hsl := hrows.sl hback (by rw [hb.len]; omega) hrl (M0 := M) hlow0 hsub
      have hlow1 : Low M w2 := fun b hb => Nat.lt_of_lt_of_le (hlow0 b hb) hB
      have hur : u < rows.length := by rw [hb.len]; exact hun
      refine c_exit ?_
      refine x_seqE ?_
      refine x_seqE ?_
      refine x_blkE ?_
      refine x_seq ?_
      refine c_seq ?_
      refine c_reg ?_
      refine l_cons (o_p tbOk rfl rfl rfl ?_)
      refine l_cons (o_p tbOk rfl rfl rfl ?_)
      refine l_cons (o_call fo24 rfl rfl rfl (reach_spec M _ _ rows u hsl hur hlow1 (by rw [hb.len]; exact hsm)) ?_)
      rintro r1 w7 ⟨hr1, ew7⟩
      replace hE := hE.trans (Below.mono ew7 hB)
      replace hB := Nat.le_trans hB ew7.size
      refine l_cons (o_call fo23 rfl rfl rfl (marked_spec M _ r1 _ hr1 (hlow1.ext ew7) (by rw [reachM_length, hb.len]; exact hsm)) ?_)
      rintro r2 w8 ⟨hr2, ew8⟩
      replace hE := hE.trans (Below.mono ew8 hB)
      replace hB := Nat.le_trans hB ew8.size
      refine l_cons (o_p tbOk rfl rfl rfl ?_)
      refine l_nil ?_
      refine x_seq ?_
      refine c_ret ?_
      refine x_ret1 rfl rfl ?_
      exact ⟨by rw [behindL, if_pos h]; rw [back_marked hb (by omega)] at hr2; exact hr2, hE⟩

end Go.Proofs.Ytcledfefgbbgeaa
