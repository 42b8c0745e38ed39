/- Walks of the graph functions that pick nodes. Printed by wip/walks/graph4.py. -/
import Derived.Test.YtcledfefgbbgeaaWc
namespace Go.Proofs.Ytcledfefgbbgeaa
open Go Rw Go.RowKit

/-- The document's circles. -/
theorem refCircles_spec (M : Nat → Prop) (w : World) (vn : Value) (needs : List (List Int)) (hn : Sl M w vn needs) (hlow0 : Low M w) (hsm : needs.length ≤ 1000000) :
    Calls Try.prog 18 #[vn] w (Ret fun r w' => Sl M w' r (circlesL needs) ∧ Ext w w') := by
  have hlow := hlow0
  have hB : w.heap.size ≤ w.heap.size := Nat.le_refl _
  have hE : Below w.heap.size w w := Below.refl _ _
  have hsub : ∀ b, M b → M b := fun _ h => h
  refine c_enter (n := 20) Try.func18 rfl rfl rfl ?_
  have hpl := pick_length (fun k => (@decide (Rch needs k k) (Classical.propDecidable _)))
  refine c_seq ?_
  refine c_reg ?_
  refine l_cons (o_p tbOk rfl rfl rfl ?_)
  refine l_nil ?_
  refine x_seq ?_
  refine c_seq ?_
  refine c_reg ?_
  refine l_cons (o_p tbOk rfl rfl rfl ?_)
  refine l_nil ?_
  refine x_seq ?_
  refine c_seq ?_
  refine c_seq ?_
  refine c_reg ?_
  refine l_cons (o_p tbOk rfl rfl rfl ?_)
  refine l_nil ?_
  refine x_seq ?_
  refine c_blk ?_
  refine c_loop3 (X := Nat) (Y := Value) (Z := Nat → Prop) (fun k v M1 => [(0, vn), (3, v), (4, .int .i64 (k : Nat))]) (fun k v M1 w' => k ≤ needs.length ∧ OwnSl 3 w.heap.size M1 w' v (pickUpto (fun k => (@decide (Rch needs k k) (Classical.propDecidable _))) k) ∧ Sl M1 w' vn needs ∧ Low M1 w' ∧ (∀ b, M b → M1 b) ∧ Below w.heap.size w w' ∧ w.heap.size ≤ w'.heap.size) (fun k v M1 => needs.length - k) (0) (.slice none 0 0) (M) (subL_cons rfl (subL_cons rfl (subL_cons rfl (subL_nil)))) ?_ ?_
  · exact ⟨Nat.zero_le _, own_nil, hn, hlow, hsub, hE, hB⟩
  rintro k v M1 w1 ⟨hk, hown, hn, hlow, hsub, hE, hB⟩
  refine c_seq ?_
  refine c_seq ?_
  refine c_reg ?_
  refine l_cons (o_p tbOk rfl rfl rfl ?_)
  refine l_cons (o_p tbOk rfl rfl rfl ?_)
  refine l_cons (o_len tbOk hn rfl rfl rfl rfl rfl ?_)
  refine l_cons (o_p tbOk rfl rfl rfl ?_)
  refine l_nil ?_
  refine x_seq ?_
  refine c_ifP _ rfl (fun h => ?_) (fun h => ?_)
  · have hkn : k < needs.length := by omega
    have hk2 := hpl k
    refine c_skip ?_
    refine x_seq ?_
    refine c_seq ?_
    refine c_blk ?_
    refine c_seq ?_
    refine c_reg ?_
    refine l_cons (o_p tbOk rfl rfl rfl ?_)
    refine l_cons (o_p tbOk rfl rfl rfl ?_)
    refine l_cons (o_p tbOk rfl rfl rfl ?_)
    refine l_cons (o_call fo25 rfl rfl rfl (reaches_spec M1 _ vn needs k k hn hkn hkn hlow hsm) ?_)
    rintro _ w2 ⟨rfl, ew2⟩
    replace hown := hown.ext hlow hB ew2
    replace hE := hE.trans (Below.mono ew2 hB)
    replace hn := hn.ext ew2
    replace hlow := hlow.ext ew2
    replace hB := Nat.le_trans hB ew2.size
    refine l_nil ?_
    refine x_seq ?_
    refine c_if _ rfl (fun h2 => ?_) (fun h2 => ?_)
    · refine c_reg ?_
      refine l_cons (o_p tbOk rfl rfl rfl ?_)
      refine l_cons (o_p tbOk rfl rfl rfl ?_)
      refine l_cons (o_bs tbOk rfl rfl rfl rfl rfl rfl rfl (sz1 rfl) rfl rfl rfl ?_)
      intro bw3 w3 qbw3 ew3 hbw3
      have nbw3 := nM_of hlow qbw3
      replace hown := hown.ext hlow hB ew3
      replace hE := hE.trans (Below.mono ew3 hB)
      replace hn := hn.ext ew3
      replace hlow := hlow.ext ew3
      replace hB := Nat.le_trans hB ew3.size
      refine l_cons (o_app1 tbOk hown hbw3 nbw3 ⟨rfl, by unfold I64; omega⟩ hlow hB rfl rfl rfl rfl rfl rfl rfl (by omega) (by show (_ + _) * 8 ≤ _; omega) rfl rfl ?_)
      intro vw4 w4 Mw4 hw4 sw4 frw4 blw4
      replace hE := hE.trans sw4.below
      replace hn := hn.stp sw4
      replace hsub := fun b h => sw4.sub b (hsub b h)
      replace hlow := sw4.low
      replace hB := Nat.le_trans hB sw4.upd.1
      replace hown := hw4
      clear hw4
      refine l_cons (o_p tbOk rfl rfl rfl ?_)
      refine l_nil ?_
      refine x_blk ?_
      refine x_seq ?_
      refine c_reg ?_
      refine l_cons (o_p tbOk rfl rfl rfl ?_)
      refine l_cons (o_ar rfl rfl rfl (IntWalk.i64_in _ (by omega)) rfl rfl ?_)
      refine l_cons (o_p tbOk rfl rfl rfl ?_)
      refine l_nil ?_
      exact x_round3 (k + 1) (vw4) (Mw4) (subL_cons rfl (subL_cons rfl (subL_cons rfl (subL_nil)))) ⟨by omega, by rw [pick_yes (p := (fun k => (@decide (Rch needs k k) (Classical.propDecidable _)))) h2]; exact hown, hn, hlow, hsub, hE, hB⟩ (by omega)
    · refine c_skip ?_
      refine x_blk ?_
      refine x_seq ?_
      refine c_reg ?_
      refine l_cons (o_p tbOk rfl rfl rfl ?_)
      refine l_cons (o_ar rfl rfl rfl (IntWalk.i64_in _ (by omega)) rfl rfl ?_)
      refine l_cons (o_p tbOk rfl rfl rfl ?_)
      refine l_nil ?_
      exact x_round3 (k + 1) (v) (M1) (subL_cons rfl (subL_cons rfl (subL_cons rfl (subL_nil)))) ⟨by omega, by rw [pick_no (p := (fun k => (@decide (Rch needs k k) (Classical.propDecidable _)))) h2]; exact hown, hn, hlow, hsub, hE, hB⟩ (by omega)
  · refine c_exit ?_
    refine x_seqE ?_
    refine x_seqE ?_
    refine x_blkE ?_
    refine x_seq ?_
    refine c_seq ?_
    refine c_reg ?_
    refine l_cons (o_p tbOk rfl rfl rfl ?_)
    refine l_cons (o_p tbOk rfl rfl rfl ?_)
    refine l_nil ?_
    refine x_seq ?_
    refine c_ret ?_
    refine x_ret1 rfl rfl ?_
    have hpk := hpl k
    obtain rfl : k = needs.length := by omega
    exact ⟨hown.sl (by omega) hlow0 hsub, hE⟩

/-- Circles: the nodes on one. -/
theorem circles_spec (M : Nat → Prop) (w : World) (vn : Value) (needs : List (List Int)) (hn : Sl M w vn needs) (hlow0 : Low M w) (hsm : needs.length ≤ 1000000) :
    Calls Try.prog 14 #[vn] w (Ret fun r w' => Sl M w' r (circlesL needs) ∧ Ext w w') := by
  have hlow := hlow0
  have hB : w.heap.size ≤ w.heap.size := Nat.le_refl _
  have hE : Below w.heap.size w w := Below.refl _ _
  have hsub : ∀ b, M b → M b := fun _ h => h
  refine c_enter (n := 22) Try.func14 rfl rfl rfl ?_
  have hpl := pick_length (fun k => (@decide (Rch needs k k) (Classical.propDecidable _)))
  refine c_seq ?_
  refine c_reg ?_
  refine l_cons (o_p tbOk rfl rfl rfl ?_)
  refine l_nil ?_
  refine x_seq ?_
  refine c_seq ?_
  refine c_reg ?_
  refine l_cons (o_p tbOk rfl rfl rfl ?_)
  refine l_nil ?_
  refine x_seq ?_
  refine c_seq ?_
  refine c_seq ?_
  refine c_reg ?_
  refine l_cons (o_p tbOk rfl rfl rfl ?_)
  refine l_cons (o_len tbOk hn rfl rfl rfl rfl rfl ?_)
  refine l_cons (o_p tbOk rfl rfl rfl ?_)
  refine l_nil ?_
  refine x_seq ?_
  refine c_blk ?_
  refine c_loop3 (X := Nat) (Y := Value) (Z := Nat → Prop) (fun k v M1 => [(0, vn), (3, v), (7, .int .i64 (k : Nat)), (5, vn), (6, .int .i64 (needs.length : Int))]) (fun k v M1 w' => k ≤ needs.length ∧ OwnSl 3 w.heap.size M1 w' v (pickUpto (fun k => (@decide (Rch needs k k) (Classical.propDecidable _))) k) ∧ Sl M1 w' vn needs ∧ Low M1 w' ∧ (∀ b, M b → M1 b) ∧ Below w.heap.size w w' ∧ w.heap.size ≤ w'.heap.size) (fun k v M1 => needs.length - k) (0) (.slice none 0 0) (M) (subL_cons rfl (subL_cons rfl (subL_cons rfl (subL_cons rfl (subL_cons rfl (subL_nil)))))) ?_ ?_
  · exact ⟨Nat.zero_le _, own_nil, hn, hlow, hsub, hE, hB⟩
  rintro k v M1 w1 ⟨hk, hown, hn, hlow, hsub, hE, hB⟩
  refine c_seq ?_
  refine c_reg ?_
  refine l_cons (o_p tbOk rfl rfl rfl ?_)
  refine l_nil ?_
  refine x_seq ?_
  refine c_seq ?_
  refine c_ifP _ rfl (fun h => ?_) (fun h => ?_)
  · have hkn : k < needs.length := by omega
    have hk2 := hpl k
    refine c_skip ?_
    refine x_seq ?_
    refine c_seq ?_
    refine c_blk ?_
    refine c_seq ?_
    refine c_reg ?_
    refine l_cons (o_p tbOk rfl rfl rfl ?_)
    refine l_cons (o_p tbOk rfl rfl rfl ?_)
    refine l_nil ?_
    refine x_seq ?_
    refine c_seq ?_
    refine c_reg ?_
    refine l_cons (o_p tbOk rfl rfl rfl ?_)
    refine l_cons (o_p tbOk rfl rfl rfl ?_)
    refine l_cons (o_call fo24 rfl rfl rfl (reach_spec M1 _ vn needs k hn hkn hlow hsm) ?_)
    rintro r w2 ⟨hr, ew2⟩
    replace hown := hown.ext hlow hB ew2
    replace hE := hE.trans (Below.mono ew2 hB)
    replace hn := hn.ext ew2
    replace hlow := hlow.ext ew2
    replace hB := Nat.le_trans hB ew2.size
    refine l_cons (o_p tbOk rfl rfl rfl ?_)
    refine l_cons (o_ixS tbOk hr (List.getElem?_eq_getElem (by rw [reachM_length]; exact hkn)) rfl rfl rfl rfl rfl rfl rfl rfl rfl ?_)
    intro b1 o1 u1 hr1 hat1
    obtain rfl := hr1
    rw [reachM_get] at hat1
    refine l_cons (o_ld tbOk (hat1.cell 0 _ rfl) rfl rfl rfl rfl rfl ?_)
    refine l_nil ?_
    refine x_seq ?_
    refine c_if _ rfl (fun h2 => ?_) (fun h2 => ?_)
    · refine c_reg ?_
      refine l_cons (o_p tbOk rfl rfl rfl ?_)
      refine l_cons (o_p tbOk rfl rfl rfl ?_)
      refine l_cons (o_bs tbOk rfl rfl rfl rfl rfl rfl rfl (sz1 rfl) rfl rfl rfl ?_)
      intro bw3 w3 qbw3 ew3 hbw3
      have nbw3 := nM_of hlow qbw3
      replace hown := hown.ext hlow hB ew3
      replace hE := hE.trans (Below.mono ew3 hB)
      replace hn := hn.ext ew3
      replace hlow := hlow.ext ew3
      replace hB := Nat.le_trans hB ew3.size
      refine l_cons (o_app1 tbOk hown hbw3 nbw3 ⟨rfl, by unfold I64; omega⟩ hlow hB rfl rfl rfl rfl rfl rfl rfl (by omega) (by show (_ + _) * 8 ≤ _; omega) rfl rfl ?_)
      intro vw4 w4 Mw4 hw4 sw4 frw4 blw4
      replace hE := hE.trans sw4.below
      replace hn := hn.stp sw4
      replace hsub := fun b h => sw4.sub b (hsub b h)
      replace hlow := sw4.low
      replace hB := Nat.le_trans hB sw4.upd.1
      replace hown := hw4
      clear hw4
      refine l_cons (o_p tbOk rfl rfl rfl ?_)
      refine l_nil ?_
      refine x_blk ?_
      refine x_seq ?_
      refine c_reg ?_
      refine l_cons (o_ar rfl rfl rfl (IntWalk.i64_in _ (by omega)) rfl rfl ?_)
      refine l_cons (o_p tbOk rfl rfl rfl ?_)
      refine l_nil ?_
      exact x_round3 (k + 1) (vw4) (Mw4) (subL_cons rfl (subL_cons rfl (subL_cons rfl (subL_cons rfl (subL_cons rfl (subL_nil)))))) ⟨by omega, by rw [pick_yes (p := (fun k => (@decide (Rch needs k k) (Classical.propDecidable _)))) h2]; exact hown, hn, hlow, hsub, hE, hB⟩ (by omega)
    · refine c_skip ?_
      refine x_blk ?_
      refine x_seq ?_
      refine c_reg ?_
      refine l_cons (o_ar rfl rfl rfl (IntWalk.i64_in _ (by omega)) rfl rfl ?_)
      refine l_cons (o_p tbOk rfl rfl rfl ?_)
      refine l_nil ?_
      exact x_round3 (k + 1) (v) (M1) (subL_cons rfl (subL_cons rfl (subL_cons rfl (subL_cons rfl (subL_cons rfl (subL_nil)))))) ⟨by omega, by rw [pick_no (p := (fun k => (@decide (Rch needs k k) (Classical.propDecidable _)))) h2]; exact hown, hn, hlow, hsub, hE, hB⟩ (by omega)
  · refine c_exit ?_
    refine x_seqE ?_
    refine x_seqE ?_
    refine x_blkE ?_
    refine x_seq ?_
    refine c_seq ?_
    refine c_reg ?_
    refine l_cons (o_p tbOk rfl rfl rfl ?_)
    refine l_cons (o_p tbOk rfl rfl rfl ?_)
    refine l_nil ?_
    refine x_seq ?_
    refine c_ret ?_
    refine x_ret1 rfl rfl ?_
    have hpk := hpl k
    obtain rfl : k = needs.length := by omega
    exact ⟨hown.sl (by omega) hlow0 hsub, hE⟩

/-- few: may a graph be gone through? -/
theorem few_spec (M : Nat → Prop) (w : World) (vn : Value) (needs : List (List Int)) (hn : Sl M w vn needs) :
    Calls Try.prog 8 #[vn] w (Ret fun r w' => (∃ b : Bool, r = .bool b ∧ (b = true → needs.length ≤ 14 ∧ ∀ l ∈ needs, l.length ≤ 100)) ∧ w = w') := by
  have hnl := hn.lt
  refine c_enter (n := 25) Try.func8 rfl rfl rfl ?_
  refine c_seq ?_
  refine c_reg ?_
  refine l_cons (o_p tbOk rfl rfl rfl ?_)
  refine l_nil ?_
  refine x_seq ?_
  refine c_seq ?_
  refine c_reg ?_
  refine l_cons (o_p tbOk rfl rfl rfl ?_)
  refine l_nil ?_
  refine x_seq ?_
  refine c_seq ?_
  refine c_seq ?_
  refine c_reg ?_
  refine l_cons (o_p tbOk rfl rfl rfl ?_)
  refine l_nil ?_
  refine x_seq ?_
  refine c_blk ?_
  refine c_loop2 (X := Nat) (Y := Int) (fun k e => [(0, vn), (3, .int .i64 e), (4, .int .i64 (k : Nat))]) (fun k e w' => w = w' ∧ k ≤ needs.length ∧ I64 e ∧ (needs.length ≤ 14 → e = edges needs k)) (fun k e => needs.length - k) (0) (0) (subL_cons rfl (subL_cons rfl (subL_cons rfl (subL_nil)))) ?_ ?_
  · exact ⟨rfl, Nat.zero_le _, by unfold I64; omega, fun _ => rfl⟩
  rintro k e _ ⟨rfl, hk, he, hs⟩
  refine c_seq ?_
  refine c_seq ?_
  refine c_reg ?_
  refine l_cons (o_p tbOk rfl rfl rfl ?_)
  refine l_cons (o_p tbOk rfl rfl rfl ?_)
  refine l_cons (o_len tbOk hn rfl rfl rfl rfl rfl ?_)
  refine l_cons (o_p tbOk rfl rfl rfl ?_)
  refine l_nil ?_
  refine x_seq ?_
  refine c_ifP _ rfl (fun h => ?_) (fun h => ?_)
  · have hkn : k < needs.length := by omega
    refine c_skip ?_
    refine x_seq ?_
    refine c_seq ?_
    refine c_blk ?_
    refine c_reg ?_
    refine l_cons (o_p tbOk rfl rfl rfl ?_)
    refine l_cons (o_p tbOk rfl rfl rfl ?_)
    refine l_cons (o_p tbOk rfl rfl rfl ?_)
    refine l_cons (o_ixS tbOk hn (List.getElem?_eq_getElem hkn) rfl rfl rfl rfl rfl rfl rfl rfl rfl ?_)
    intro b o u hr hat
    have hs2 : Sl M w u needs[k] := hr
    replace hat := hat.sl hs2
    have hsl := hs2.lt
    refine l_cons (o_ld tbOk (hat.cell 0 _ rfl) rfl rfl rfl rfl rfl ?_)
    refine l_cons (o_len tbOk hs2 rfl rfl rfl rfl rfl ?_)
    refine l_cons (o_ar rfl rfl rfl rfl rfl rfl ?_)
    refine l_cons (o_p tbOk rfl rfl rfl ?_)
    refine l_nil ?_
    refine x_blk ?_
    refine x_seq ?_
    refine c_reg ?_
    refine l_cons (o_p tbOk rfl rfl rfl ?_)
    refine l_cons (o_ar rfl rfl rfl (IntWalk.i64_in _ (by omega)) rfl rfl ?_)
    refine l_cons (o_p tbOk rfl rfl rfl ?_)
    refine l_nil ?_
    exact x_round2 (k + 1) (IntKind.i64.wrap (e + (needs[k].length : Int))) (subL_cons rfl (subL_cons rfl (subL_cons rfl (subL_nil)))) ⟨rfl, by omega, i64_wrap _, fun h14 => by rw [hs h14, edges_step hkn]; have := edges_bd hn.lens k hk; exact IntWalk.i64_in _ (by omega)⟩ (by omega)
  · refine c_exit ?_
    refine x_seqE ?_
    refine x_seqE ?_
    refine x_blkE ?_
    refine x_seq ?_
    refine c_seq ?_
    refine c_reg ?_
    refine l_cons (o_p tbOk rfl rfl rfl ?_)
    refine l_cons (o_len tbOk hn rfl rfl rfl rfl rfl ?_)
    refine l_cons (o_p tbOk rfl rfl rfl ?_)
    refine l_cons (o_p tbOk rfl rfl rfl ?_)
    refine l_splitP 21 _ rfl (fun h14 => ?_) (fun h14 => ?_)
    · refine l_cons (o_p tbOk rfl rfl rfl ?_)
      refine l_cons (o_p tbOk rfl rfl rfl ?_)
      refine l_cons (o_p tbOk rfl rfl rfl ?_)
      refine l_cons (o_p tbOk rfl rfl rfl ?_)
      refine l_nil ?_
      refine x_seq ?_
      refine c_ret ?_
      refine x_ret1 rfl rfl ?_
      exact ⟨⟨_, rfl, fun hb => ⟨by omega, edges_few hn.lens (by omega) (hs (by omega)) (of_decide_eq_true hb)⟩⟩, rfl⟩
    · refine l_cons (o_skip rfl rfl ?_)
      refine l_cons (o_skip rfl rfl ?_)
      refine l_cons (o_p tbOk rfl rfl rfl ?_)
      refine l_cons (o_p tbOk rfl rfl rfl ?_)
      refine l_nil ?_
      refine x_seq ?_
      refine c_ret ?_
      refine x_ret1 rfl rfl ?_
      exact ⟨⟨_, rfl, fun hb => by simp at hb⟩, rfl⟩

/-- The document's reach. -/
theorem refReach_spec (M : Nat → Prop) (w : World) (vn : Value) (needs : List (List Int)) (i : Int) (hi64 : I64 i) (hn : Sl M w vn needs) (hlow0 : Low M w) (hsm : needs.length ≤ 1000000) :
    Calls Try.prog 15 #[vn, .int .i64 i] w (Ret fun r w' => Sl M w' r (reachL needs i) ∧ Ext w w') := by
  have hlow := hlow0
  have hB : w.heap.size ≤ w.heap.size := Nat.le_refl _
  have hE : Below w.heap.size w w := Below.refl _ _
  have hsub : ∀ b, M b → M b := fun _ h => h
  refine c_enter (n := 32) Try.func15 rfl rfl rfl ?_
  have hpl := pick_length (fun k => (@decide (Rch needs i.toNat k) (Classical.propDecidable _)))
  refine c_seq ?_
  refine c_reg ?_
  refine l_cons (o_p tbOk rfl rfl rfl ?_)
  refine l_nil ?_
  refine x_seq ?_
  refine c_seq ?_
  refine c_reg ?_
  refine l_cons (o_p tbOk rfl rfl rfl ?_)
  refine l_nil ?_
  refine x_seq ?_
  refine c_seq ?_
  refine c_seq ?_
  refine c_reg ?_
  refine l_cons (o_p tbOk rfl rfl rfl ?_)
  refine l_nil ?_
  refine x_seq ?_
  refine c_blk ?_
  refine c_loop3 (X := Nat) (Y := Value) (Z := Nat → Prop) (fun k v M1 => [(0, vn), (5, v), (6, .int .i64 (k : Nat)), (1, .int .i64 i)]) (fun k v M1 w' => k ≤ needs.length ∧ (0 < k → isNode needs i = true) ∧ OwnSl 3 w.heap.size M1 w' v (pickUpto (fun k => (@decide (Rch needs i.toNat k) (Classical.propDecidable _))) k) ∧ Sl M1 w' vn needs ∧ Low M1 w' ∧ (∀ b, M b → M1 b) ∧ Below w.heap.size w w' ∧ w.heap.size ≤ w'.heap.size) (fun k v M1 => needs.length - k) (0) (.slice none 0 0) (M) (subL_cons rfl (subL_cons rfl (subL_cons rfl (subL_cons rfl (subL_nil))))) ?_ ?_
  · exact ⟨Nat.zero_le _, fun h => absurd h (Nat.lt_irrefl _), own_nil, hn, hlow, hsub, hE, hB⟩
  rintro k v M1 w1 ⟨hk, hg, hown, hn, hlow, hsub, hE, hB⟩
  refine c_seq ?_
  refine c_seq ?_
  refine c_reg ?_
  refine l_cons (o_p tbOk rfl rfl rfl ?_)
  refine l_cons (o_p tbOk rfl rfl rfl ?_)
  refine l_cons (o_len tbOk hn rfl rfl rfl rfl rfl ?_)
  refine l_cons (o_p tbOk rfl rfl rfl ?_)
  refine l_cons (o_p tbOk rfl rfl rfl ?_)
  refine l_splitP 11 _ rfl (fun h => ?_) (fun h => ?_)
  · refine l_cons (o_p tbOk rfl rfl rfl ?_)
    refine l_cons (o_p tbOk rfl rfl rfl ?_)
    refine l_cons (o_p tbOk rfl rfl rfl ?_)
    refine l_cons (o_p tbOk rfl rfl rfl ?_)
    refine l_splitP 15 _ rfl (fun h3 => ?_) (fun h3 => ?_)
    · refine l_cons (o_p tbOk rfl rfl rfl ?_)
      refine l_cons (o_p tbOk rfl rfl rfl ?_)
      refine l_cons (o_len tbOk hn rfl rfl rfl rfl rfl ?_)
      refine l_cons (o_p tbOk rfl rfl rfl ?_)
      refine l_cons (o_p tbOk rfl rfl rfl ?_)
      refine l_nil ?_
      refine x_seq ?_
      refine c_ifP _ rfl (fun h4 => ?_) (fun h4 => ?_)
      · obtain ⟨i, rfl⟩ := Int.eq_ofNat_of_zero_le h3
        have hin : i < needs.length := by omega
        have hgi : isNode needs (i : Int) = true := decide_eq_true ⟨h3, h4⟩
        have hkn : k < needs.length := by omega
        have hk2 := hpl k
        refine c_skip ?_
        refine x_seq ?_
        refine c_seq ?_
        refine c_blk ?_
        refine c_seq ?_
        refine c_reg ?_
        refine l_cons (o_p tbOk rfl rfl rfl ?_)
        refine l_cons (o_p tbOk rfl rfl rfl ?_)
        refine l_cons (o_p tbOk rfl rfl rfl ?_)
        refine l_cons (o_call fo25 rfl rfl rfl (reaches_spec M1 _ vn needs i k hn hin hkn hlow hsm) ?_)
        rintro _ w2 ⟨rfl, ew2⟩
        replace hown := hown.ext hlow hB ew2
        replace hE := hE.trans (Below.mono ew2 hB)
        replace hn := hn.ext ew2
        replace hlow := hlow.ext ew2
        replace hB := Nat.le_trans hB ew2.size
        refine l_nil ?_
        refine x_seq ?_
        refine c_if _ rfl (fun h2 => ?_) (fun h2 => ?_)
        · refine c_reg ?_
          refine l_cons (o_p tbOk rfl rfl rfl ?_)
          refine l_cons (o_p tbOk rfl rfl rfl ?_)
          refine l_cons (o_bs tbOk rfl rfl rfl rfl rfl rfl rfl (sz1 rfl) rfl rfl rfl ?_)
          intro bw3 w3 qbw3 ew3 hbw3
          have nbw3 := nM_of hlow qbw3
          replace hown := hown.ext hlow hB ew3
          replace hE := hE.trans (Below.mono ew3 hB)
          replace hn := hn.ext ew3
          replace hlow := hlow.ext ew3
          replace hB := Nat.le_trans hB ew3.size
          refine l_cons (o_app1 tbOk hown hbw3 nbw3 ⟨rfl, by unfold I64; omega⟩ hlow hB rfl rfl rfl rfl rfl rfl rfl (by omega) (by show (_ + _) * 8 ≤ _; omega) rfl rfl ?_)
          intro vw4 w4 Mw4 hw4 sw4 frw4 blw4
          replace hE := hE.trans sw4.below
          replace hn := hn.stp sw4
          replace hsub := fun b h => sw4.sub b (hsub b h)
          replace hlow := sw4.low
          replace hB := Nat.le_trans hB sw4.upd.1
          replace hown := hw4
          clear hw4
          refine l_cons (o_p tbOk rfl rfl rfl ?_)
          refine l_nil ?_
          refine x_blk ?_
          refine x_seq ?_
          refine c_reg ?_
          refine l_cons (o_p tbOk rfl rfl rfl ?_)
          refine l_cons (o_ar rfl rfl rfl (IntWalk.i64_in _ (by omega)) rfl rfl ?_)
          refine l_cons (o_p tbOk rfl rfl rfl ?_)
          refine l_nil ?_
          exact x_round3 (k + 1) (vw4) (Mw4) (subL_cons rfl (subL_cons rfl (subL_cons rfl (subL_cons rfl (subL_nil))))) ⟨by omega, fun _ => hgi, by rw [pick_yes (p := (fun k => (@decide (Rch needs (i : Int).toNat k) (Classical.propDecidable _)))) h2]; exact hown, hn, hlow, hsub, hE, hB⟩ (by omega)
        · refine c_skip ?_
          refine x_blk ?_
          refine x_seq ?_
          refine c_reg ?_
          refine l_cons (o_p tbOk rfl rfl rfl ?_)
          refine l_cons (o_ar rfl rfl rfl (IntWalk.i64_in _ (by omega)) rfl rfl ?_)
          refine l_cons (o_p tbOk rfl rfl rfl ?_)
          refine l_nil ?_
          exact x_round3 (k + 1) (v) (M1) (subL_cons rfl (subL_cons rfl (subL_cons rfl (subL_cons rfl (subL_nil))))) ⟨by omega, fun _ => hgi, by rw [pick_no (p := (fun k => (@decide (Rch needs (i : Int).toNat k) (Classical.propDecidable _)))) h2]; exact hown, hn, hlow, hsub, hE, hB⟩ (by omega)
      · refine c_exit ?_
        refine x_seqE ?_
        refine x_seqE ?_
        refine x_blkE ?_
        refine x_seq ?_
        refine c_seq ?_
        refine c_reg ?_
        refine l_cons (o_p tbOk rfl rfl rfl ?_)
        refine l_cons (o_p tbOk rfl rfl rfl ?_)
        refine l_nil ?_
        refine x_seq ?_
        refine c_ret ?_
        refine x_ret1 rfl rfl ?_
        have hpk := hpl k
        obtain rfl : k = 0 := Nat.eq_zero_of_not_pos (fun h0 => by have := of_decide_eq_true (hg h0); omega)
        rw [show reachL needs i = pickUpto (fun k => (@decide (Rch needs i.toNat k) (Classical.propDecidable _))) 0 by simp [reachL, pickUpto, isNode, h4]]
        exact ⟨hown.sl (by omega) hlow0 hsub, hE⟩
    · refine l_cons (o_skip rfl rfl ?_)
      refine l_cons (o_skip rfl rfl ?_)
      refine l_cons (o_skip rfl rfl ?_)
      refine l_cons (o_skip rfl rfl ?_)
      refine l_cons (o_p tbOk rfl rfl rfl ?_)
      refine l_nil ?_
      refine x_seq ?_
      refine c_ifF rfl ?_
      refine c_exit ?_
      refine x_seqE ?_
      refine x_seqE ?_
      refine x_blkE ?_
      refine x_seq ?_
      refine c_seq ?_
      refine c_reg ?_
      refine l_cons (o_p tbOk rfl rfl rfl ?_)
      refine l_cons (o_p tbOk rfl rfl rfl ?_)
      refine l_nil ?_
      refine x_seq ?_
      refine c_ret ?_
      refine x_ret1 rfl rfl ?_
      have hpk := hpl k
      obtain rfl : k = 0 := Nat.eq_zero_of_not_pos (fun h0 => by have := of_decide_eq_true (hg h0); omega)
      rw [show reachL needs i = pickUpto (fun k => (@decide (Rch needs i.toNat k) (Classical.propDecidable _))) 0 by simp [reachL, pickUpto, isNode, h3]]
      exact ⟨hown.sl (by omega) hlow0 hsub, hE⟩
  · refine l_cons (o_skip rfl rfl ?_)
    refine l_cons (o_skip rfl rfl ?_)
    refine l_cons (o_p tbOk rfl rfl rfl ?_)
    refine l_cons (o_p tbOk rfl rfl rfl ?_)
    refine l_cons (o_skip rfl rfl ?_)
    refine l_cons (o_skip rfl rfl ?_)
    refine l_cons (o_skip rfl rfl ?_)
    refine l_cons (o_skip rfl rfl ?_)
    refine l_cons (o_p tbOk rfl rfl rfl ?_)
    refine l_nil ?_
    refine x_seq ?_
    refine c_ifF rfl ?_
    refine c_exit ?_
    refine x_seqE ?_
    refine x_seqE ?_
    refine x_blkE ?_
    refine x_seq ?_
    refine c_seq ?_
    refine c_reg ?_
    refine l_cons (o_p tbOk rfl rfl rfl ?_)
    refine l_cons (o_p tbOk rfl rfl rfl ?_)
    refine l_nil ?_
    refine x_seq ?_
    refine c_ret ?_
    refine x_ret1 rfl rfl ?_
    have hpk := hpl k
    obtain rfl : k = needs.length := by omega
    rw [show reachL needs i = pickUpto (fun k => (@decide (Rch needs i.toNat k) (Classical.propDecidable _))) needs.length from pick_node (fun h0 => hg h0)]
    exact ⟨hown.sl (by omega) hlow0 hsub, hE⟩

/-- The document's behind. -/
theorem refBehind_spec (M : Nat → Prop) (w : World) (vn : Value) (needs : List (List Int)) (i : Int) (hi64 : I64 i) (hn : Sl M w vn needs) (hlow0 : Low M w) (hsm : needs.length ≤ 1000000) :
    Calls Try.prog 17 #[vn, .int .i64 i] w (Ret fun r w' => Sl M w' r (behindL needs i) ∧ Ext w w') := by
  have hlow := hlow0
  have hB : w.heap.size ≤ w.heap.size := Nat.le_refl _
  have hE : Below w.heap.size w w := Below.refl _ _
  have hsub : ∀ b, M b → M b := fun _ h => h
  refine c_enter (n := 32) Try.func17 rfl rfl rfl ?_
  have hpl := pick_length (fun k => (@decide (Rch needs k i.toNat) (Classical.propDecidable _)))
  refine c_seq ?_
  refine c_reg ?_
  refine l_cons (o_p tbOk rfl rfl rfl ?_)
  refine l_nil ?_
  refine x_seq ?_
  refine c_seq ?_
  refine c_reg ?_
  refine l_cons (o_p tbOk rfl rfl rfl ?_)
  refine l_nil ?_
  refine x_seq ?_
  refine c_seq ?_
  refine c_seq ?_
  refine c_reg ?_
  refine l_cons (o_p tbOk rfl rfl rfl ?_)
  refine l_nil ?_
  refine x_seq ?_
  refine c_blk ?_
  refine c_loop3 (X := Nat) (Y := Value) (Z := Nat → Prop) (fun k v M1 => [(0, vn), (5, v), (6, .int .i64 (k : Nat)), (1, .int .i64 i)]) (fun k v M1 w' => k ≤ needs.length ∧ (0 < k → isNode needs i = true) ∧ OwnSl 3 w.heap.size M1 w' v (pickUpto (fun k => (@decide (Rch needs k i.toNat) (Classical.propDecidable _))) k) ∧ Sl M1 w' vn needs ∧ Low M1 w' ∧ (∀ b, M b → M1 b) ∧ Below w.heap.size w w' ∧ w.heap.size ≤ w'.heap.size) (fun k v M1 => needs.length - k) (0) (.slice none 0 0) (M) (subL_cons rfl (subL_cons rfl (subL_cons rfl (subL_cons rfl (subL_nil))))) ?_ ?_
  · exact ⟨Nat.zero_le _, fun h => absurd h (Nat.lt_irrefl _), own_nil, hn, hlow, hsub, hE, hB⟩
  rintro k v M1 w1 ⟨hk, hg, hown, hn, hlow, hsub, hE, hB⟩
  refine c_seq ?_
  refine c_seq ?_
  refine c_reg ?_
  refine l_cons (o_p tbOk rfl rfl rfl ?_)
  refine l_cons (o_p tbOk rfl rfl rfl ?_)
  refine l_cons (o_len tbOk hn rfl rfl rfl rfl rfl ?_)
  refine l_cons (o_p tbOk rfl rfl rfl ?_)
  refine l_cons (o_p tbOk rfl rfl rfl ?_)
  refine l_splitP 11 _ rfl (fun h => ?_) (fun h => ?_)
  · refine l_cons (o_p tbOk rfl rfl rfl ?_)
    refine l_cons (o_p tbOk rfl rfl rfl ?_)
    refine l_cons (o_p tbOk rfl rfl rfl ?_)
    refine l_cons (o_p tbOk rfl rfl rfl ?_)
    refine l_splitP 15 _ rfl (fun h3 => ?_) (fun h3 => ?_)
    · refine l_cons (o_p tbOk rfl rfl rfl ?_)
      refine l_cons (o_p tbOk rfl rfl rfl ?_)
      refine l_cons (o_len tbOk hn rfl rfl rfl rfl rfl ?_)
      refine l_cons (o_p tbOk rfl rfl rfl ?_)
      refine l_cons (o_p tbOk rfl rfl rfl ?_)
      refine l_nil ?_
      refine x_seq ?_
      refine c_ifP _ rfl (fun h4 => ?_) (fun h4 => ?_)
      · obtain ⟨i, rfl⟩ := Int.eq_ofNat_of_zero_le h3
        have hin : i < needs.length := by omega
        have hgi : isNode needs (i : Int) = true := decide_eq_true ⟨h3, h4⟩
        have hkn : k < needs.length := by omega
        have hk2 := hpl k
        refine c_skip ?_
        refine x_seq ?_
        refine c_seq ?_
        refine c_blk ?_
        refine c_seq ?_
        refine c_reg ?_
        refine l_cons (o_p tbOk rfl rfl rfl ?_)
        refine l_cons (o_p tbOk rfl rfl rfl ?_)
        refine l_cons (o_p tbOk rfl rfl rfl ?_)
        refine l_cons (o_call fo25 rfl rfl rfl (reaches_spec M1 _ vn needs k i hn hkn hin hlow hsm) ?_)
        rintro _ w2 ⟨rfl, ew2⟩
        replace hown := hown.ext hlow hB ew2
        replace hE := hE.trans (Below.mono ew2 hB)
        replace hn := hn.ext ew2
        replace hlow := hlow.ext ew2
        replace hB := Nat.le_trans hB ew2.size
        refine l_nil ?_
        refine x_seq ?_
        refine c_if _ rfl (fun h2 => ?_) (fun h2 => ?_)
        · refine c_reg ?_
          refine l_cons (o_p tbOk rfl rfl rfl ?_)
          refine l_cons (o_p tbOk rfl rfl rfl ?_)
          refine l_cons (o_bs tbOk rfl rfl rfl rfl rfl rfl rfl (sz1 rfl) rfl rfl rfl ?_)
          intro bw3 w3 qbw3 ew3 hbw3
          have nbw3 := nM_of hlow qbw3
          replace hown := hown.ext hlow hB ew3
          replace hE := hE.trans (Below.mono ew3 hB)
          replace hn := hn.ext ew3
          replace hlow := hlow.ext ew3
          replace hB := Nat.le_trans hB ew3.size
          refine l_cons (o_app1 tbOk hown hbw3 nbw3 ⟨rfl, by unfold I64; omega⟩ hlow hB rfl rfl rfl rfl rfl rfl rfl (by omega) (by show (_ + _) * 8 ≤ _; omega) rfl rfl ?_)
          intro vw4 w4 Mw4 hw4 sw4 frw4 blw4
          replace hE := hE.trans sw4.below
          replace hn := hn.stp sw4
          replace hsub := fun b h => sw4.sub b (hsub b h)
          replace hlow := sw4.low
          replace hB := Nat.le_trans hB sw4.upd.1
          replace hown := hw4
          clear hw4
          refine l_cons (o_p tbOk rfl rfl rfl ?_)
          refine l_nil ?_
          refine x_blk ?_
          refine x_seq ?_
          refine c_reg ?_
          refine l_cons (o_p tbOk rfl rfl rfl ?_)
          refine l_cons (o_ar rfl rfl rfl (IntWalk.i64_in _ (by omega)) rfl rfl ?_)
          refine l_cons (o_p tbOk rfl rfl rfl ?_)
          refine l_nil ?_
          exact x_round3 (k + 1) (vw4) (Mw4) (subL_cons rfl (subL_cons rfl (subL_cons rfl (subL_cons rfl (subL_nil))))) ⟨by omega, fun _ => hgi, by rw [pick_yes (p := (fun k => (@decide (Rch needs k (i : Int).toNat) (Classical.propDecidable _)))) h2]; exact hown, hn, hlow, hsub, hE, hB⟩ (by omega)
        · refine c_skip ?_
          refine x_blk ?_
          refine x_seq ?_
          refine c_reg ?_
          refine l_cons (o_p tbOk rfl rfl rfl ?_)
          refine l_cons (o_ar rfl rfl rfl (IntWalk.i64_in _ (by omega)) rfl rfl ?_)
          refine l_cons (o_p tbOk rfl rfl rfl ?_)
          refine l_nil ?_
          exact x_round3 (k + 1) (v) (M1) (subL_cons rfl (subL_cons rfl (subL_cons rfl (subL_cons rfl (subL_nil))))) ⟨by omega, fun _ => hgi, by rw [pick_no (p := (fun k => (@decide (Rch needs k (i : Int).toNat) (Classical.propDecidable _)))) h2]; exact hown, hn, hlow, hsub, hE, hB⟩ (by omega)
      · refine c_exit ?_
        refine x_seqE ?_
        refine x_seqE ?_
        refine x_blkE ?_
        refine x_seq ?_
        refine c_seq ?_
        refine c_reg ?_
        refine l_cons (o_p tbOk rfl rfl rfl ?_)
        refine l_cons (o_p tbOk rfl rfl rfl ?_)
        refine l_nil ?_
        refine x_seq ?_
        refine c_ret ?_
        refine x_ret1 rfl rfl ?_
        have hpk := hpl k
        obtain rfl : k = 0 := Nat.eq_zero_of_not_pos (fun h0 => by have := of_decide_eq_true (hg h0); omega)
        rw [show behindL needs i = pickUpto (fun k => (@decide (Rch needs k i.toNat) (Classical.propDecidable _))) 0 by simp [behindL, pickUpto, isNode, h4]]
        exact ⟨hown.sl (by omega) hlow0 hsub, hE⟩
    · refine l_cons (o_skip rfl rfl ?_)
      refine l_cons (o_skip rfl rfl ?_)
      refine l_cons (o_skip rfl rfl ?_)
      refine l_cons (o_skip rfl rfl ?_)
      refine l_cons (o_p tbOk rfl rfl rfl ?_)
      refine l_nil ?_
      refine x_seq ?_
      refine c_ifF rfl ?_
      refine c_exit ?_
      refine x_seqE ?_
      refine x_seqE ?_
      refine x_blkE ?_
      refine x_seq ?_
      refine c_seq ?_
      refine c_reg ?_
      refine l_cons (o_p tbOk rfl rfl rfl ?_)
      refine l_cons (o_p tbOk rfl rfl rfl ?_)
      refine l_nil ?_
      refine x_seq ?_
      refine c_ret ?_
      refine x_ret1 rfl rfl ?_
      have hpk := hpl k
      obtain rfl : k = 0 := Nat.eq_zero_of_not_pos (fun h0 => by have := of_decide_eq_true (hg h0); omega)
      rw [show behindL needs i = pickUpto (fun k => (@decide (Rch needs k i.toNat) (Classical.propDecidable _))) 0 by simp [behindL, pickUpto, isNode, h3]]
      exact ⟨hown.sl (by omega) hlow0 hsub, hE⟩
  · refine l_cons (o_skip rfl rfl ?_)
    refine l_cons (o_skip rfl rfl ?_)
    refine l_cons (o_p tbOk rfl rfl rfl ?_)
    refine l_cons (o_p tbOk rfl rfl rfl ?_)
    refine l_cons (o_skip rfl rfl ?_)
    refine l_cons (o_skip rfl rfl ?_)
    refine l_cons (o_skip rfl rfl ?_)
    refine l_cons (o_skip rfl rfl ?_)
    refine l_cons (o_p tbOk rfl rfl rfl ?_)
    refine l_nil ?_
    refine x_seq ?_
    refine c_ifF rfl ?_
    refine c_exit ?_
    refine x_seqE ?_
    refine x_seqE ?_
    refine x_blkE ?_
    refine x_seq ?_
    refine c_seq ?_
    refine c_reg ?_
    refine l_cons (o_p tbOk rfl rfl rfl ?_)
    refine l_cons (o_p tbOk rfl rfl rfl ?_)
    refine l_nil ?_
    refine x_seq ?_
    refine c_ret ?_
    refine x_ret1 rfl rfl ?_
    have hpk := hpl k
    obtain rfl : k = needs.length := by omega
    rw [show behindL needs i = pickUpto (fun k => (@decide (Rch needs k i.toNat) (Classical.propDecidable _))) needs.length from pick_node (fun h0 => hg h0)]
    exact ⟨hown.sl (by omega) hlow0 hsub, hE⟩

/-- Reach: what a node reaches. -/
theorem Reach_spec (M : Nat → Prop) (w : World) (vn : Value) (needs : List (List Int)) (i : Int) (hn : Sl M w vn needs) (hlow0 : Low M w) (hsm : needs.length ≤ 1000000) :
    Calls Try.prog 12 #[vn, .int .i64 i] w (Ret fun r w' => Sl M w' r (reachL needs i) ∧ Ext w w') := by
  refine c_enter (n := 13) Try.func12 rfl rfl rfl ?_
  refine c_seq ?_
  refine c_reg ?_
  refine l_cons (o_p tbOk rfl rfl rfl ?_)
  refine l_nil ?_
  refine x_seq ?_
  refine c_seq ?_
  refine c_seq ?_
  refine c_reg ?_
  refine l_cons (o_p tbOk rfl rfl rfl ?_)
  refine l_cons (o_p tbOk rfl rfl rfl ?_)
  refine l_cons (o_call fo22 rfl rfl rfl (node_spec M _ _ needs _ hn) ?_)
  rintro _ _ ⟨rfl, rfl⟩
  refine l_cons (o_p tbOk rfl rfl rfl ?_)
  refine l_nil ?_
  refine x_seq ?_
  refine c_ifB _ rfl (fun h => ?_) (fun h => ?_)
  · refine c_seq ?_
    refine c_reg ?_
    refine l_cons (o_p tbOk rfl rfl rfl ?_)
    refine l_nil ?_
    refine x_seq ?_
    refine c_ret ?_
    refine x_seqR ?_
    refine x_ret1 rfl rfl ?_
    exact ⟨by rw [reachL, if_neg (by simp [h])]; exact sl_nil, ext_refl _⟩
  · obtain ⟨u, rfl, hun⟩ := isNode_nat h
    refine c_skip ?_
    refine x_seq ?_
    refine c_seq ?_
    refine c_reg ?_
    refine l_cons (o_p tbOk rfl rfl rfl ?_)
    refine l_cons (o_p tbOk rfl rfl rfl ?_)
    refine l_cons (o_call fo24 rfl rfl rfl (reach_spec M _ vn needs u hn hun hlow0 hsm) ?_)
    rintro r1 w1 ⟨hr1, ew1⟩
    refine l_cons (o_call fo23 rfl rfl rfl (marked_spec M _ r1 _ hr1 (hlow0.ext ew1) (by rw [reachM_length]; exact hsm)) ?_)
    rintro r2 w2 ⟨hr2, ew2⟩
    refine l_cons (o_p tbOk rfl rfl rfl ?_)
    refine l_nil ?_
    refine x_seq ?_
    refine c_ret ?_
    refine x_ret1 rfl rfl ?_
    exact ⟨by rw [reachL, if_pos h]; rw [reach_marked] at hr2; exact hr2, ew1.then ew2⟩

end Go.Proofs.Ytcledfefgbbgeaa
