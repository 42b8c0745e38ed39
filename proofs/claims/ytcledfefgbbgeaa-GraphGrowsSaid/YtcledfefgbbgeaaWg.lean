/- The walks of the laws: alive, GraphOrders, GraphReaches. Printed by wip/walks/graph7.py. -/
import Derived.Test.YtcledfefgbbgeaaWe
import Derived.Test.YtcledfefgbbgeaaWf
namespace Go.Proofs.Ytcledfefgbbgeaa
open Go Rw Go.RowKit

theorem ex_order : orderL ([[1], [2], [1]] : List (List Int)) = [] := by decide
theorem ex_edge {u v : Nat} (h : Rw.Edge ([[1], [2], [1]] : List (List Int)) u v) : (u = 0 ∧ v = 1) ∨ (u = 1 ∧ v = 2) ∨ (u = 2 ∧ v = 1) := by
  obtain ⟨l, hl, hm, hv⟩ := h
  match u, hl with
  | 0, hl => simp at hl; subst hl; simp at hm; omega
  | 1, hl => simp at hl; subst hl; simp at hm; omega
  | 2, hl => simp at hl; subst hl; simp at hm; omega
  | u + 3, hl => simp at hl
theorem ex_circles : circlesL ([[1], [2], [1]] : List (List Int)) = [1, 2] := by
  have h0 : ∀ {u v : Nat}, Rch ([[1], [2], [1]] : List (List Int)) u v → v ≠ 0 := by
    intro u v h
    cases h with
    | one e => rcases ex_edge e with h | h | h <;> omega
    | more _ e => rcases ex_edge e with h | h | h <;> omega
  have e1 : Rw.Edge ([[1], [2], [1]] : List (List Int)) 1 2 := ⟨[2], rfl, by simp, by simp⟩
  have e2 : Rw.Edge ([[1], [2], [1]] : List (List Int)) 2 1 := ⟨[1], rfl, by simp, by simp⟩
  have h1 : Rch ([[1], [2], [1]] : List (List Int)) 1 1 := .more (.one e1) e2
  have h2 : Rch ([[1], [2], [1]] : List (List Int)) 2 2 := .more (.one e2) e1
  have n0 : ¬ Rch ([[1], [2], [1]] : List (List Int)) 0 0 := fun h => h0 h rfl
  simp [circlesL, pickUpto, List.range_succ, h1, h2, n0]

/-- The example is as it is. -/
theorem alive_spec (M : Nat → Prop) (w : World) (hlow0 : Low M w) :
    Calls Try.prog 7 #[] w (Ret fun r w' => r = .bool true ∧ Ext w w') := by
  have hlow := hlow0
  have hE : Below w.heap.size w w := Below.refl _ _
  have hB : w.heap.size ≤ w.heap.size := Nat.le_refl _
  refine c_enter (n := 16) Try.func7 rfl rfl rfl ?_
  refine c_seq ?_
  refine c_reg ?_
  refine l_cons (o_p tbOk rfl rfl rfl ?_)
  refine l_nil ?_
  refine x_seq ?_
  refine c_seq ?_
  refine c_reg ?_
  refine l_cons (o_bs tbOk rfl rfl rfl rfl rfl rfl rfl (sz1 rfl) rfl rfl rfl ?_)
  intro bw1 w1 qbw1 ew1 hbw1
  have nbw1 := nM_of hlow qbw1
  replace hE := hE.trans (Below.mono ew1 hB)
  replace hlow := hlow.ext ew1
  replace hB := Nat.le_trans hB ew1.size
  have h1 : Sl M w1 (.slice (some ⟨bw1, 0, none⟩) 1 1) ([1] : List Int) := lit_sl (us := [.int .i64 1]) (l := ([1] : List Int)) hbw1 nbw1 ⟨⟨rfl, by unfold I64; omega⟩, trivial⟩ (by simp)
  refine l_cons (o_bs tbOk rfl rfl rfl rfl rfl rfl rfl (sz1 rfl) rfl rfl rfl ?_)
  intro bw2 w2 qbw2 ew2 hbw2
  have nbw2 := nM_of hlow qbw2
  replace hE := hE.trans (Below.mono ew2 hB)
  replace h1 := h1.ext ew2
  replace hlow := hlow.ext ew2
  replace hB := Nat.le_trans hB ew2.size
  have h2 : Sl M w2 (.slice (some ⟨bw2, 0, none⟩) 1 1) ([2] : List Int) := lit_sl (us := [.int .i64 2]) (l := ([2] : List Int)) hbw2 nbw2 ⟨⟨rfl, by unfold I64; omega⟩, trivial⟩ (by simp)
  refine l_cons (o_bs tbOk rfl rfl rfl rfl rfl rfl rfl (sz1 rfl) rfl rfl rfl ?_)
  intro bw3 w3 qbw3 ew3 hbw3
  have nbw3 := nM_of hlow qbw3
  replace hE := hE.trans (Below.mono ew3 hB)
  replace h1 := h1.ext ew3
  replace h2 := h2.ext ew3
  replace hlow := hlow.ext ew3
  replace hB := Nat.le_trans hB ew3.size
  have h3 : Sl M w3 (.slice (some ⟨bw3, 0, none⟩) 1 1) ([1] : List Int) := lit_sl (us := [.int .i64 1]) (l := ([1] : List Int)) hbw3 nbw3 ⟨⟨rfl, by unfold I64; omega⟩, trivial⟩ (by simp)
  refine l_cons (o_bs tbOk rfl rfl rfl rfl rfl rfl rfl (by intro v hv; simp at hv; rcases hv with rfl | rfl | rfl <;> rfl) rfl rfl rfl ?_)
  intro bw4 w4 qbw4 ew4 hbw4
  have nbw4 := nM_of hlow qbw4
  replace hE := hE.trans (Below.mono ew4 hB)
  replace h1 := h1.ext ew4
  replace h2 := h2.ext ew4
  replace h3 := h3.ext ew4
  replace hlow := hlow.ext ew4
  replace hB := Nat.le_trans hB ew4.size
  have hl : Sl M w4 (.slice (some ⟨bw4, 0, none⟩) 3 3) ([[1], [2], [1]] : List (List Int)) := lit_sl (us := [(.slice (some ⟨bw1, 0, none⟩) 1 1), (.slice (some ⟨bw2, 0, none⟩) 1 1), (.slice (some ⟨bw3, 0, none⟩) 1 1)]) (l := ([[1], [2], [1]] : List (List Int))) hbw4 nbw4 ⟨h1, h2, h3, trivial⟩ (by simp)
  refine l_cons (o_p tbOk rfl rfl rfl ?_)
  refine l_nil ?_
  refine x_seq ?_
  refine c_seq ?_
  refine c_reg ?_
  refine l_cons (o_p tbOk rfl rfl rfl ?_)
  refine l_cons (o_call fo14 rfl rfl rfl (circles_spec M _ _ ([[1], [2], [1]] : List (List Int)) hl hlow (by simp)) ?_)
  rintro r1 w5 ⟨hr1, ew5⟩
  rw [ex_circles] at hr1
  replace hE := hE.trans (Below.mono ew5 hB)
  replace hl := hl.ext ew5
  replace hlow := hlow.ext ew5
  replace hB := Nat.le_trans hB ew5.size
  refine l_cons (o_bs tbOk rfl rfl rfl rfl rfl rfl rfl (by intro v hv; simp at hv; rcases hv with rfl | rfl | rfl <;> rfl) rfl rfl rfl ?_)
  intro bw6 w6 qbw6 ew6 hbw6
  have nbw6 := nM_of hlow qbw6
  replace hE := hE.trans (Below.mono ew6 hB)
  replace hl := hl.ext ew6
  replace hr1 := hr1.ext ew6
  replace hlow := hlow.ext ew6
  replace hB := Nat.le_trans hB ew6.size
  have h2 : Sl M w6 (.slice (some ⟨bw6, 0, none⟩) 2 2) ([1, 2] : List Int) := lit_sl (us := [.int .i64 1, .int .i64 2]) (l := ([1, 2] : List Int)) hbw6 nbw6 ⟨⟨rfl, by unfold I64; omega⟩, ⟨rfl, by unfold I64; omega⟩, trivial⟩ (by simp)
  refine l_cons (o_call fo9 rfl rfl rfl (sameInts_spec M _ _ _ _ _ hr1 h2) ?_)
  rintro r2 w7 ⟨hr2, ew7⟩
  obtain rfl : r2 = .bool true := by rw [hr2]; rfl
  replace hE := hE.trans (Below.mono ew7 hB)
  replace hl := hl.ext ew7
  replace hr1 := hr1.ext ew7
  replace h2 := h2.ext ew7
  replace hlow := hlow.ext ew7
  replace hB := Nat.le_trans hB ew7.size
  refine l_cons (o_p tbOk rfl rfl rfl ?_)
  refine l_cons (o_p tbOk rfl rfl rfl ?_)
  refine l_cons (o_call fo10 rfl rfl rfl (order_spec M _ _ ([[1], [2], [1]] : List (List Int)) hl hlow (by simp)) ?_)
  rintro r3 w8 ⟨hr3, ew8⟩
  rw [ex_order] at hr3
  replace hE := hE.trans (Below.mono ew8 hB)
  replace hl := hl.ext ew8
  replace hr1 := hr1.ext ew8
  replace h2 := h2.ext ew8
  replace hlow := hlow.ext ew8
  replace hB := Nat.le_trans hB ew8.size
  refine l_cons (o_len tbOk hr3 rfl rfl rfl rfl rfl ?_)
  refine l_cons (o_p tbOk rfl rfl rfl ?_)
  refine l_cons (o_p tbOk rfl rfl rfl ?_)
  refine l_cons (o_p tbOk rfl rfl rfl ?_)
  refine l_nil ?_
  refine x_seq ?_
  refine c_ret ?_
  refine x_ret1 rfl rfl ?_
  exact ⟨rfl, hE⟩

/-- GraphOrders is true. -/
theorem graphOrders_spec (M : Nat → Prop) (w : World) (vn : Value) (needs : List (List Int)) (hn : Sl M w vn needs) (hlow0 : Low M w) :
    Calls Try.prog 3 #[vn] w (Ret fun r w' => r = .bool true ∧ Ext w w') := by
  have hlow := hlow0
  have hE : Below w.heap.size w w := Below.refl _ _
  have hB : w.heap.size ≤ w.heap.size := Nat.le_refl _
  refine c_enter (n := 15) Try.func3 rfl rfl rfl ?_
  refine c_seq ?_
  refine c_reg ?_
  refine l_cons (o_p tbOk rfl rfl rfl ?_)
  refine l_nil ?_
  refine x_seq ?_
  refine c_seq ?_
  refine c_seq ?_
  refine c_reg ?_
  refine l_cons (o_call fo7 rfl rfl rfl (alive_spec M _ hlow) ?_)
  rintro _ w1 ⟨rfl, ew1⟩
  replace hE := hE.trans (Below.mono ew1 hB)
  replace hn := hn.ext ew1
  replace hlow := hlow.ext ew1
  replace hB := Nat.le_trans hB ew1.size
  refine l_cons (o_p tbOk rfl rfl rfl ?_)
  refine l_nil ?_
  refine x_seq ?_
  refine c_ifF rfl ?_
  refine c_skip ?_
  refine x_seq ?_
  refine c_seq ?_
  refine c_reg ?_
  refine l_cons (o_p tbOk rfl rfl rfl ?_)
  refine l_cons (o_call fo8 rfl rfl rfl (few_spec M _ _ needs hn) ?_)
  rintro _ _ ⟨⟨b, rfl, hb⟩, rfl⟩
  refine l_cons (o_p tbOk rfl rfl rfl ?_)
  refine l_cons (o_p tbOk rfl rfl rfl ?_)
  refine l_splitB 8 _ rfl (fun h => ?_) (fun h => ?_)
  · refine l_cons (o_skip rfl rfl ?_)
    refine l_cons (o_skip rfl rfl ?_)
    refine l_cons (o_skip rfl rfl ?_)
    refine l_cons (o_skip rfl rfl ?_)
    refine l_cons (o_skip rfl rfl ?_)
    refine l_cons (o_p tbOk rfl rfl rfl ?_)
    refine l_cons (o_p tbOk rfl rfl rfl ?_)
    refine l_nil ?_
    refine x_seq ?_
    refine c_ret ?_
    refine x_ret1 rfl rfl ?_
    exact ⟨rfl, hE⟩
  · obtain rfl : b = true := by simpa using h
    obtain ⟨h14, h100⟩ := hb rfl
    refine l_cons (o_p tbOk rfl rfl rfl ?_)
    refine l_cons (o_call fo10 rfl rfl rfl (order_spec M _ _ needs hn hlow (by omega)) ?_)
    rintro r1 w2 ⟨hr1, ew2⟩
    replace hE := hE.trans (Below.mono ew2 hB)
    replace hn := hn.ext ew2
    replace hlow := hlow.ext ew2
    replace hB := Nat.le_trans hB ew2.size
    refine l_cons (o_p tbOk rfl rfl rfl ?_)
    refine l_cons (o_call fo11 rfl rfl rfl (refOrder_spec M _ _ needs hn hlow (by omega)) ?_)
    rintro r2 w3 ⟨hr2, ew3⟩
    replace hE := hE.trans (Below.mono ew3 hB)
    replace hn := hn.ext ew3
    replace hr1 := hr1.ext ew3
    replace hlow := hlow.ext ew3
    replace hB := Nat.le_trans hB ew3.size
    refine l_cons (o_call fo9 rfl rfl rfl (sameInts_spec M _ _ _ _ _ hr1 hr2) ?_)
    rintro r3 w4 ⟨hr3, ew4⟩
    obtain rfl : r3 = .bool true := by rw [hr3]; simp
    replace hE := hE.trans (Below.mono ew4 hB)
    replace hn := hn.ext ew4
    replace hr1 := hr1.ext ew4
    replace hr2 := hr2.ext ew4
    replace hlow := hlow.ext ew4
    replace hB := Nat.le_trans hB ew4.size
    refine l_cons (o_p tbOk rfl rfl rfl ?_)
    refine l_cons (o_p tbOk rfl rfl rfl ?_)
    refine l_nil ?_
    refine x_seq ?_
    refine c_ret ?_
    refine x_ret1 rfl rfl ?_
    exact ⟨rfl, hE⟩

/-- GraphReaches is true. -/
theorem graphReaches_spec (M : Nat → Prop) (w : World) (vn : Value) (needs : List (List Int)) (i : Int) (hi : I64 i) (hn : Sl M w vn needs) (hlow0 : Low M w) :
    Calls Try.prog 5 #[vn, .int .i64 i] w (Ret fun r w' => r = .bool true ∧ Ext w w') := by
  have hlow := hlow0
  have hE : Below w.heap.size w w := Below.refl _ _
  have hB : w.heap.size ≤ w.heap.size := Nat.le_refl _
  refine c_enter (n := 33) Try.func5 rfl rfl rfl ?_
  refine c_seq ?_
  refine c_reg ?_
  refine l_cons (o_p tbOk rfl rfl rfl ?_)
  refine l_nil ?_
  refine x_seq ?_
  refine c_seq ?_
  refine c_seq ?_
  refine c_reg ?_
  refine l_cons (o_call fo7 rfl rfl rfl (alive_spec M _ hlow) ?_)
  rintro _ w1 ⟨rfl, ew1⟩
  replace hE := hE.trans (Below.mono ew1 hB)
  replace hn := hn.ext ew1
  replace hlow := hlow.ext ew1
  replace hB := Nat.le_trans hB ew1.size
  refine l_cons (o_p tbOk rfl rfl rfl ?_)
  refine l_nil ?_
  refine x_seq ?_
  refine c_ifF rfl ?_
  refine c_skip ?_
  refine x_seq ?_
  refine c_seq ?_
  refine c_seq ?_
  refine c_reg ?_
  refine l_cons (o_p tbOk rfl rfl rfl ?_)
  refine l_cons (o_call fo8 rfl rfl rfl (few_spec M _ _ needs hn) ?_)
  rintro _ _ ⟨⟨b, rfl, hb⟩, rfl⟩
  refine l_cons (o_p tbOk rfl rfl rfl ?_)
  refine l_nil ?_
  refine x_seq ?_
  refine c_ifB _ rfl (fun h => ?_) (fun h => ?_)
  · refine c_seq ?_
    refine c_reg ?_
    refine l_cons (o_p tbOk rfl rfl rfl ?_)
    refine l_nil ?_
    refine x_seq ?_
    refine c_ret ?_
    refine x_seqR ?_
    refine x_ret1 rfl rfl ?_
    exact ⟨rfl, hE⟩
  · obtain rfl : b = true := by simpa using h
    obtain ⟨h14, h100⟩ := hb rfl
    refine c_skip ?_
    refine x_seq ?_
    refine c_seq ?_
    refine c_reg ?_
    refine l_cons (o_p tbOk rfl rfl rfl ?_)
    refine l_cons (o_p tbOk rfl rfl rfl ?_)
    refine l_cons (o_call fo12 rfl rfl rfl (Reach_spec M _ _ needs i hn hlow (by omega)) ?_)
    rintro r1 w2 ⟨hr1, ew2⟩
    replace hE := hE.trans (Below.mono ew2 hB)
    replace hn := hn.ext ew2
    replace hlow := hlow.ext ew2
    replace hB := Nat.le_trans hB ew2.size
    refine l_cons (o_p tbOk rfl rfl rfl ?_)
    refine l_cons (o_p tbOk rfl rfl rfl ?_)
    refine l_cons (o_call fo15 rfl rfl rfl (refReach_spec M _ _ needs i hi hn hlow (by omega)) ?_)
    rintro r2 w3 ⟨hr2, ew3⟩
    replace hE := hE.trans (Below.mono ew3 hB)
    replace hn := hn.ext ew3
    replace hr1 := hr1.ext ew3
    replace hlow := hlow.ext ew3
    replace hB := Nat.le_trans hB ew3.size
    refine l_cons (o_call fo9 rfl rfl rfl (sameInts_spec M _ _ _ _ _ hr1 hr2) ?_)
    rintro r3 w4 ⟨hr3, ew4⟩
    obtain rfl : r3 = .bool true := by rw [hr3]; simp
    replace hE := hE.trans (Below.mono ew4 hB)
    replace hn := hn.ext ew4
    replace hr1 := hr1.ext ew4
    replace hr2 := hr2.ext ew4
    replace hlow := hlow.ext ew4
    replace hB := Nat.le_trans hB ew4.size
    refine l_cons (o_p tbOk rfl rfl rfl ?_)
    refine l_cons (o_p tbOk rfl rfl rfl ?_)
    refine l_cons (o_p tbOk rfl rfl rfl ?_)
    refine l_cons (o_call fo16 rfl rfl rfl (Behind_spec M _ _ needs i hn hlow (by omega) (fun l hl => by have := h100 l hl; omega)) ?_)
    rintro r4 w5 ⟨hr4, ew5⟩
    replace hE := hE.trans (Below.mono ew5 hB)
    replace hn := hn.ext ew5
    replace hr1 := hr1.ext ew5
    replace hr2 := hr2.ext ew5
    replace hlow := hlow.ext ew5
    replace hB := Nat.le_trans hB ew5.size
    refine l_cons (o_p tbOk rfl rfl rfl ?_)
    refine l_cons (o_p tbOk rfl rfl rfl ?_)
    refine l_cons (o_call fo17 rfl rfl rfl (refBehind_spec M _ _ needs i hi hn hlow (by omega)) ?_)
    rintro r5 w6 ⟨hr5, ew6⟩
    replace hE := hE.trans (Below.mono ew6 hB)
    replace hn := hn.ext ew6
    replace hr1 := hr1.ext ew6
    replace hr2 := hr2.ext ew6
    replace hr4 := hr4.ext ew6
    replace hlow := hlow.ext ew6
    replace hB := Nat.le_trans hB ew6.size
    refine l_cons (o_call fo9 rfl rfl rfl (sameInts_spec M _ _ _ _ _ hr4 hr5) ?_)
    rintro r6 w7 ⟨hr6, ew7⟩
    obtain rfl : r6 = .bool true := by rw [hr6]; simp
    replace hE := hE.trans (Below.mono ew7 hB)
    replace hn := hn.ext ew7
    replace hr1 := hr1.ext ew7
    replace hr2 := hr2.ext ew7
    replace hr4 := hr4.ext ew7
    replace hr5 := hr5.ext ew7
    replace hlow := hlow.ext ew7
    replace hB := Nat.le_trans hB ew7.size
    refine l_cons (o_p tbOk rfl rfl rfl ?_)
    refine l_cons (o_p tbOk rfl rfl rfl ?_)
    refine l_cons (o_p tbOk rfl rfl rfl ?_)
    refine l_cons (o_call fo14 rfl rfl rfl (circles_spec M _ _ needs hn hlow (by omega)) ?_)
    rintro r7 w8 ⟨hr7, ew8⟩
    replace hE := hE.trans (Below.mono ew8 hB)
    replace hn := hn.ext ew8
    replace hr1 := hr1.ext ew8
    replace hr2 := hr2.ext ew8
    replace hr4 := hr4.ext ew8
    replace hr5 := hr5.ext ew8
    replace hlow := hlow.ext ew8
    replace hB := Nat.le_trans hB ew8.size
    refine l_cons (o_p tbOk rfl rfl rfl ?_)
    refine l_cons (o_call fo18 rfl rfl rfl (refCircles_spec M _ _ needs hn hlow (by omega)) ?_)
    rintro r8 w9 ⟨hr8, ew9⟩
    replace hE := hE.trans (Below.mono ew9 hB)
    replace hn := hn.ext ew9
    replace hr1 := hr1.ext ew9
    replace hr2 := hr2.ext ew9
    replace hr4 := hr4.ext ew9
    replace hr5 := hr5.ext ew9
    replace hr7 := hr7.ext ew9
    replace hlow := hlow.ext ew9
    replace hB := Nat.le_trans hB ew9.size
    refine l_cons (o_call fo9 rfl rfl rfl (sameInts_spec M _ _ _ _ _ hr7 hr8) ?_)
    rintro r9 w10 ⟨hr9, ew10⟩
    obtain rfl : r9 = .bool true := by rw [hr9]; simp
    replace hE := hE.trans (Below.mono ew10 hB)
    replace hn := hn.ext ew10
    replace hr1 := hr1.ext ew10
    replace hr2 := hr2.ext ew10
    replace hr4 := hr4.ext ew10
    replace hr5 := hr5.ext ew10
    replace hr7 := hr7.ext ew10
    replace hr8 := hr8.ext ew10
    replace hlow := hlow.ext ew10
    replace hB := Nat.le_trans hB ew10.size
    refine l_cons (o_p tbOk rfl rfl rfl ?_)
    refine l_cons (o_p tbOk rfl rfl rfl ?_)
    refine l_nil ?_
    refine x_seq ?_
    refine c_ret ?_
    refine x_ret1 rfl rfl ?_
    exact ⟨rfl, hE⟩

end Go.Proofs.Ytcledfefgbbgeaa
