/- The walk of a law. Printed by wip/walks/graph8.py. -/
import Derived.Test.YtcledfefgbbgeaaWg
import Derived.Test.YtcledfefgbbgeaaMore
import Derived.Test.YtcledfefgbbgeaaPlainK
namespace Go.Proofs.Ytcledfefgbbgeaa
open Go Rw Go.RowKit

/-- GraphSound is true. -/
theorem graphSound_spec (M : Nat → Prop) (w : World) (vn : Value) (needs : List (List Int)) (hn : Sl M w vn needs) (hlow0 : Low M w) :
    Calls Try.prog 6 #[vn] w (Ret fun r w' => r = .bool true ∧ Ext w w') := by
  have hlow := hlow0
  have hE : Below w.heap.size w w := Below.refl _ _
  have hB : w.heap.size ≤ w.heap.size := Nat.le_refl _
  refine c_enter (n := 117) Try.func6 rfl rfl rfl ?_
  refine c_seq ?_
  refine c_reg ?_
  refine l_cons (o_p tbOk rfl rfl rfl ?_)
  refine l_nil ?_
  refine x_seq ?_
  refine c_seq ?_
  refine c_seq ?_
  refine c_reg ?_
  refine l_cons (o_call fo7 rfl rfl rfl (alive_spec M _ hlow) ?_)
  rintro _ w1 ⟨rfl, ew1⟩
  replace hE := hE.trans (Below.mono ew1 hB)
  replace hn := hn.ext ew1
  replace hlow := hlow.ext ew1
  replace hB := Nat.le_trans hB ew1.size
  refine l_cons (o_p tbOk rfl rfl rfl ?_)
  refine l_nil ?_
  refine x_seq ?_
  refine c_ifF rfl ?_
  refine c_skip ?_
  refine x_seq ?_
  refine c_seq ?_
  refine c_seq ?_
  refine c_reg ?_
  refine l_cons (o_p tbOk rfl rfl rfl ?_)
  refine l_cons (o_call fo8 rfl rfl rfl (few_spec M _ _ needs hn) ?_)
  rintro _ _ ⟨⟨b, rfl, hb⟩, rfl⟩
  refine l_cons (o_p tbOk rfl rfl rfl ?_)
  refine l_nil ?_
  refine x_seq ?_
  refine c_ifB _ rfl (fun h => ?_) (fun h => ?_)
  · refine c_seq ?_
    refine c_reg ?_
    refine l_cons (o_p tbOk rfl rfl rfl ?_)
    refine l_nil ?_
    refine x_seq ?_
    refine c_ret ?_
    refine x_seqR ?_
    refine x_ret1 rfl rfl ?_
    exact ⟨rfl, hE⟩
  · obtain rfl : b = true := by simpa using h
    obtain ⟨h14, h100⟩ := hb rfl
    have hol := order_len needs
    refine c_skip ?_
    refine x_seq ?_
    refine c_seq ?_
    refine c_reg ?_
    refine l_cons (o_p tbOk rfl rfl rfl ?_)
    refine l_cons (o_call fo10 rfl rfl rfl (order_spec M _ _ needs hn hlow (by omega)) ?_)
    rintro r1 w2 ⟨hr1, ew2⟩
    replace hE := hE.trans (Below.mono ew2 hB)
    replace hn := hn.ext ew2
    replace hlow := hlow.ext ew2
    replace hB := Nat.le_trans hB ew2.size
    refine l_cons (o_p tbOk rfl rfl rfl ?_)
    refine l_cons (o_call fo14 rfl rfl rfl (circles_spec M _ _ needs hn hlow (by omega)) ?_)
    rintro r2 w3 ⟨hr2, ew3⟩
    replace hE := hE.trans (Below.mono ew3 hB)
    replace hn := hn.ext ew3
    replace hr1 := hr1.ext ew3
    replace hlow := hlow.ext ew3
    replace hB := Nat.le_trans hB ew3.size
    refine l_cons (o_p tbOk rfl rfl rfl ?_)
    refine l_cons (o_p tbOk rfl rfl rfl ?_)
    refine l_nil ?_
    refine x_seq ?_
    refine c_seq ?_
    refine c_seq ?_
    refine c_reg ?_
    refine l_cons (o_p tbOk rfl rfl rfl ?_)
    refine l_nil ?_
    refine x_seq ?_
    refine c_blk ?_
    refine c_loop (X := Nat) (fun i => [(0, vn), (3, r1), (4, r2), (5, .int .i64 (i : Nat))]) (fun i w' => i ≤ needs.length ∧ Sl M w' vn needs ∧ Sl M w' r1 (orderL needs) ∧ Sl M w' r2 (circlesL needs) ∧ Low M w' ∧ Below w.heap.size w w' ∧ w.heap.size ≤ w'.heap.size) (fun i => needs.length - i) (0) (subL_cons rfl (subL_cons rfl (subL_cons rfl (subL_cons rfl (subL_nil))))) ?_ ?_
    · exact ⟨Nat.zero_le _, hn, hr1, hr2, hlow, hE, hB⟩
    rintro i w4 ⟨hi, hn, hr1, hr2, hlow, hE, hB⟩
    refine c_seq ?_
    refine c_seq ?_
    refine c_reg ?_
    refine l_cons (o_p tbOk rfl rfl rfl ?_)
    refine l_cons (o_p tbOk rfl rfl rfl ?_)
    refine l_cons (o_len tbOk hn rfl rfl rfl rfl rfl ?_)
    refine l_cons (o_p tbOk rfl rfl rfl ?_)
    refine l_nil ?_
    refine x_seq ?_
    refine c_ifP _ rfl (fun h1 => ?_) (fun h1 => ?_)
    · have hin : i < needs.length := by omega
      have hrl := reach_len needs (i : Int)
      refine c_skip ?_
      refine x_seq ?_
      refine c_seq ?_
      refine c_blk ?_
      refine c_seq ?_
      refine c_reg ?_
      refine l_cons (o_p tbOk rfl rfl rfl ?_)
      refine l_cons (o_p tbOk rfl rfl rfl ?_)
      refine l_cons (o_call fo12 rfl rfl rfl (Reach_spec M _ _ needs (i : Int) hn hlow (by omega)) ?_)
      rintro r3 w5 ⟨hr3, ew5⟩
      replace hE := hE.trans (Below.mono ew5 hB)
      replace hn := hn.ext ew5
      replace hr1 := hr1.ext ew5
      replace hr2 := hr2.ext ew5
      replace hlow := hlow.ext ew5
      replace hB := Nat.le_trans hB ew5.size
      refine l_cons (o_p tbOk rfl rfl rfl ?_)
      refine l_nil ?_
      refine x_seq ?_
      refine c_seq ?_
      refine c_reg ?_
      refine l_cons (o_p tbOk rfl rfl rfl ?_)
      refine l_cons (o_p tbOk rfl rfl rfl ?_)
      refine l_cons (o_call fo13 rfl rfl rfl (in_spec M _ _ _ _ hr2) ?_)
      rintro _ _ ⟨rfl, rfl⟩
      refine l_cons (o_p tbOk rfl rfl rfl ?_)
      refine l_nil ?_
      refine x_seq ?_
      refine c_seq ?_
      refine c_seq ?_
      refine c_reg ?_
      refine l_cons (o_p tbOk rfl rfl rfl ?_)
      refine l_nil ?_
      refine x_seq ?_
      refine c_blk ?_
      refine c_loop2 (X := Nat) (Y := Bool) (fun k bad => [(0, vn), (3, r1), (4, r2), (5, .int .i64 (i : Nat)), (6, r3), (7, .bool bad), (8, .int .i64 (k : Nat))]) (fun k bad w' => k ≤ (reachL needs (i : Int)).length ∧ bad = (decide ((i : Int) ∈ circlesL needs) || ((reachL needs (i : Int)).take k).any fun x => decide (x ∈ circlesL needs)) ∧ Sl M w' vn needs ∧ Sl M w' r1 (orderL needs) ∧ Sl M w' r2 (circlesL needs) ∧ Sl M w' r3 (reachL needs (i : Int)) ∧ Low M w' ∧ Below w.heap.size w w' ∧ w.heap.size ≤ w'.heap.size) (fun k bad => (reachL needs (i : Int)).length - k) (0) (decide ((i : Int) ∈ circlesL needs)) (subL_cons rfl (subL_cons rfl (subL_cons rfl (subL_cons rfl (subL_cons rfl (subL_cons rfl (subL_cons rfl (subL_nil)))))))) ?_ ?_
      · exact ⟨Nat.zero_le _, by simp, hn, hr1, hr2, hr3, hlow, hE, hB⟩
      rintro k bad w6 ⟨hk, hbad, hn, hr1, hr2, hr3, hlow, hE, hB⟩
      refine c_seq ?_
      refine c_seq ?_
      refine c_reg ?_
      refine l_cons (o_p tbOk rfl rfl rfl ?_)
      refine l_cons (o_p tbOk rfl rfl rfl ?_)
      refine l_cons (o_len tbOk hr3 rfl rfl rfl rfl rfl ?_)
      refine l_cons (o_p tbOk rfl rfl rfl ?_)
      refine l_nil ?_
      refine x_seq ?_
      refine c_ifP _ rfl (fun h2 => ?_) (fun h2 => ?_)
      · have hkn : k < (reachL needs (i : Int)).length := by omega
        obtain ⟨u, hu, hu2⟩ := mem_reach.1 (List.getElem_mem hkn)
        have hun := hu2.lt
        refine c_skip ?_
        refine x_seq ?_
        refine c_seq ?_
        refine c_blk ?_
        refine c_seq ?_
        refine c_reg ?_
        refine l_cons (o_p tbOk rfl rfl rfl ?_)
        refine l_cons (o_p tbOk rfl rfl rfl ?_)
        refine l_split 40 _ rfl (fun h3 => ?_) (fun h3 => ?_)
        · refine l_cons (o_skip rfl rfl ?_)
          refine l_cons (o_skip rfl rfl ?_)
          refine l_cons (o_skip rfl rfl ?_)
          refine l_cons (o_skip rfl rfl ?_)
          refine l_cons (o_skip rfl rfl ?_)
          refine l_cons (o_skip rfl rfl ?_)
          refine l_cons (o_p tbOk rfl rfl rfl ?_)
          refine l_cons (o_p tbOk rfl rfl rfl ?_)
          refine l_nil ?_
          refine x_seq ?_
          refine c_seq ?_
          refine c_reg ?_
          refine l_cons (o_p tbOk rfl rfl rfl ?_)
          refine l_cons (o_p tbOk rfl rfl rfl ?_)
          refine l_cons (o_ixS tbOk hr3 (List.getElem?_eq_getElem hkn) rfl rfl rfl rfl rfl rfl rfl rfl rfl ?_)
          intro b6 o6 u6 hx6 hat6
          obtain ⟨rfl, _⟩ := hx6
          refine l_cons (o_ld tbOk (hat6.cell 0 _ rfl) rfl rfl rfl rfl rfl ?_)
          refine l_cons (o_p tbOk rfl rfl rfl ?_)
          refine l_cons (o_p tbOk rfl rfl rfl ?_)
          refine l_splitP 53 _ rfl (fun h4 => ?_) (fun h4 => ?_)
          · exact absurd h4 (by omega)
          · refine l_cons (o_p tbOk rfl rfl rfl ?_)
            refine l_cons (o_p tbOk rfl rfl rfl ?_)
            refine l_cons (o_ixS tbOk hr3 (List.getElem?_eq_getElem hkn) rfl rfl rfl rfl rfl rfl rfl rfl rfl ?_)
            intro b7 o7 u7 hx7 hat7
            obtain ⟨rfl, _⟩ := hx7
            refine l_cons (o_ld tbOk (hat7.cell 0 _ rfl) rfl rfl rfl rfl rfl ?_)
            refine l_cons (o_p tbOk rfl rfl rfl ?_)
            refine l_cons (o_len tbOk hn rfl rfl rfl rfl rfl ?_)
            refine l_cons (o_p tbOk rfl rfl rfl ?_)
            refine l_cons (o_p tbOk rfl rfl rfl ?_)
            refine l_cons (o_p tbOk rfl rfl rfl ?_)
            refine l_splitP 62 _ rfl (fun h5 => ?_) (fun h5 => ?_)
            · exact absurd h5 (by omega)
            · refine l_cons (o_p tbOk rfl rfl rfl ?_)
              refine l_cons (o_p tbOk rfl rfl rfl ?_)
              refine l_cons (o_p tbOk rfl rfl rfl ?_)
              refine l_cons (o_ixS tbOk hr3 (List.getElem?_eq_getElem hkn) rfl rfl rfl rfl rfl rfl rfl rfl rfl ?_)
              intro b8 o8 u8 hx8 hat8
              obtain ⟨rfl, _⟩ := hx8
              refine l_cons (o_ld tbOk (hat8.cell 0 _ rfl) rfl rfl rfl rfl rfl ?_)
              refine l_cons (o_call fo16 rfl rfl rfl (Behind_spec M _ _ needs _ hn hlow (by omega) (fun l hl => by have := h100 l hl; omega)) ?_)
              rintro r4 w7 ⟨hr4, ew7⟩
              replace hE := hE.trans (Below.mono ew7 hB)
              replace hn := hn.ext ew7
              replace hr1 := hr1.ext ew7
              replace hr2 := hr2.ext ew7
              replace hr3 := hr3.ext ew7
              replace hlow := hlow.ext ew7
              replace hB := Nat.le_trans hB ew7.size
              refine l_cons (o_p tbOk rfl rfl rfl ?_)
              refine l_cons (o_call fo13 rfl rfl rfl (in_spec M _ _ _ _ hr4) ?_)
              rintro r _ ⟨hr, rfl⟩
              obtain rfl : r = .bool true := by
                rw [hr, decide_eq_true]
                rw [hu]; exact mem_behind.2 ⟨i, rfl, hu2⟩
              refine l_cons (o_p tbOk rfl rfl rfl ?_)
              refine l_cons (o_p tbOk rfl rfl rfl ?_)
              refine l_nil ?_
              refine x_seq ?_
              refine c_ifF rfl ?_
              refine c_skip ?_
              refine x_blk ?_
              refine x_seq ?_
              refine c_reg ?_
              refine l_cons (o_p tbOk rfl rfl rfl ?_)
              refine l_cons (o_ar rfl rfl rfl (IntWalk.i64_in _ (by omega)) rfl rfl ?_)
              refine l_cons (o_p tbOk rfl rfl rfl ?_)
              refine l_nil ?_
              exact x_round2 (k + 1) (true) (subL_cons rfl (subL_cons rfl (subL_cons rfl (subL_cons rfl (subL_cons rfl (subL_cons rfl (subL_cons rfl (subL_nil)))))))) ⟨by omega, by rw [any_step hkn]; rw [← Bool.or_assoc, ← hbad, h3, Bool.true_or], hn, hr1, hr2, hr3, hlow, hE, hB⟩ (by omega)
        · refine l_cons (o_p tbOk rfl rfl rfl ?_)
          refine l_cons (o_p tbOk rfl rfl rfl ?_)
          refine l_cons (o_p tbOk rfl rfl rfl ?_)
          refine l_cons (o_ixS tbOk hr3 (List.getElem?_eq_getElem hkn) rfl rfl rfl rfl rfl rfl rfl rfl rfl ?_)
          intro b5 o5 u5 hx5 hat5
          obtain ⟨rfl, _⟩ := hx5
          refine l_cons (o_ld tbOk (hat5.cell 0 _ rfl) rfl rfl rfl rfl rfl ?_)
          refine l_cons (o_call fo13 rfl rfl rfl (in_spec M _ _ _ _ hr2) ?_)
          rintro _ _ ⟨rfl, rfl⟩
          have hbad2 := hbad
          rw [h3] at hbad2
          refine l_cons (o_p tbOk rfl rfl rfl ?_)
          refine l_cons (o_p tbOk rfl rfl rfl ?_)
          refine l_nil ?_
          refine x_seq ?_
          refine c_seq ?_
          refine c_reg ?_
          refine l_cons (o_p tbOk rfl rfl rfl ?_)
          refine l_cons (o_p tbOk rfl rfl rfl ?_)
          refine l_cons (o_ixS tbOk hr3 (List.getElem?_eq_getElem hkn) rfl rfl rfl rfl rfl rfl rfl rfl rfl ?_)
          intro b6 o6 u6 hx6 hat6
          obtain ⟨rfl, _⟩ := hx6
          refine l_cons (o_ld tbOk (hat6.cell 0 _ rfl) rfl rfl rfl rfl rfl ?_)
          refine l_cons (o_p tbOk rfl rfl rfl ?_)
          refine l_cons (o_p tbOk rfl rfl rfl ?_)
          refine l_splitP 53 _ rfl (fun h4 => ?_) (fun h4 => ?_)
          · exact absurd h4 (by omega)
          · refine l_cons (o_p tbOk rfl rfl rfl ?_)
            refine l_cons (o_p tbOk rfl rfl rfl ?_)
            refine l_cons (o_ixS tbOk hr3 (List.getElem?_eq_getElem hkn) rfl rfl rfl rfl rfl rfl rfl rfl rfl ?_)
            intro b7 o7 u7 hx7 hat7
            obtain ⟨rfl, _⟩ := hx7
            refine l_cons (o_ld tbOk (hat7.cell 0 _ rfl) rfl rfl rfl rfl rfl ?_)
            refine l_cons (o_p tbOk rfl rfl rfl ?_)
            refine l_cons (o_len tbOk hn rfl rfl rfl rfl rfl ?_)
            refine l_cons (o_p tbOk rfl rfl rfl ?_)
            refine l_cons (o_p tbOk rfl rfl rfl ?_)
            refine l_cons (o_p tbOk rfl rfl rfl ?_)
            refine l_splitP 62 _ rfl (fun h5 => ?_) (fun h5 => ?_)
            · exact absurd h5 (by omega)
            · refine l_cons (o_p tbOk rfl rfl rfl ?_)
              refine l_cons (o_p tbOk rfl rfl rfl ?_)
              refine l_cons (o_p tbOk rfl rfl rfl ?_)
              refine l_cons (o_ixS tbOk hr3 (List.getElem?_eq_getElem hkn) rfl rfl rfl rfl rfl rfl rfl rfl rfl ?_)
              intro b8 o8 u8 hx8 hat8
              obtain ⟨rfl, _⟩ := hx8
              refine l_cons (o_ld tbOk (hat8.cell 0 _ rfl) rfl rfl rfl rfl rfl ?_)
              refine l_cons (o_call fo16 rfl rfl rfl (Behind_spec M _ _ needs _ hn hlow (by omega) (fun l hl => by have := h100 l hl; omega)) ?_)
              rintro r4 w8 ⟨hr4, ew8⟩
              replace hE := hE.trans (Below.mono ew8 hB)
              replace hn := hn.ext ew8
              replace hr1 := hr1.ext ew8
              replace hr2 := hr2.ext ew8
              replace hr3 := hr3.ext ew8
              replace hlow := hlow.ext ew8
              replace hB := Nat.le_trans hB ew8.size
              refine l_cons (o_p tbOk rfl rfl rfl ?_)
              refine l_cons (o_call fo13 rfl rfl rfl (in_spec M _ _ _ _ hr4) ?_)
              rintro r _ ⟨hr, rfl⟩
              obtain rfl : r = .bool true := by
                rw [hr, decide_eq_true]
                rw [hu]; exact mem_behind.2 ⟨i, rfl, hu2⟩
              refine l_cons (o_p tbOk rfl rfl rfl ?_)
              refine l_cons (o_p tbOk rfl rfl rfl ?_)
              refine l_nil ?_
              refine x_seq ?_
              refine c_ifF rfl ?_
              refine c_skip ?_
              refine x_blk ?_
              refine x_seq ?_
              refine c_reg ?_
              refine l_cons (o_p tbOk rfl rfl rfl ?_)
              refine l_cons (o_ar rfl rfl rfl (IntWalk.i64_in _ (by omega)) rfl rfl ?_)
              refine l_cons (o_p tbOk rfl rfl rfl ?_)
              refine l_nil ?_
              exact x_round2 (k + 1) (decide ((reachL needs (i : Int))[k] ∈ circlesL needs)) (subL_cons rfl (subL_cons rfl (subL_cons rfl (subL_cons rfl (subL_cons rfl (subL_cons rfl (subL_cons rfl (subL_nil)))))))) ⟨by omega, by rw [any_step hkn]; rw [← Bool.or_assoc, ← hbad2, Bool.false_or], hn, hr1, hr2, hr3, hlow, hE, hB⟩ (by omega)
      · have hB1 : bad = true ↔ Bad needs i := by
          rw [hbad, List.take_of_length_le (by omega), Bool.or_eq_true, List.any_eq_true, decide_eq_true_eq, mem_circles]
          constructor
          · rintro (h | ⟨x, hx, hx2⟩)
            · exact .inl h
            · obtain ⟨q, rfl, hq⟩ := mem_reach.1 hx
              exact .inr ⟨q, hq, mem_circles.1 (of_decide_eq_true hx2)⟩
          · rintro (h | ⟨q, hq, hq2⟩)
            · exact .inl h
            · exact .inr ⟨q, mem_reach.2 ⟨q, rfl, hq⟩, decide_eq_true (mem_circles.2 hq2)⟩
        have hat : bad = decide (atOf (orderL needs) (i : Int) < 0) := by
          rw [Bool.eq_iff_iff, hB1, decide_eq_true_eq, at_neg, mem_order hin]
          exact Classical.not_not.symm
        have hic : ((i : Int) ∈ reachL needs (i : Int)) ↔ (i : Int) ∈ circlesL needs := by
          rw [mem_circles, mem_reach]
          constructor
          · rintro ⟨q, hq, hq2⟩
            obtain rfl : i = q := by omega
            exact hq2
          · exact fun h => ⟨i, rfl, h⟩
        clear hbad
        subst hat
        refine c_exit ?_
        refine x_seqE ?_
        refine x_seqE ?_
        refine x_blkE ?_
        refine x_seq ?_
        refine c_seq ?_
        refine c_reg ?_
        refine l_cons (o_p tbOk rfl rfl rfl ?_)
        refine l_cons (o_p tbOk rfl rfl rfl ?_)
        refine l_cons (o_call fo19 rfl rfl rfl (at_spec M _ _ _ _ hr1) ?_)
        rintro _ _ ⟨rfl, rfl⟩
        refine l_cons (o_p tbOk rfl rfl rfl ?_)
        refine l_nil ?_
        refine x_seq ?_
        refine c_seq ?_
        refine c_seq ?_
        refine c_reg ?_
        refine l_cons (o_p tbOk rfl rfl rfl ?_)
        refine l_cons (o_p tbOk rfl rfl rfl ?_)
        refine l_cons (o_p tbOk rfl rfl rfl ?_)
        refine l_cons (o_bne tbOk rfl rfl rfl rfl rfl rfl ?_)
        refine l_cons (o_p tbOk rfl rfl rfl ?_)
        refine l_split 80 _ rfl (fun h3 => ?_) (fun h3 => ?_)
        · exact absurd h3 (by simp)
        · refine l_cons (o_p tbOk rfl rfl rfl ?_)
          refine l_cons (o_p tbOk rfl rfl rfl ?_)
          refine l_cons (o_call fo13 rfl rfl rfl (in_spec M _ _ _ _ hr3) ?_)
          rintro _ _ ⟨rfl, rfl⟩
          refine l_cons (o_p tbOk rfl rfl rfl ?_)
          refine l_cons (o_p tbOk rfl rfl rfl ?_)
          refine l_cons (o_call fo13 rfl rfl rfl (in_spec M _ _ _ _ hr2) ?_)
          rintro _ _ ⟨rfl, rfl⟩
          refine l_cons (o_bne tbOk rfl rfl rfl rfl rfl rfl ?_)
          refine l_cons (o_p tbOk rfl rfl rfl ?_)
          refine l_nil ?_
          refine x_seq ?_
          refine c_if _ rfl (fun h4 => ?_) (fun h4 => ?_)
          · exact absurd h4 (by simp [hic])
          · refine c_skip ?_
            refine x_seq ?_
            refine c_seq ?_
            refine c_reg ?_
            refine l_cons (o_p tbOk rfl rfl rfl ?_)
            refine l_nil ?_
            refine x_seq ?_
            refine c_blk ?_
            refine c_loop (X := Nat) (fun k => [(0, vn), (3, r1), (4, r2), (5, .int .i64 (i : Nat)), (6, r3), (9, .int .i64 (atOf (orderL needs) (i : Int))), (10, .int .i64 (k : Nat))]) (fun k w' => w6 = w' ∧ k ≤ (reachL needs (i : Int)).length) (fun k => (reachL needs (i : Int)).length - k) (0) (subL_cons rfl (subL_cons rfl (subL_cons rfl (subL_cons rfl (subL_cons rfl (subL_cons rfl (subL_cons rfl (subL_nil)))))))) ?_ ?_
            · exact ⟨rfl, Nat.zero_le _⟩
            rintro k _ ⟨rfl, hk⟩
            refine c_seq ?_
            refine c_seq ?_
            refine c_reg ?_
            refine l_cons (o_p tbOk rfl rfl rfl ?_)
            refine l_cons (o_p tbOk rfl rfl rfl ?_)
            refine l_cons (o_len tbOk hr3 rfl rfl rfl rfl rfl ?_)
            refine l_cons (o_p tbOk rfl rfl rfl ?_)
            refine l_cons (o_p tbOk rfl rfl rfl ?_)
            refine l_splitP 93 _ rfl (fun h5 => ?_) (fun h5 => ?_)
            · refine l_cons (o_p tbOk rfl rfl rfl ?_)
              refine l_cons (o_p tbOk rfl rfl rfl ?_)
              refine l_cons (o_p tbOk rfl rfl rfl ?_)
              refine l_nil ?_
              refine x_seq ?_
              refine c_ifP _ rfl (fun h6 => ?_) (fun h6 => ?_)
              · have hkn : k < (reachL needs (i : Int)).length := by omega
                obtain ⟨u, hu, hu2⟩ := mem_reach.1 (List.getElem_mem hkn)
                have hab := at_before (i := i) (by apply Classical.byContradiction; intro hne; have := at_neg.2 hne; omega) hu2
                rw [← hu] at hab
                refine c_skip ?_
                refine x_seq ?_
                refine c_seq ?_
                refine c_blk ?_
                refine c_seq ?_
                refine c_reg ?_
                refine l_cons (o_p tbOk rfl rfl rfl ?_)
                refine l_cons (o_p tbOk rfl rfl rfl ?_)
                refine l_cons (o_p tbOk rfl rfl rfl ?_)
                refine l_cons (o_ixS tbOk hr3 (List.getElem?_eq_getElem hkn) rfl rfl rfl rfl rfl rfl rfl rfl rfl ?_)
                intro b9 o9 u9 hx9 hat9
                obtain ⟨rfl, _⟩ := hx9
                refine l_cons (o_ld tbOk (hat9.cell 0 _ rfl) rfl rfl rfl rfl rfl ?_)
                refine l_cons (o_call fo19 rfl rfl rfl (at_spec M _ _ _ _ hr1) ?_)
                rintro _ _ ⟨rfl, rfl⟩
                refine l_cons (o_p tbOk rfl rfl rfl ?_)
                refine l_nil ?_
                refine x_seq ?_
                refine c_seq ?_
                refine c_reg ?_
                refine l_cons (o_p tbOk rfl rfl rfl ?_)
                refine l_cons (o_p tbOk rfl rfl rfl ?_)
                refine l_cons (o_p tbOk rfl rfl rfl ?_)
                refine l_splitP 107 _ rfl (fun h7 => ?_) (fun h7 => ?_)
                · exact absurd h7 (by omega)
                · refine l_cons (o_p tbOk rfl rfl rfl ?_)
                  refine l_cons (o_p tbOk rfl rfl rfl ?_)
                  refine l_cons (o_p tbOk rfl rfl rfl ?_)
                  refine l_cons (o_p tbOk rfl rfl rfl ?_)
                  refine l_nil ?_
                  refine x_seq ?_
                  refine c_ifP _ rfl (fun h8 => ?_) (fun h8 => ?_)
                  · exact absurd h8 (by omega)
                  · refine c_skip ?_
                    refine x_blk ?_
                    refine x_seq ?_
                    refine c_reg ?_
                    refine l_cons (o_p tbOk rfl rfl rfl ?_)
                    refine l_cons (o_ar rfl rfl rfl (IntWalk.i64_in _ (by omega)) rfl rfl ?_)
                    refine l_cons (o_p tbOk rfl rfl rfl ?_)
                    refine l_nil ?_
                    exact x_round (k + 1) (subL_cons rfl (subL_cons rfl (subL_cons rfl (subL_cons rfl (subL_cons rfl (subL_cons rfl (subL_cons rfl (subL_nil)))))))) ⟨rfl, by omega⟩ (by omega)
              · refine c_exit ?_
                refine x_seqE ?_
                refine x_seqE ?_
                refine x_blkE ?_
                refine x_blk ?_
                refine x_seq ?_
                refine c_reg ?_
                refine l_cons (o_p tbOk rfl rfl rfl ?_)
                refine l_cons (o_ar rfl rfl rfl (IntWalk.i64_in _ (by omega)) rfl rfl ?_)
                refine l_cons (o_p tbOk rfl rfl rfl ?_)
                refine l_nil ?_
                exact x_round (i + 1) (subL_cons rfl (subL_cons rfl (subL_cons rfl (subL_cons rfl (subL_nil))))) ⟨by omega, hn, hr1, hr2, hlow, hE, hB⟩ (by omega)
            · refine l_cons (o_skip rfl rfl ?_)
              refine l_cons (o_skip rfl rfl ?_)
              refine l_cons (o_p tbOk rfl rfl rfl ?_)
              refine l_nil ?_
              refine x_seq ?_
              refine c_ifF rfl ?_
              refine c_exit ?_
              refine x_seqE ?_
              refine x_seqE ?_
              refine x_blkE ?_
              refine x_blk ?_
              refine x_seq ?_
              refine c_reg ?_
              refine l_cons (o_p tbOk rfl rfl rfl ?_)
              refine l_cons (o_ar rfl rfl rfl (IntWalk.i64_in _ (by omega)) rfl rfl ?_)
              refine l_cons (o_p tbOk rfl rfl rfl ?_)
              refine l_nil ?_
              exact x_round (i + 1) (subL_cons rfl (subL_cons rfl (subL_cons rfl (subL_cons rfl (subL_nil))))) ⟨by omega, hn, hr1, hr2, hlow, hE, hB⟩ (by omega)
    · refine c_exit ?_
      refine x_seqE ?_
      refine x_seqE ?_
      refine x_blkE ?_
      refine x_seq ?_
      refine c_seq ?_
      refine c_reg ?_
      refine l_cons (o_p tbOk rfl rfl rfl ?_)
      refine l_cons (o_len tbOk hr1 rfl rfl rfl rfl rfl ?_)
      refine l_cons (o_p tbOk rfl rfl rfl ?_)
      refine l_cons (o_len tbOk hn rfl rfl rfl rfl rfl ?_)
      refine l_cons (o_p tbOk rfl rfl rfl ?_)
      refine l_cons (o_p tbOk rfl rfl rfl ?_)
      refine l_nil ?_
      refine x_seq ?_
      refine c_ret ?_
      refine x_ret1 rfl rfl ?_
      exact ⟨by rw [decide_eq_true (by omega)], hE⟩

end Go.Proofs.Ytcledfefgbbgeaa
