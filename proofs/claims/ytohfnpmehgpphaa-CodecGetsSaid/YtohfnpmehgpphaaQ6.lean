/- Part 6 of the proof: rules, plain laws and walks, merged out of smaller texts. -/
import Derived.Test.YtohfnpmehgpphaaQ5
namespace Rw
/-! ## Letters -/
theorem hasB_yes {s : ByteArray} {c : UInt8} {j : Nat} (h : s.data[j]? = some c) : hasB s c = true := by
  unfold hasB
  rw [List.any_eq_true]
  exact ⟨c, by rw [Array.mem_toList_iff]; exact Array.mem_of_getElem? h, by simp⟩
theorem hasB_no {s : ByteArray} {c : UInt8} (h : ∀ j, j < s.size → s.data[j]? ≠ some c) : hasB s c = false := by
  unfold hasB
  rw [List.any_eq_false]
  intro x hx
  simp only [decide_eq_true_eq]
  rintro rfl
  rw [Array.mem_toList_iff] at hx
  obtain ⟨j, hj, e⟩ := Array.getElem_of_mem hx
  exact h j hj (by rw [Array.getElem?_eq_getElem hj, e])
def countTo (s : ByteArray) (i : Nat) : Nat := ((s.data.toList.take i).filter fun x => decide (x = 101)).length
theorem countTo_all {s : ByteArray} {i : Nat} (h : s.size ≤ i) : countTo s i = countE s := by
  unfold countTo countE
  rw [List.take_of_length_le (by simpa using h)]
theorem countTo_step {s : ByteArray} {i : Nat} {c : UInt8} (h : s.data[i]? = some c) : countTo s (i + 1) = countTo s i + if c = 101 then 1 else 0 := by
  have hi : i < s.data.toList.length := by simpa using (Array.getElem?_eq_some_iff.1 h).1
  have e : s.data.toList[i] = c := by
    have := (Array.getElem?_eq_some_iff.1 h).2
    simpa using this
  unfold countTo
  rw [List.take_succ_eq_append_getElem hi, List.filter_append, List.length_append, e]
  by_cases hc : c = 101
  · subst hc; simp
  · simp [hc]
theorem countTo_le (s : ByteArray) (i : Nat) : countTo s i ≤ i := by
  unfold countTo
  have h1 := List.length_filter_le (fun x => decide (x = 101)) (s.data.toList.take i)
  rw [List.length_take] at h1
  omega
/-! ## Right, twice -/
theorem shp_parts {op : Int} (h : ¬ (op < 32 ∨ 52 ≤ op)) : (shp op).2.2.2.2 = true ∧ partsS op ≠ ⟨#[]⟩ ∧ (op ≠ 48 → (shp op).2.2.1 = (countE (partsS op) : Int) ∧ partsS op ≠ ⟨#[99]⟩) := by
  rcases op_cases h with e | e | e | e | e | e | e | e | e | e | e | e | e | e | e | e | e | e | e | e <;> subst e <;> exact ⟨by decide, by decide, by decide⟩
theorem shp_no {op : Int} (h : op < 32 ∨ 52 ≤ op) : (shp op).2.2.2.2 = false := by
  unfold shp
  repeat rw [if_neg (by omega)]
theorem arms_of {k : Tm} (h : rightT k true = true) : k.op = 49 ∨ k.op = 50 := by
  rw [rightT_eq, headT] at h
  simp only [Bool.and_eq_true, beq_iff_eq] at h
  have h1 := h.1.2.1
  unfold armsB at h1
  simpa using h1.symm
theorem kids_arms : ∀ (l : List Tm) (i : Nat), kidsT 48 (i + 1) (kidL l) = armsL (kidL l)
  | [], _ => rfl
  | k :: l, i => by
    show kidsT 48 (i + 1) ((k.op, rightT k) :: kidL l) = armsL ((k.op, rightT k) :: kidL l)
    have hi : innerB 48 (i + 1) = true := by unfold innerB; simp
    rw [kidsT, armsL, hi, kids_arms l (i + 1)]
    cases hg : rightT k true with
    | false => simp
    | true =>
      rcases arms_of hg with e | e
      · rw [e, show armB 49 (kidL l).isEmpty = true from rfl]; simp
      · rw [e, show armB 50 (kidL l).isEmpty = (kidL l).isEmpty by unfold armB; simp]; simp
theorem kids_all {op : Int} (h : op ≠ 48) : ∀ (l : List Tm) (i : Nat), kidsT op i (kidL l) = allL (kidL l)
  | [], _ => rfl
  | k :: l, i => by
    show kidsT op i ((k.op, rightT k) :: kidL l) = allL ((k.op, rightT k) :: kidL l)
    have hi : innerB op i = false := by unfold innerB; simp [h]
    rw [kidsT, hi, kids_all h l (i + 1)]
    simp [allL]
theorem ref_right (t : Tm) : ∀ arm, refT t arm = rightT t arm := by
  refine Tm.ind (p := fun t => ∀ arm, refT t arm = rightT t arm) (fun t ih => ?_) t
  intro arm
  have hk : refL t.kids = kidL t.kids := by
    unfold refL kidL
    apply List.map_congr_left
    intro k hk
    rw [show refT k = rightT k from funext (ih k hk)]
  rw [refT_eq, rightT_eq, hk, headT]
  by_cases ho : t.op < 32 ∨ 52 ≤ t.op
  · rw [shp_no ho, show partsS t.op = ⟨#[]⟩ by unfold partsS; rw [if_pos ho]]; simp
  · obtain ⟨h1, h2, h3⟩ := shp_parts ho
    rw [h1, decide_eq_false h2, parts_node ho, nodeB]
    have hkids : (bif decide (partsS t.op = ⟨#[99]⟩) then caseL (kidL t.kids) else decide (t.kids.length = countE (partsS t.op)) && allL (kidL t.kids)) =
        ((bif decide (0 ≤ (shp t.op).2.2.1) then decide ((t.kids.length : Int) = (shp t.op).2.2.1) else !decide (t.kids = [])) && kidsT t.op 0 (kidL t.kids)) := by
      by_cases h48 : t.op = 48
      · rw [h48, show decide (partsS 48 = ⟨#[99]⟩) = true by decide, show decide (0 ≤ (shp 48).2.2.1) = false by decide]
        simp only [cond_true, cond_false]
        cases hl : t.kids with
        | nil => rfl
        | cons k l =>
          show caseL ((k.op, rightT k) :: kidL l) = (_ && kidsT 48 0 ((k.op, rightT k) :: kidL l))
          rw [caseL, kidsT, show innerB 48 0 = false from rfl, kids_arms l 0]
          simp
      · obtain ⟨h4, h5⟩ := h3 h48
        rw [decide_eq_false h5, h4, decide_eq_true (show (0 : Int) ≤ (countE (partsS t.op) : Int) by omega), kids_all h48]
        simp only [cond_true, cond_false]
        congr 1
        rw [decide_eq_decide]
        omega
    rw [hkids]
    simp only [Bool.not_false, Bool.true_and, Bool.and_assoc]
theorem allL_step {l : List Tm} {i : Nat} (hi : i < l.length) : allL (refL (l.drop i)) = (refT l[i] false && allL (refL (l.drop (i + 1)))) := by
  rw [List.drop_eq_getElem_cons hi]; rfl
theorem allL_end {l : List Tm} {i : Nat} (hi : l.length ≤ i) : allL (refL (l.drop i)) = true := by rw [List.drop_eq_nil_of_le hi]; rfl
theorem armsL_step {l : List Tm} {i : Nat} (hi : i < l.length) : armsL (refL (l.drop i)) = (refT l[i] true && (!(decide (l[i].op = 50) && decide (i + 1 < l.length)) && armsL (refL (l.drop (i + 1))))) := by
  rw [List.drop_eq_getElem_cons hi]
  show armsL ((l[i].op, refT l[i]) :: refL (l.drop (i + 1))) = _
  rw [armsL]
  have e : (!(refL (l.drop (i + 1))).isEmpty) = decide (i + 1 < l.length) := by
    rw [Bool.eq_iff_iff, Bool.not_eq_true', decide_eq_true_eq, ← Bool.not_eq_true, List.isEmpty_iff]
    unfold refL
    rw [List.map_eq_nil_iff, List.drop_eq_nil_iff]
    omega
  rw [e]
theorem armsL_end {l : List Tm} {i : Nat} (hi : l.length ≤ i) : armsL (refL (l.drop i)) = true := by rw [List.drop_eq_nil_of_le hi]; rfl
theorem caseL_step {l : List Tm} (hi : 0 < l.length) : caseL (refL l) = (refT l[0] false && armsL (refL (l.drop 1))) := by
  cases l with
  | nil => cases hi
  | cons k l => rfl
end Rw
namespace Go.Proofs.Ytohfnpmehgpphaa
open Go Rw Go.RowKit
set_option maxRecDepth 100000
theorem hasR_spec (s : ByteArray) (hs : s.size < 140737488355328) (c : UInt8) (w : World) :
  Calls Try.prog 107 #[.string s, .int .u8 c.toNat] w (Ret fun r w' => r = .bool (hasB s c) ∧ w = w') := by
 refine c_enter (n := 17) Try.func107 rfl rfl rfl ?_
 refine q0 (l_p 1 tK rfl (q1 (c_seq (q0 (l_p 1 tK rfl (q1 (c_blk ?_)))))))
 refine c_loop (X := Nat) (fun i => [(0, .string s), (1, .int .u8 c.toNat), (5, .int .i64 (i : Nat))]) (fun i w' => w = w' ∧ i ≤ s.size ∧ ∀ j, j < i → s.data[j]? ≠ some c) (fun i => s.size - i) (0) (s3 rfl rfl rfl) ?_ ?_
 ·exact ⟨rfl, Nat.zero_le _, fun j hj => absurd hj (Nat.not_lt_zero _)⟩
 rintro i _ ⟨rfl, hi, hall⟩
 refine c_seq (q0 (l_p 4 tK rfl (q1 ?_)))
 refine c_ifP _ rfl (fun c1 => ?_) (fun c1 => ?_)
 ·refine c_skip (x_seq (c_seq (c_blk (q0 (l_p 2 tK rfl ?_)))))
  have his : i < s.size := by omega
  have hd : s.data[i]? = some s.data[i] := Array.getElem?_eq_getElem his
  generalize hcc : s.data[i] = ch at hd
  refine lC (o_si tK rfl rfl rfl rfl rfl hd rfl rfl ?_)
  refine l_p 2 tK rfl (q1 ?_)
  refine c_ifP _ rfl (fun c2 => ?_) (fun c2 => ?_)
  ·refine q0 (l_p 1 tK rfl (q1 (c_ret (x_blkR (x_seqR (x_seqR (x_blkR (x_seqR (x_ret1 rfl rfl ?_)))))))))
   exact ⟨by rw [hasB_yes (c := c) (by rw [hd]; congr 1; exact UInt8.toNat_inj.1 (by omega))], rfl⟩
  refine c_skip (x_blk (x_seq (c_reg (l_p 1 tK rfl ?_))))
  refine lC (o_ai rfl rfl rfl (by omega) rfl rfl ?_)
  refine l_p 1 tK rfl (l_nil ?_)
  exact x_round (i + 1) (s3 rfl rfl rfl) ⟨rfl, by omega, fun j hj e => by
   by_cases he : j = i
   ·subst he; rw [hd] at e; cases e; omega
   ·exact hall j (by omega) e⟩ (by omega)
 refine c_exit (x_seqE (x_seqE (x_blkE (x_seq (q0 (l_p 1 tK rfl (q1 (c_ret (x_ret1 rfl rfl ?_)))))))))
 exact ⟨by rw [hasB_no (fun j hj => hall j (by omega))], rfl⟩
theorem hasC_spec (s : ByteArray) (hs : s.size < 140737488355328) (c : UInt8) (w : World) :
  Calls Try.prog 86 #[.string s, .int .u8 c.toNat] w (Ret fun r w' => r = .bool (hasB s c) ∧ w = w') := by
 refine c_enter (n := 17) Try.func86 rfl rfl rfl ?_
 refine q0 (l_p 1 tK rfl (q1 (c_seq (q0 (l_p 1 tK rfl (q1 (c_blk ?_)))))))
 refine c_loop (X := Nat) (fun i => [(0, .string s), (1, .int .u8 c.toNat), (5, .int .i64 (i : Nat))]) (fun i w' => w = w' ∧ i ≤ s.size ∧ ∀ j, j < i → s.data[j]? ≠ some c) (fun i => s.size - i) (0) (s3 rfl rfl rfl) ?_ ?_
 ·exact ⟨rfl, Nat.zero_le _, fun j hj => absurd hj (Nat.not_lt_zero _)⟩
 rintro i _ ⟨rfl, hi, hall⟩
 refine c_seq (q0 (l_p 4 tK rfl (q1 ?_)))
 refine c_ifP _ rfl (fun c1 => ?_) (fun c1 => ?_)
 ·refine c_skip (x_seq (c_seq (c_blk (q0 (l_p 2 tK rfl ?_)))))
  have his : i < s.size := by omega
  have hd : s.data[i]? = some s.data[i] := Array.getElem?_eq_getElem his
  generalize hcc : s.data[i] = ch at hd
  refine lC (o_si tK rfl rfl rfl rfl rfl hd rfl rfl ?_)
  refine l_p 2 tK rfl (q1 ?_)
  refine c_ifP _ rfl (fun c2 => ?_) (fun c2 => ?_)
  ·refine q0 (l_p 1 tK rfl (q1 (c_ret (x_blkR (x_seqR (x_seqR (x_blkR (x_seqR (x_ret1 rfl rfl ?_)))))))))
   exact ⟨by rw [hasB_yes (c := c) (by rw [hd]; congr 1; exact UInt8.toNat_inj.1 (by omega))], rfl⟩
  refine c_skip (x_blk (x_seq (c_reg (l_p 1 tK rfl ?_))))
  refine lC (o_ai rfl rfl rfl (by omega) rfl rfl ?_)
  refine l_p 1 tK rfl (l_nil ?_)
  exact x_round (i + 1) (s3 rfl rfl rfl) ⟨rfl, by omega, fun j hj e => by
   by_cases he : j = i
   ·subst he; rw [hd] at e; cases e; omega
   ·exact hall j (by omega) e⟩ (by omega)
 refine c_exit (x_seqE (x_seqE (x_blkE (x_seq (q0 (l_p 1 tK rfl (q1 (c_ret (x_ret1 rfl rfl ?_)))))))))
 exact ⟨by rw [hasB_no (fun j hj => hall j (by omega))], rfl⟩
theorem partsS_spec (op : Int) (hop : 0 ≤ op ∧ op ≤ 255) (M : Nat → Prop) (w : World) (hlow : Low M w) :
  Calls Try.prog 84 #[.int .u8 op] w (Ret fun r w' => r = .string (partsS op) ∧ Ext w w') := by
 have hE : Below w.heap.size w w := Below.refl _ _
 have hB : w.heap.size ≤ w.heap.size := Nat.le_refl _
 have hpl : partsT.length = 20 := rfl
 refine c_enter (n := 20) Try.func84 rfl rfl rfl ?_
 refine q0 (l_p 1 tK rfl (q1 (q0 ?_)))
 refine lC (o_bs tK rfl rfl rfl rfl rfl rfl rfl (by intro v hv; simp at hv; rcases hv with rfl | rfl | rfl | rfl | rfl | rfl | rfl | rfl | rfl | rfl | rfl | rfl | rfl | rfl | rfl | rfl | rfl | rfl | rfl | rfl <;> rfl) rfl rfl rfl ?_)
 intro bw1 w1 qbw1 ew1 hbw1
 have nbw1 := nM_of hlow qbw1
 replace hE := ew1.bl hE hB
 replace hlow := hlow.ext ew1
 replace hB := ew1.z hB
 have hl : Sl M w1 (.slice (some ⟨bw1, 0, none⟩) 20 20) partsT := lit_sl hbw1 nbw1 (show Rs _ _ [_, _, _, _, _, _, _, _, _, _, _, _, _, _, _, _, _, _, _, _] partsT from ⟨⟨rfl, by decide⟩, ⟨rfl, by decide⟩, ⟨rfl, by decide⟩, ⟨rfl, by decide⟩, ⟨rfl, by decide⟩, ⟨rfl, by decide⟩, ⟨rfl, by decide⟩, ⟨rfl, by decide⟩, ⟨rfl, by decide⟩, ⟨rfl, by decide⟩, ⟨rfl, by decide⟩, ⟨rfl, by decide⟩, ⟨rfl, by decide⟩, ⟨rfl, by decide⟩, ⟨rfl, by decide⟩, ⟨rfl, by decide⟩, ⟨rfl, by decide⟩, ⟨rfl, by decide⟩, ⟨rfl, by decide⟩, ⟨rfl, by decide⟩, trivial⟩) (by decide)
 refine l_p 1 tK rfl (q1 (c_seq (q0 (l_p 3 tK rfl ?_))))
 refine l_splitP 7 _ rfl (fun c1 => ?_) (fun c1 => ?_)
 ·refine l_p 7 tK rfl (q1 (c_ifT rfl (q0 (l_p 1 tK rfl (q1 (c_ret (x_seqR (x_ret1 rfl rfl ?_))))))))
  exact ⟨by unfold partsS; rw [if_pos (by omega)], hE⟩
 refine l_p 1 tK rfl ?_
 refine lC (o_conv (y := op) tK rfl rfl rfl rfl rfl (IntWalk.i64_in _ (by omega)) rfl rfl ?_)
 refine l_p 1 tK rfl ?_
 refine lC (o_len tK hl rfl rfl rfl rfl rfl ?_)
 refine lC (o_ai rfl rfl rfl (by omega) rfl rfl ?_)
 refine l_p 2 tK rfl (q1 ?_)
 refine c_ifP _ rfl (fun c2 => ?_) (fun c2 => ?_)
 ·refine q0 (l_p 1 tK rfl (q1 (c_ret (x_seqR (x_ret1 rfl rfl ?_)))))
  exact ⟨by unfold partsS; rw [if_pos (by omega)], hE⟩
 refine c_skip (x_seq (q0 (l_p 2 tK rfl ?_)))
 refine lC (o_ar rfl rfl rfl (z := op - 32) (by rw [IntKind.wrap_u8]; omega) rfl rfl ?_)
 have hlen : (op - 32).toNat < partsT.length := by show _ < 20; omega
 refine lC (o_ixS tK hl (List.getElem?_eq_getElem hlen) rfl rfl (by omega) rfl rfl rfl rfl rfl rfl ?_)
 intro b o u hr hat
 obtain ⟨rfl, _⟩ := hr
 refine lC (o_ld tK (hat.cell 0 _ rfl) rfl rfl rfl rfl rfl ?_)
 refine l_p 1 tK rfl (q1 (c_ret (x_ret1 rfl rfl ?_)))
 exact ⟨by unfold partsS; rw [if_neg (by omega), List.getElem?_eq_getElem hlen, Option.getD_some], hE⟩
theorem zero_spec (t : Ty) (M : Nat → Prop) (w : World) (v : Value) (ht : Rep.R M w v t) (hlow : Low M w) :
  Calls Try.prog 108 #[v] w (Ret fun r w' => r = .bool (blankB t) ∧ Ext w w') := by
 have hE : Below w.heap.size w w := Below.refl _ _
 have hB : w.heap.size ≤ w.heap.size := Nat.le_refl _
 obtain ⟨kv, rfl, op, nm, n64, hk⟩ := ty_open ht
 refine c_enter (n := 22) Try.func108 rfl rfl rfl ?_
 refine q0 ?_
 refine lC (o_box rfl rfl rfl ?_)
 intro b1 w1 hb_b1 ew1 h1
 replace h1 : Box _ b1 40 [.int .u8 t.op, .string t.name, .int .i64 t.n, kv] := h1
 replace h1 := h1.at (nM_of hlow hb_b1)
 replace hE := ew1.bl hE hB
 replace ht := Rep.ext ht ew1
 replace hk := hk.ext ew1
 replace hlow := hlow.ext ew1
 replace hB := ew1.z hB
 refine l_p 1 tK rfl (q1 (q0 (l_p 1 tK rfl ?_)))
 refine lC (o_ld tK (h1.cell 0 _ rfl) rfl rfl rfl rfl rfl ?_)
 refine l_p 2 tK rfl ?_
 refine l_splitP 6 _ rfl (fun c1 => ?_) (fun c1 => ?_)
 ·refine l_p 1 tK rfl ?_
  refine lC (o_ld tK (h1.cell 1 _ rfl) rfl rfl rfl rfl rfl ?_)
  refine l_p 3 tK rfl ?_
  refine l_splitP 11 _ rfl (fun c2 => ?_) (fun c2 => ?_)
  ·refine l_p 1 tK rfl ?_
   refine lC (o_ld tK (h1.cell 2 _ rfl) rfl rfl rfl rfl rfl ?_)
   refine l_p 3 tK rfl ?_
   refine l_splitP 16 _ rfl (fun c3 => ?_) (fun c3 => ?_)
   ·refine l_p 1 tK rfl ?_
    refine lC (o_ld tK (h1.cell 3 _ rfl) rfl rfl rfl rfl rfl ?_)
    refine lC (o_len tK hk rfl rfl rfl rfl rfl ?_)
    refine l_p 3 tK rfl (q1 (c_ret (x_ret1 rfl rfl ?_)))
    exact ⟨by congr 1; unfold blankB; simp_all, hE⟩
   refine l_p 6 tK rfl (q1 (c_ret (x_ret1 rfl rfl ?_)))
   exact ⟨by congr 1; unfold blankB; simp_all, hE⟩
  refine l_p 11 tK rfl (q1 (c_ret (x_ret1 rfl rfl ?_)))
  exact ⟨by congr 1; unfold blankB; simp_all, hE⟩
 refine l_p 16 tK rfl (q1 (c_ret (x_ret1 rfl rfl ?_)))
 exact ⟨by congr 1; unfold blankB; simp_all, hE⟩
theorem partsR_spec (t : Tm) (p : ByteArray) (hp : p.size < 140737488355328) (M : Nat → Prop) (w : World) (v : Value) (ht : Rep.R M w v t) (hlow : Low M w) (hz : psz t.ann ≤ 2000000) :
  Calls Try.prog 85 #[v, .string p] w (Ret fun r w' => r = .bool (partsB t p) ∧ Ext w w') := by
 have hE : Below w.heap.size w w := Below.refl _ _
 have hB : w.heap.size ≤ w.heap.size := Nat.le_refl _
 obtain ⟨akv, kv, rfl, op, nm, ag, n64, ha, hk⟩ := tm_open ht
 refine c_enter (n := 135) Try.func85 rfl rfl rfl ?_
 refine q0 ?_
 refine lC (o_box rfl rfl rfl ?_)
 intro b2 w1 hb_b2 ew1 h2
 replace h2 : Box _ b2 84 [.int .u8 t.op, .string t.name, .string t.arg, .int .i64 t.n, .bool t.has, .int .u8 t.ann.op, .string t.ann.name, .int .i64 t.ann.n, akv, kv] := h2
 replace h2 := h2.at (nM_of hlow hb_b2)
 replace hE := ew1.bl hE hB
 replace ht := Rep.ext ht ew1
 replace ha := Rep.ext ha ew1
 replace hk := hk.ext ew1
 replace hlow := hlow.ext ew1
 replace hB := ew1.z hB
 refine l_p 1 tK rfl (q1 ?_)
 refine c_cut (X := Unit) (fun _u => [(1, .string p), (2, .pointer (some ⟨b2, 0, none⟩))]) (fun _u w' => (hasB p 111 == signB t.name) = true ∧ At M w' b2 0 [.int .u8 t.op, .string t.name, .string t.arg, .int .i64 t.n, .bool t.has, .int .u8 t.ann.op, .string t.ann.name, .int .i64 t.ann.n, akv, kv] ∧ Rep.R M w' (.agg #[.int .u8 t.ann.op, .string t.ann.name, .int .i64 t.ann.n, akv]) t.ann ∧ Low M w' ∧ Below w.heap.size w w' ∧ w.heap.size ≤ w'.heap.size) ?_ ?_
 ·refine c_seq ?_
  refine a_beg Ext rfl ?_
  intro w2 ew2
  replace hE := ew2.bl hE hB
  replace ht := Rep.ext ht ew2
  replace ha := Rep.ext ha ew2
  replace hk := hk.ext ew2
  replace h2 := h2.ext ew2
  replace hlow := hlow.ext ew2
  replace hB := ew2.z hB
  have hS : Ext w2 w2 := ext_refl _
  have D_hk := hk
  have D_h2 := h2
  refine a_p 0 tK rfl rfl rfl rfl (by kernel_rfl) (fun _ _ _ h => h) hS ?_
  refine a_p 2 tK rfl rfl rfl rfl (by kernel_rfl) (fun _ _ _ h => h) hS ?_
  refine a_ld 3 tK (fun _ hs => (D_h2.ext hs).cell 1 _ rfl) rfl rfl rfl rfl rfl rfl (by kernel_rfl) (fun _ _ _ h => h) hS ?_
  refine a_p 4 tK rfl rfl rfl rfl (by kernel_rfl) (fun _ _ _ h => h) hS ?_
  refine a_one 1 rfl (by kernel_rfl) (o_call fo107 rfl rfl rfl (hasR_spec p hp 111 _) ?_)
  rintro _ _ ⟨rfl, rfl⟩
  refine ⟨hS, ?_⟩
  refine a_p 5 tK rfl rfl rfl rfl (by kernel_rfl) (fun _ _ _ h => h) hS ?_
  refine a_splitP 10 _ rfl (fun c1 => ?_) (fun c1 => ?_)
  ·refine a_skip 6 rfl rfl rfl (by kernel_rfl) (fun _ _ _ h => h) hS ?_
   refine a_skip 7 rfl rfl rfl (by kernel_rfl) (fun _ _ _ h => h) hS ?_
   refine a_skip 8 rfl rfl rfl (by kernel_rfl) (fun _ _ _ h => h) hS ?_
   refine a_p 9 tK rfl rfl rfl rfl (by kernel_rfl) (fun _ _ _ h => h) hS ?_
   refine a_p 10 tK rfl rfl rfl rfl (by kernel_rfl) (fun _ _ _ h => h) hS ?_
   refine a_skip 11 rfl rfl rfl (by kernel_rfl) (fun _ _ _ h => h) hS ?_
   refine a_skip 12 rfl rfl rfl (by kernel_rfl) (fun _ _ _ h => h) hS ?_
   refine a_skip 13 rfl rfl rfl (by kernel_rfl) (fun _ _ _ h => h) hS ?_
   refine a_p 14 tK rfl rfl rfl rfl (by kernel_rfl) (fun _ _ _ h => h) hS ?_
   refine a_p 15 tK rfl rfl rfl rfl (by kernel_rfl) (fun _ _ _ h => h) hS ?_
   refine a_skip 16 rfl rfl rfl (by kernel_rfl) (fun _ _ _ h => h) hS ?_
   refine a_skip 17 rfl rfl rfl (by kernel_rfl) (fun _ _ _ h => h) hS ?_
   refine a_skip 18 rfl rfl rfl (by kernel_rfl) (fun _ _ _ h => h) hS ?_
   refine a_p 19 tK rfl rfl rfl rfl (by kernel_rfl) (fun _ _ _ h => h) hS ?_
   refine a_p 20 tK rfl rfl rfl rfl (by kernel_rfl) (fun _ _ _ h => h) hS ?_
   refine a_skip 21 rfl rfl rfl (by kernel_rfl) (fun _ _ _ h => h) hS ?_
   refine a_skip 22 rfl rfl rfl (by kernel_rfl) (fun _ _ _ h => h) hS ?_
   refine a_skip 23 rfl rfl rfl (by kernel_rfl) (fun _ _ _ h => h) hS ?_
   refine a_p 24 tK rfl rfl rfl rfl (by kernel_rfl) (fun _ _ _ h => h) hS ?_
   refine a_p 25 tK rfl rfl rfl rfl (by kernel_rfl) (fun _ _ _ h => h) hS ?_
   refine a_skip 26 rfl rfl rfl (by kernel_rfl) (fun _ _ _ h => h) hS ?_
   refine a_skip 27 rfl rfl rfl (by kernel_rfl) (fun _ _ _ h => h) hS ?_
   refine a_skip 28 rfl rfl rfl (by kernel_rfl) (fun _ _ _ h => h) hS ?_
   refine a_p 29 tK rfl rfl rfl rfl (by kernel_rfl) (fun _ _ _ h => h) hS ?_
   refine a_p 30 tK rfl rfl rfl rfl (by kernel_rfl) (fun _ _ _ h => h) hS ?_
   refine a_skip 31 rfl rfl rfl (by kernel_rfl) (fun _ _ _ h => h) hS ?_
   refine a_skip 32 rfl rfl rfl (by kernel_rfl) (fun _ _ _ h => h) hS ?_
   refine a_skip 33 rfl rfl rfl (by kernel_rfl) (fun _ _ _ h => h) hS ?_
   refine a_p 34 tK rfl rfl rfl rfl (by kernel_rfl) (fun _ _ _ h => h) hS ?_
   refine a_bar 35 rfl (by kernel_rfl) (by kernel_rfl) (o_bne tK rfl rfl rfl rfl rfl rfl ?_)
   refine a_end (by kernel_rfl) ?_
   refine x_seq ?_
   refine c_if _ rfl (fun c2 => ?_) (fun c2 => ?_)
   ·refine q0 (l_p 1 tK rfl (q1 (c_ret (x_seqR (x_ret1 rfl rfl ?_)))))
    refine ⟨?_, hE⟩
    have hA : ((hasB p 111 == signB t.name)) = false := by
     simp_all [signB]
    unfold partsB
    rw [hA]
    simp
   refine c_skip ?_
   have hA : (hasB p 111 == signB t.name) = true := by
    simp_all [signB]
   exact x_cut (()) (s2 rfl rfl) ⟨hA, h2, ha, hlow, hE, hB⟩
  refine a_p 6 tK rfl rfl rfl rfl (by kernel_rfl) (fun _ _ _ h => h) hS ?_
  refine a_ld 7 tK (fun _ hs => (D_h2.ext hs).cell 1 _ rfl) rfl rfl rfl rfl rfl rfl (by kernel_rfl) (fun _ _ _ h => h) hS ?_
  refine a_p 8 tK rfl rfl rfl rfl (by kernel_rfl) (fun _ _ _ h => h) hS ?_
  refine a_p 9 tK rfl rfl rfl rfl (by kernel_rfl) (fun _ _ _ h => h) hS ?_
  refine a_p 10 tK rfl rfl rfl rfl (by kernel_rfl) (fun _ _ _ h => h) hS ?_
  refine a_splitP 15 _ rfl (fun c3 => ?_) (fun c3 => ?_)
  ·refine a_skip 11 rfl rfl rfl (by kernel_rfl) (fun _ _ _ h => h) hS ?_
   refine a_skip 12 rfl rfl rfl (by kernel_rfl) (fun _ _ _ h => h) hS ?_
   refine a_skip 13 rfl rfl rfl (by kernel_rfl) (fun _ _ _ h => h) hS ?_
   refine a_p 14 tK rfl rfl rfl rfl (by kernel_rfl) (fun _ _ _ h => h) hS ?_
   refine a_p 15 tK rfl rfl rfl rfl (by kernel_rfl) (fun _ _ _ h => h) hS ?_
   refine a_skip 16 rfl rfl rfl (by kernel_rfl) (fun _ _ _ h => h) hS ?_
   refine a_skip 17 rfl rfl rfl (by kernel_rfl) (fun _ _ _ h => h) hS ?_
   refine a_skip 18 rfl rfl rfl (by kernel_rfl) (fun _ _ _ h => h) hS ?_
   refine a_p 19 tK rfl rfl rfl rfl (by kernel_rfl) (fun _ _ _ h => h) hS ?_
   refine a_p 20 tK rfl rfl rfl rfl (by kernel_rfl) (fun _ _ _ h => h) hS ?_
   refine a_skip 21 rfl rfl rfl (by kernel_rfl) (fun _ _ _ h => h) hS ?_
   refine a_skip 22 rfl rfl rfl (by kernel_rfl) (fun _ _ _ h => h) hS ?_
   refine a_skip 23 rfl rfl rfl (by kernel_rfl) (fun _ _ _ h => h) hS ?_
   refine a_p 24 tK rfl rfl rfl rfl (by kernel_rfl) (fun _ _ _ h => h) hS ?_
   refine a_p 25 tK rfl rfl rfl rfl (by kernel_rfl) (fun _ _ _ h => h) hS ?_
   refine a_skip 26 rfl rfl rfl (by kernel_rfl) (fun _ _ _ h => h) hS ?_
   refine a_skip 27 rfl rfl rfl (by kernel_rfl) (fun _ _ _ h => h) hS ?_
   refine a_skip 28 rfl rfl rfl (by kernel_rfl) (fun _ _ _ h => h) hS ?_
   refine a_p 29 tK rfl rfl rfl rfl (by kernel_rfl) (fun _ _ _ h => h) hS ?_
   refine a_p 30 tK rfl rfl rfl rfl (by kernel_rfl) (fun _ _ _ h => h) hS ?_
   refine a_skip 31 rfl rfl rfl (by kernel_rfl) (fun _ _ _ h => h) hS ?_
   refine a_skip 32 rfl rfl rfl (by kernel_rfl) (fun _ _ _ h => h) hS ?_
   refine a_skip 33 rfl rfl rfl (by kernel_rfl) (fun _ _ _ h => h) hS ?_
   refine a_p 34 tK rfl rfl rfl rfl (by kernel_rfl) (fun _ _ _ h => h) hS ?_
   refine a_bar 35 rfl (by kernel_rfl) (by kernel_rfl) (o_bne tK rfl rfl rfl rfl rfl rfl ?_)
   refine a_end (by kernel_rfl) ?_
   refine x_seq ?_
   refine c_if _ rfl (fun c4 => ?_) (fun c4 => ?_)
   ·refine q0 (l_p 1 tK rfl (q1 (c_ret (x_seqR (x_ret1 rfl rfl ?_)))))
    refine ⟨?_, hE⟩
    have hA : ((hasB p 111 == signB t.name)) = false := by
     simp_all [signB]
    unfold partsB
    rw [hA]
    simp
   refine c_skip ?_
   have hA : (hasB p 111 == signB t.name) = true := by
    simp_all [signB]
   exact x_cut (()) (s2 rfl rfl) ⟨hA, h2, ha, hlow, hE, hB⟩
  refine a_p 11 tK rfl rfl rfl rfl (by kernel_rfl) (fun _ _ _ h => h) hS ?_
  refine a_ld 12 tK (fun _ hs => (D_h2.ext hs).cell 1 _ rfl) rfl rfl rfl rfl rfl rfl (by kernel_rfl) (fun _ _ _ h => h) hS ?_
  refine a_p 13 tK rfl rfl rfl rfl (by kernel_rfl) (fun _ _ _ h => h) hS ?_
  refine a_p 14 tK rfl rfl rfl rfl (by kernel_rfl) (fun _ _ _ h => h) hS ?_
  refine a_p 15 tK rfl rfl rfl rfl (by kernel_rfl) (fun _ _ _ h => h) hS ?_
  refine a_splitP 20 _ rfl (fun c5 => ?_) (fun c5 => ?_)
  ·refine a_skip 16 rfl rfl rfl (by kernel_rfl) (fun _ _ _ h => h) hS ?_
   refine a_skip 17 rfl rfl rfl (by kernel_rfl) (fun _ _ _ h => h) hS ?_
   refine a_skip 18 rfl rfl rfl (by kernel_rfl) (fun _ _ _ h => h) hS ?_
   refine a_p 19 tK rfl rfl rfl rfl (by kernel_rfl) (fun _ _ _ h => h) hS ?_
   refine a_p 20 tK rfl rfl rfl rfl (by kernel_rfl) (fun _ _ _ h => h) hS ?_
   refine a_skip 21 rfl rfl rfl (by kernel_rfl) (fun _ _ _ h => h) hS ?_
   refine a_skip 22 rfl rfl rfl (by kernel_rfl) (fun _ _ _ h => h) hS ?_
   refine a_skip 23 rfl rfl rfl (by kernel_rfl) (fun _ _ _ h => h) hS ?_
   refine a_p 24 tK rfl rfl rfl rfl (by kernel_rfl) (fun _ _ _ h => h) hS ?_
   refine a_p 25 tK rfl rfl rfl rfl (by kernel_rfl) (fun _ _ _ h => h) hS ?_
   refine a_skip 26 rfl rfl rfl (by kernel_rfl) (fun _ _ _ h => h) hS ?_
   refine a_skip 27 rfl rfl rfl (by kernel_rfl) (fun _ _ _ h => h) hS ?_
   refine a_skip 28 rfl rfl rfl (by kernel_rfl) (fun _ _ _ h => h) hS ?_
   refine a_p 29 tK rfl rfl rfl rfl (by kernel_rfl) (fun _ _ _ h => h) hS ?_
   refine a_p 30 tK rfl rfl rfl rfl (by kernel_rfl) (fun _ _ _ h => h) hS ?_
   refine a_skip 31 rfl rfl rfl (by kernel_rfl) (fun _ _ _ h => h) hS ?_
   refine a_skip 32 rfl rfl rfl (by kernel_rfl) (fun _ _ _ h => h) hS ?_
   refine a_skip 33 rfl rfl rfl (by kernel_rfl) (fun _ _ _ h => h) hS ?_
   refine a_p 34 tK rfl rfl rfl rfl (by kernel_rfl) (fun _ _ _ h => h) hS ?_
   refine a_bar 35 rfl (by kernel_rfl) (by kernel_rfl) (o_bne tK rfl rfl rfl rfl rfl rfl ?_)
   refine a_end (by kernel_rfl) ?_
   refine x_seq ?_
   refine c_if _ rfl (fun c6 => ?_) (fun c6 => ?_)
   ·refine q0 (l_p 1 tK rfl (q1 (c_ret (x_seqR (x_ret1 rfl rfl ?_)))))
    refine ⟨?_, hE⟩
    have hA : ((hasB p 111 == signB t.name)) = false := by
     simp_all [signB]
    unfold partsB
    rw [hA]
    simp
   refine c_skip ?_
   have hA : (hasB p 111 == signB t.name) = true := by
    simp_all [signB]
   exact x_cut (()) (s2 rfl rfl) ⟨hA, h2, ha, hlow, hE, hB⟩
  refine a_p 16 tK rfl rfl rfl rfl (by kernel_rfl) (fun _ _ _ h => h) hS ?_
  refine a_ld 17 tK (fun _ hs => (D_h2.ext hs).cell 1 _ rfl) rfl rfl rfl rfl rfl rfl (by kernel_rfl) (fun _ _ _ h => h) hS ?_
  refine a_p 18 tK rfl rfl rfl rfl (by kernel_rfl) (fun _ _ _ h => h) hS ?_
  refine a_p 19 tK rfl rfl rfl rfl (by kernel_rfl) (fun _ _ _ h => h) hS ?_
  refine a_p 20 tK rfl rfl rfl rfl (by kernel_rfl) (fun _ _ _ h => h) hS ?_
  refine a_splitP 25 _ rfl (fun c7 => ?_) (fun c7 => ?_)
  ·refine a_skip 21 rfl rfl rfl (by kernel_rfl) (fun _ _ _ h => h) hS ?_
   refine a_skip 22 rfl rfl rfl (by kernel_rfl) (fun _ _ _ h => h) hS ?_
   refine a_skip 23 rfl rfl rfl (by kernel_rfl) (fun _ _ _ h => h) hS ?_
   refine a_p 24 tK rfl rfl rfl rfl (by kernel_rfl) (fun _ _ _ h => h) hS ?_
   refine a_p 25 tK rfl rfl rfl rfl (by kernel_rfl) (fun _ _ _ h => h) hS ?_
   refine a_skip 26 rfl rfl rfl (by kernel_rfl) (fun _ _ _ h => h) hS ?_
   refine a_skip 27 rfl rfl rfl (by kernel_rfl) (fun _ _ _ h => h) hS ?_
   refine a_skip 28 rfl rfl rfl (by kernel_rfl) (fun _ _ _ h => h) hS ?_
   refine a_p 29 tK rfl rfl rfl rfl (by kernel_rfl) (fun _ _ _ h => h) hS ?_
   refine a_p 30 tK rfl rfl rfl rfl (by kernel_rfl) (fun _ _ _ h => h) hS ?_
   refine a_skip 31 rfl rfl rfl (by kernel_rfl) (fun _ _ _ h => h) hS ?_
   refine a_skip 32 rfl rfl rfl (by kernel_rfl) (fun _ _ _ h => h) hS ?_
   refine a_skip 33 rfl rfl rfl (by kernel_rfl) (fun _ _ _ h => h) hS ?_
   refine a_p 34 tK rfl rfl rfl rfl (by kernel_rfl) (fun _ _ _ h => h) hS ?_
   refine a_bar 35 rfl (by kernel_rfl) (by kernel_rfl) (o_bne tK rfl rfl rfl rfl rfl rfl ?_)
   refine a_end (by kernel_rfl) ?_
   refine x_seq ?_
   refine c_if _ rfl (fun c8 => ?_) (fun c8 => ?_)
   ·refine q0 (l_p 1 tK rfl (q1 (c_ret (x_seqR (x_ret1 rfl rfl ?_)))))
    refine ⟨?_, hE⟩
    have hA : ((hasB p 111 == signB t.name)) = false := by
     simp_all [signB]
    unfold partsB
    rw [hA]
    simp
   refine c_skip ?_
   have hA : (hasB p 111 == signB t.name) = true := by
    simp_all [signB]
   exact x_cut (()) (s2 rfl rfl) ⟨hA, h2, ha, hlow, hE, hB⟩
  refine a_p 21 tK rfl rfl rfl rfl (by kernel_rfl) (fun _ _ _ h => h) hS ?_
  refine a_ld 22 tK (fun _ hs => (D_h2.ext hs).cell 1 _ rfl) rfl rfl rfl rfl rfl rfl (by kernel_rfl) (fun _ _ _ h => h) hS ?_
  refine a_p 23 tK rfl rfl rfl rfl (by kernel_rfl) (fun _ _ _ h => h) hS ?_
  refine a_p 24 tK rfl rfl rfl rfl (by kernel_rfl) (fun _ _ _ h => h) hS ?_
  refine a_p 25 tK rfl rfl rfl rfl (by kernel_rfl) (fun _ _ _ h => h) hS ?_
  refine a_splitP 30 _ rfl (fun c9 => ?_) (fun c9 => ?_)
  ·refine a_skip 26 rfl rfl rfl (by kernel_rfl) (fun _ _ _ h => h) hS ?_
   refine a_skip 27 rfl rfl rfl (by kernel_rfl) (fun _ _ _ h => h) hS ?_
   refine a_skip 28 rfl rfl rfl (by kernel_rfl) (fun _ _ _ h => h) hS ?_
   refine a_p 29 tK rfl rfl rfl rfl (by kernel_rfl) (fun _ _ _ h => h) hS ?_
   refine a_p 30 tK rfl rfl rfl rfl (by kernel_rfl) (fun _ _ _ h => h) hS ?_
   refine a_skip 31 rfl rfl rfl (by kernel_rfl) (fun _ _ _ h => h) hS ?_
   refine a_skip 32 rfl rfl rfl (by kernel_rfl) (fun _ _ _ h => h) hS ?_
   refine a_skip 33 rfl rfl rfl (by kernel_rfl) (fun _ _ _ h => h) hS ?_
   refine a_p 34 tK rfl rfl rfl rfl (by kernel_rfl) (fun _ _ _ h => h) hS ?_
   refine a_bar 35 rfl (by kernel_rfl) (by kernel_rfl) (o_bne tK rfl rfl rfl rfl rfl rfl ?_)
   refine a_end (by kernel_rfl) ?_
   refine x_seq ?_
   refine c_if _ rfl (fun c10 => ?_) (fun c10 => ?_)
   ·refine q0 (l_p 1 tK rfl (q1 (c_ret (x_seqR (x_ret1 rfl rfl ?_)))))
    refine ⟨?_, hE⟩
    have hA : ((hasB p 111 == signB t.name)) = false := by
     simp_all [signB]
    unfold partsB
    rw [hA]
    simp
   refine c_skip ?_
   have hA : (hasB p 111 == signB t.name) = true := by
    simp_all [signB]
   exact x_cut (()) (s2 rfl rfl) ⟨hA, h2, ha, hlow, hE, hB⟩
  refine a_p 26 tK rfl rfl rfl rfl (by kernel_rfl) (fun _ _ _ h => h) hS ?_
  refine a_ld 27 tK (fun _ hs => (D_h2.ext hs).cell 1 _ rfl) rfl rfl rfl rfl rfl rfl (by kernel_rfl) (fun _ _ _ h => h) hS ?_
  refine a_p 28 tK rfl rfl rfl rfl (by kernel_rfl) (fun _ _ _ h => h) hS ?_
  refine a_p 29 tK rfl rfl rfl rfl (by kernel_rfl) (fun _ _ _ h => h) hS ?_
  refine a_p 30 tK rfl rfl rfl rfl (by kernel_rfl) (fun _ _ _ h => h) hS ?_
  refine a_splitP 35 _ rfl (fun c11 => ?_) (fun c11 => ?_)
  ·refine a_skip 31 rfl rfl rfl (by kernel_rfl) (fun _ _ _ h => h) hS ?_
   refine a_skip 32 rfl rfl rfl (by kernel_rfl) (fun _ _ _ h => h) hS ?_
   refine a_skip 33 rfl rfl rfl (by kernel_rfl) (fun _ _ _ h => h) hS ?_
   refine a_p 34 tK rfl rfl rfl rfl (by kernel_rfl) (fun _ _ _ h => h) hS ?_
   refine a_bar 35 rfl (by kernel_rfl) (by kernel_rfl) (o_bne tK rfl rfl rfl rfl rfl rfl ?_)
   refine a_end (by kernel_rfl) ?_
   refine x_seq ?_
   refine c_if _ rfl (fun c12 => ?_) (fun c12 => ?_)
   ·refine q0 (l_p 1 tK rfl (q1 (c_ret (x_seqR (x_ret1 rfl rfl ?_)))))
    refine ⟨?_, hE⟩
    have hA : ((hasB p 111 == signB t.name)) = false := by
     simp_all [signB]
    unfold partsB
    rw [hA]
    simp
   refine c_skip ?_
   have hA : (hasB p 111 == signB t.name) = true := by
    simp_all [signB]
   exact x_cut (()) (s2 rfl rfl) ⟨hA, h2, ha, hlow, hE, hB⟩
  refine a_p 31 tK rfl rfl rfl rfl (by kernel_rfl) (fun _ _ _ h => h) hS ?_
  refine a_ld 32 tK (fun _ hs => (D_h2.ext hs).cell 1 _ rfl) rfl rfl rfl rfl rfl rfl (by kernel_rfl) (fun _ _ _ h => h) hS ?_
  refine a_p 33 tK rfl rfl rfl rfl (by kernel_rfl) (fun _ _ _ h => h) hS ?_
  refine a_p 34 tK rfl rfl rfl rfl (by kernel_rfl) (fun _ _ _ h => h) hS ?_
  refine a_bar 35 rfl (by kernel_rfl) (by kernel_rfl) (o_bne tK rfl rfl rfl rfl rfl rfl ?_)
  refine a_end (by kernel_rfl) ?_
  refine x_seq ?_
  refine c_if _ rfl (fun c13 => ?_) (fun c13 => ?_)
  ·refine q0 (l_p 1 tK rfl (q1 (c_ret (x_seqR (x_ret1 rfl rfl ?_)))))
   refine ⟨?_, hE⟩
   have hA : ((hasB p 111 == signB t.name)) = false := by
    simp_all [signB]
   unfold partsB
   rw [hA]
   simp
  refine c_skip ?_
  have hA : (hasB p 111 == signB t.name) = true := by
   simp_all [signB]
  exact x_cut (()) (s2 rfl rfl) ⟨hA, h2, ha, hlow, hE, hB⟩
 clear h2 ha hlow hE hB ht hk
 rintro _ w81 ⟨hA1, h2, ha, hlow, hE, hB⟩
 refine c_cut (X := Unit) (fun _u => [(1, .string p), (2, .pointer (some ⟨b2, 0, none⟩))]) (fun _u w' => (hasB p 111 || ((hasB p 110 == isWordB t.name) && (hasB p 110 || decide (t.name = ⟨#[]⟩)))) = true ∧ At M w' b2 0 [.int .u8 t.op, .string t.name, .string t.arg, .int .i64 t.n, .bool t.has, .int .u8 t.ann.op, .string t.ann.name, .int .i64 t.ann.n, akv, kv] ∧ Rep.R M w' (.agg #[.int .u8 t.ann.op, .string t.ann.name, .int .i64 t.ann.n, akv]) t.ann ∧ Low M w' ∧ Below w.heap.size w w' ∧ w.heap.size ≤ w'.heap.size) ?_ ?_
 ·refine c_seq ?_
  refine a_beg Ext rfl ?_
  intro w3 ew3
  replace hE := ew3.bl hE hB
  replace h2 := h2.ext ew3
  replace ha := Rep.ext ha ew3
  replace hlow := hlow.ext ew3
  replace hB := ew3.z hB
  have hS : Ext w3 w3 := ext_refl _
  have D_h2 := h2
  refine a_p 0 tK rfl rfl rfl rfl (by kernel_rfl) (fun _ _ _ h => h) hS ?_
  refine a_bar 1 rfl (by kernel_rfl) (by kernel_rfl) (o_call fo107 rfl rfl rfl (hasR_spec p hp 111 _) ?_)
  rintro _ _ ⟨rfl, rfl⟩
  refine a_p 2 tK rfl rfl rfl rfl (by kernel_rfl) (fun _ _ _ h => h) hS ?_
  refine a_p 3 tK rfl rfl rfl rfl (by kernel_rfl) (fun _ _ _ h => h) hS ?_
  refine a_splitB 44 _ rfl (fun c14 => ?_) (fun c14 => ?_)
  ·refine a_p 4 tK rfl rfl rfl rfl (by kernel_rfl) (fun _ _ _ h => h) hS ?_
   refine a_p 6 tK rfl rfl rfl rfl (by kernel_rfl) (fun _ _ _ h => h) hS ?_
   refine a_ld 7 tK (fun _ hs => (D_h2.ext hs).cell 1 _ rfl) rfl rfl rfl rfl rfl rfl (by kernel_rfl) (fun _ _ _ h => h) hS ?_
   refine a_one 5 rfl (by kernel_rfl) (o_call fo107 rfl rfl rfl (hasR_spec p hp 110 _) ?_)
   rintro _ _ ⟨rfl, rfl⟩
   refine ⟨hS, ?_⟩
   refine a_bar 8 rfl (by kernel_rfl) (by kernel_rfl) (o_call fo23 rfl rfl rfl (risWord_spec M _ _ (by first | exact nm | exact ag) hlow) ?_)
   rintro _ w4 ⟨rfl, ew4⟩
   replace hS := hS.then ew4
   replace hE := ew4.bl hE hB
   replace h2 := h2.ext ew4
   replace ha := Rep.ext ha ew4
   replace hlow := hlow.ext ew4
   replace hB := ew4.z hB
   refine a_bar 9 rfl (by kernel_rfl) (by kernel_rfl) (o_bne tK rfl rfl rfl rfl rfl rfl ?_)
   refine a_p 10 tK rfl rfl rfl rfl (by kernel_rfl) (fun _ _ _ h => h) hS ?_
   refine a_p 11 tK rfl rfl rfl rfl (by kernel_rfl) (fun _ _ _ h => h) hS ?_
   refine a_split 52 _ rfl (fun c15 => ?_) (fun c15 => ?_)
   ·refine a_skip 12 rfl rfl rfl (by kernel_rfl) (fun _ _ _ h => h) hS ?_
    refine a_skip 13 rfl rfl rfl (by kernel_rfl) (fun _ _ _ h => h) hS ?_
    refine a_skip 14 rfl rfl rfl (by kernel_rfl) (fun _ _ _ h => h) hS ?_
    refine a_skip 15 rfl rfl rfl (by kernel_rfl) (fun _ _ _ h => h) hS ?_
    refine a_skip 16 rfl rfl rfl (by kernel_rfl) (fun _ _ _ h => h) hS ?_
    refine a_skip 17 rfl rfl rfl (by kernel_rfl) (fun _ _ _ h => h) hS ?_
    refine a_skip 18 rfl rfl rfl (by kernel_rfl) (fun _ _ _ h => h) hS ?_
    refine a_skip 19 rfl rfl rfl (by kernel_rfl) (fun _ _ _ h => h) hS ?_
    refine a_skip 20 rfl rfl rfl (by kernel_rfl) (fun _ _ _ h => h) hS ?_
    refine a_skip 21 rfl rfl rfl (by kernel_rfl) (fun _ _ _ h => h) hS ?_
    refine a_skip 22 rfl rfl rfl (by kernel_rfl) (fun _ _ _ h => h) hS ?_
    refine a_skip 23 rfl rfl rfl (by kernel_rfl) (fun _ _ _ h => h) hS ?_
    refine a_skip 24 rfl rfl rfl (by kernel_rfl) (fun _ _ _ h => h) hS ?_
    refine a_p 25 tK rfl rfl rfl rfl (by kernel_rfl) (fun _ _ _ h => h) hS ?_
    refine a_end (by kernel_rfl) ?_
    refine x_seq (c_ifT rfl (q0 (l_p 1 tK rfl (q1 (c_ret (x_seqR (x_ret1 rfl rfl ?_)))))))
    refine ⟨?_, hE⟩
    have hA : ((hasB p 111 || ((hasB p 110 == isWordB t.name) && (hasB p 110 || decide (t.name = ⟨#[]⟩))))) = false := by
     simp_all
    unfold partsB
    rw [hA1, hA]
    simp
   refine a_p 12 tK rfl rfl rfl rfl (by kernel_rfl) (fun _ _ _ h => h) hS ?_
   refine a_bar 13 rfl (by kernel_rfl) (by kernel_rfl) (o_call fo107 rfl rfl rfl (hasR_spec p hp 111 _) ?_)
   rintro _ _ ⟨rfl, rfl⟩
   refine a_p 14 tK rfl rfl rfl rfl (by kernel_rfl) (fun _ _ _ h => h) hS ?_
   refine a_p 15 tK rfl rfl rfl rfl (by kernel_rfl) (fun _ _ _ h => h) hS ?_
   refine a_splitB 56 _ rfl (fun c16 => ?_) (fun c16 => ?_)
   ·refine a_p 16 tK rfl rfl rfl rfl (by kernel_rfl) (fun _ _ _ h => h) hS ?_
    refine a_bar 17 rfl (by kernel_rfl) (by kernel_rfl) (o_call fo107 rfl rfl rfl (hasR_spec p hp 110 _) ?_)
    rintro _ _ ⟨rfl, rfl⟩
    refine a_p 18 tK rfl rfl rfl rfl (by kernel_rfl) (fun _ _ _ h => h) hS ?_
    refine a_p 19 tK rfl rfl rfl rfl (by kernel_rfl) (fun _ _ _ h => h) hS ?_
    refine a_p 20 tK rfl rfl rfl rfl (by kernel_rfl) (fun _ _ _ h => h) hS ?_
    refine a_splitB 61 _ rfl (fun c17 => ?_) (fun c17 => ?_)
    ·refine a_p 21 tK rfl rfl rfl rfl (by kernel_rfl) (fun _ _ _ h => h) hS ?_
     refine a_ld 22 tK (fun _ hs => (D_h2.ext hs).cell 1 _ rfl) rfl rfl rfl rfl rfl rfl (by kernel_rfl) (fun _ _ _ h => h) hS ?_
     refine a_p 23 tK rfl rfl rfl rfl (by kernel_rfl) (fun _ _ _ h => h) hS ?_
     refine a_p 24 tK rfl rfl rfl rfl (by kernel_rfl) (fun _ _ _ h => h) hS ?_
     refine a_p 25 tK rfl rfl rfl rfl (by kernel_rfl) (fun _ _ _ h => h) hS ?_
     refine a_end (by kernel_rfl) ?_
     refine x_seq ?_
     refine c_ifN _ rfl (fun c18 => ?_) (fun c18 => ?_)
     ·refine q0 (l_p 1 tK rfl (q1 (c_ret (x_seqR (x_ret1 rfl rfl ?_)))))
      refine ⟨?_, hE⟩
      have hA : ((hasB p 111 || ((hasB p 110 == isWordB t.name) && (hasB p 110 || decide (t.name = ⟨#[]⟩))))) = false := by
       simp_all
      unfold partsB
      rw [hA1, hA]
      simp
     refine c_skip ?_
     have hA : (hasB p 111 || ((hasB p 110 == isWordB t.name) && (hasB p 110 || decide (t.name = ⟨#[]⟩)))) = true := by
      simp_all
     exact x_cut (()) (s2 rfl rfl) ⟨hA, h2, ha, hlow, hE, hB⟩
    refine a_skip 21 rfl rfl rfl (by kernel_rfl) (fun _ _ _ h => h) hS ?_
    refine a_skip 22 rfl rfl rfl (by kernel_rfl) (fun _ _ _ h => h) hS ?_
    refine a_skip 23 rfl rfl rfl (by kernel_rfl) (fun _ _ _ h => h) hS ?_
    refine a_p 24 tK rfl rfl rfl rfl (by kernel_rfl) (fun _ _ _ h => h) hS ?_
    refine a_p 25 tK rfl rfl rfl rfl (by kernel_rfl) (fun _ _ _ h => h) hS ?_
    refine a_end (by kernel_rfl) ?_
    refine x_seq (c_ifF rfl (c_skip ?_))
    have hA : (hasB p 111 || ((hasB p 110 == isWordB t.name) && (hasB p 110 || decide (t.name = ⟨#[]⟩)))) = true := by
     simp_all
    exact x_cut (()) (s2 rfl rfl) ⟨hA, h2, ha, hlow, hE, hB⟩
   refine a_skip 16 rfl rfl rfl (by kernel_rfl) (fun _ _ _ h => h) hS ?_
   refine a_skip 17 rfl rfl rfl (by kernel_rfl) (fun _ _ _ h => h) hS ?_
   refine a_skip 18 rfl rfl rfl (by kernel_rfl) (fun _ _ _ h => h) hS ?_
   refine a_p 19 tK rfl rfl rfl rfl (by kernel_rfl) (fun _ _ _ h => h) hS ?_
   refine a_p 20 tK rfl rfl rfl rfl (by kernel_rfl) (fun _ _ _ h => h) hS ?_
   refine a_skip 21 rfl rfl rfl (by kernel_rfl) (fun _ _ _ h => h) hS ?_
   refine a_skip 22 rfl rfl rfl (by kernel_rfl) (fun _ _ _ h => h) hS ?_
   refine a_skip 23 rfl rfl rfl (by kernel_rfl) (fun _ _ _ h => h) hS ?_
   refine a_p 24 tK rfl rfl rfl rfl (by kernel_rfl) (fun _ _ _ h => h) hS ?_
   refine a_p 25 tK rfl rfl rfl rfl (by kernel_rfl) (fun _ _ _ h => h) hS ?_
   refine a_end (by kernel_rfl) ?_
   refine x_seq (c_ifF rfl (c_skip ?_))
   have hA : (hasB p 111 || ((hasB p 110 == isWordB t.name) && (hasB p 110 || decide (t.name = ⟨#[]⟩)))) = true := by
    simp_all
   exact x_cut (()) (s2 rfl rfl) ⟨hA, h2, ha, hlow, hE, hB⟩
  refine a_skip 4 rfl rfl rfl (by kernel_rfl) (fun _ _ _ h => h) hS ?_
  refine a_skip 5 rfl rfl rfl (by kernel_rfl) (fun _ _ _ h => h) hS ?_
  refine a_skip 6 rfl rfl rfl (by kernel_rfl) (fun _ _ _ h => h) hS ?_
  refine a_skip 7 rfl rfl rfl (by kernel_rfl) (fun _ _ _ h => h) hS ?_
  refine a_skip 8 rfl rfl rfl (by kernel_rfl) (fun _ _ _ h => h) hS ?_
  refine a_skip 9 rfl rfl rfl (by kernel_rfl) (fun _ _ _ h => h) hS ?_
  refine a_p 10 tK rfl rfl rfl rfl (by kernel_rfl) (fun _ _ _ h => h) hS ?_
  refine a_p 11 tK rfl rfl rfl rfl (by kernel_rfl) (fun _ _ _ h => h) hS ?_
  refine a_p 12 tK rfl rfl rfl rfl (by kernel_rfl) (fun _ _ _ h => h) hS ?_
  refine a_bar 13 rfl (by kernel_rfl) (by kernel_rfl) (o_call fo107 rfl rfl rfl (hasR_spec p hp 111 _) ?_)
  rintro _ _ ⟨rfl, rfl⟩
  refine a_p 14 tK rfl rfl rfl rfl (by kernel_rfl) (fun _ _ _ h => h) hS ?_
  refine a_p 15 tK rfl rfl rfl rfl (by kernel_rfl) (fun _ _ _ h => h) hS ?_
  refine a_splitB 56 _ rfl (fun c19 => ?_) (fun c19 => ?_)
  ·refine a_p 16 tK rfl rfl rfl rfl (by kernel_rfl) (fun _ _ _ h => h) hS ?_
   refine a_bar 17 rfl (by kernel_rfl) (by kernel_rfl) (o_call fo107 rfl rfl rfl (hasR_spec p hp 110 _) ?_)
   rintro _ _ ⟨rfl, rfl⟩
   refine a_p 18 tK rfl rfl rfl rfl (by kernel_rfl) (fun _ _ _ h => h) hS ?_
   refine a_p 19 tK rfl rfl rfl rfl (by kernel_rfl) (fun _ _ _ h => h) hS ?_
   refine a_p 20 tK rfl rfl rfl rfl (by kernel_rfl) (fun _ _ _ h => h) hS ?_
   refine a_splitB 61 _ rfl (fun c20 => ?_) (fun c20 => ?_)
   ·refine a_p 21 tK rfl rfl rfl rfl (by kernel_rfl) (fun _ _ _ h => h) hS ?_
    refine a_ld 22 tK (fun _ hs => (D_h2.ext hs).cell 1 _ rfl) rfl rfl rfl rfl rfl rfl (by kernel_rfl) (fun _ _ _ h => h) hS ?_
    refine a_p 23 tK rfl rfl rfl rfl (by kernel_rfl) (fun _ _ _ h => h) hS ?_
    refine a_p 24 tK rfl rfl rfl rfl (by kernel_rfl) (fun _ _ _ h => h) hS ?_
    refine a_p 25 tK rfl rfl rfl rfl (by kernel_rfl) (fun _ _ _ h => h) hS ?_
    refine a_end (by kernel_rfl) ?_
    refine x_seq ?_
    refine c_ifN _ rfl (fun c21 => ?_) (fun c21 => ?_)
    ·refine q0 (l_p 1 tK rfl (q1 (c_ret (x_seqR (x_ret1 rfl rfl ?_)))))
     refine ⟨?_, hE⟩
     have hA : ((hasB p 111 || ((hasB p 110 == isWordB t.name) && (hasB p 110 || decide (t.name = ⟨#[]⟩))))) = false := by
      simp_all
     unfold partsB
     rw [hA1, hA]
     simp
    refine c_skip ?_
    have hA : (hasB p 111 || ((hasB p 110 == isWordB t.name) && (hasB p 110 || decide (t.name = ⟨#[]⟩)))) = true := by
     simp_all
    exact x_cut (()) (s2 rfl rfl) ⟨hA, h2, ha, hlow, hE, hB⟩
   refine a_skip 21 rfl rfl rfl (by kernel_rfl) (fun _ _ _ h => h) hS ?_
   refine a_skip 22 rfl rfl rfl (by kernel_rfl) (fun _ _ _ h => h) hS ?_
   refine a_skip 23 rfl rfl rfl (by kernel_rfl) (fun _ _ _ h => h) hS ?_
   refine a_p 24 tK rfl rfl rfl rfl (by kernel_rfl) (fun _ _ _ h => h) hS ?_
   refine a_p 25 tK rfl rfl rfl rfl (by kernel_rfl) (fun _ _ _ h => h) hS ?_
   refine a_end (by kernel_rfl) ?_
   refine x_seq (c_ifF rfl (c_skip ?_))
   have hA : (hasB p 111 || ((hasB p 110 == isWordB t.name) && (hasB p 110 || decide (t.name = ⟨#[]⟩)))) = true := by
    simp_all
   exact x_cut (()) (s2 rfl rfl) ⟨hA, h2, ha, hlow, hE, hB⟩
  refine a_skip 16 rfl rfl rfl (by kernel_rfl) (fun _ _ _ h => h) hS ?_
  refine a_skip 17 rfl rfl rfl (by kernel_rfl) (fun _ _ _ h => h) hS ?_
  refine a_skip 18 rfl rfl rfl (by kernel_rfl) (fun _ _ _ h => h) hS ?_
  refine a_p 19 tK rfl rfl rfl rfl (by kernel_rfl) (fun _ _ _ h => h) hS ?_
  refine a_p 20 tK rfl rfl rfl rfl (by kernel_rfl) (fun _ _ _ h => h) hS ?_
  refine a_skip 21 rfl rfl rfl (by kernel_rfl) (fun _ _ _ h => h) hS ?_
  refine a_skip 22 rfl rfl rfl (by kernel_rfl) (fun _ _ _ h => h) hS ?_
  refine a_skip 23 rfl rfl rfl (by kernel_rfl) (fun _ _ _ h => h) hS ?_
  refine a_p 24 tK rfl rfl rfl rfl (by kernel_rfl) (fun _ _ _ h => h) hS ?_
  refine a_p 25 tK rfl rfl rfl rfl (by kernel_rfl) (fun _ _ _ h => h) hS ?_
  refine a_end (by kernel_rfl) ?_
  refine x_seq (c_ifF rfl (c_skip ?_))
  have hA : (hasB p 111 || ((hasB p 110 == isWordB t.name) && (hasB p 110 || decide (t.name = ⟨#[]⟩)))) = true := by
   simp_all
  exact x_cut (()) (s2 rfl rfl) ⟨hA, h2, ha, hlow, hE, hB⟩
 clear h2 ha hlow hE hB
 rintro _ w82 ⟨hA2, h2, ha, hlow, hE, hB⟩
 refine c_cut (X := Unit) (fun _u => [(1, .string p), (2, .pointer (some ⟨b2, 0, none⟩))]) (fun _u w' => ((hasB p 97 == isWordB t.arg) && (hasB p 97 || decide (t.arg = ⟨#[]⟩))) = true ∧ At M w' b2 0 [.int .u8 t.op, .string t.name, .string t.arg, .int .i64 t.n, .bool t.has, .int .u8 t.ann.op, .string t.ann.name, .int .i64 t.ann.n, akv, kv] ∧ Rep.R M w' (.agg #[.int .u8 t.ann.op, .string t.ann.name, .int .i64 t.ann.n, akv]) t.ann ∧ Low M w' ∧ Below w.heap.size w w' ∧ w.heap.size ≤ w'.heap.size) ?_ ?_
 ·refine c_seq ?_
  refine a_beg Ext rfl ?_
  intro w5 ew5
  replace hE := ew5.bl hE hB
  replace h2 := h2.ext ew5
  replace ha := Rep.ext ha ew5
  replace hlow := hlow.ext ew5
  replace hB := ew5.z hB
  have hS : Ext w5 w5 := ext_refl _
  have D_h2 := h2
  refine a_p 0 tK rfl rfl rfl rfl (by kernel_rfl) (fun _ _ _ h => h) hS ?_
  refine a_p 2 tK rfl rfl rfl rfl (by kernel_rfl) (fun _ _ _ h => h) hS ?_
  refine a_ld 3 tK (fun _ hs => (D_h2.ext hs).cell 2 _ rfl) rfl rfl rfl rfl rfl rfl (by kernel_rfl) (fun _ _ _ h => h) hS ?_
  refine a_one 1 rfl (by kernel_rfl) (o_call fo107 rfl rfl rfl (hasR_spec p hp 97 _) ?_)
  rintro _ _ ⟨rfl, rfl⟩
  refine ⟨hS, ?_⟩
  refine a_bar 4 rfl (by kernel_rfl) (by kernel_rfl) (o_call fo23 rfl rfl rfl (risWord_spec M _ _ (by first | exact nm | exact ag) hlow) ?_)
  rintro _ w6 ⟨rfl, ew6⟩
  replace hS := hS.then ew6
  replace hE := ew6.bl hE hB
  replace h2 := h2.ext ew6
  replace ha := Rep.ext ha ew6
  replace hlow := hlow.ext ew6
  replace hB := ew6.z hB
  refine a_bar 5 rfl (by kernel_rfl) (by kernel_rfl) (o_bne tK rfl rfl rfl rfl rfl rfl ?_)
  refine a_p 6 tK rfl rfl rfl rfl (by kernel_rfl) (fun _ _ _ h => h) hS ?_
  refine a_split 73 _ rfl (fun c22 => ?_) (fun c22 => ?_)
  ·refine a_skip 7 rfl rfl rfl (by kernel_rfl) (fun _ _ _ h => h) hS ?_
   refine a_skip 8 rfl rfl rfl (by kernel_rfl) (fun _ _ _ h => h) hS ?_
   refine a_skip 9 rfl rfl rfl (by kernel_rfl) (fun _ _ _ h => h) hS ?_
   refine a_skip 10 rfl rfl rfl (by kernel_rfl) (fun _ _ _ h => h) hS ?_
   refine a_skip 11 rfl rfl rfl (by kernel_rfl) (fun _ _ _ h => h) hS ?_
   refine a_skip 12 rfl rfl rfl (by kernel_rfl) (fun _ _ _ h => h) hS ?_
   refine a_skip 13 rfl rfl rfl (by kernel_rfl) (fun _ _ _ h => h) hS ?_
   refine a_skip 14 rfl rfl rfl (by kernel_rfl) (fun _ _ _ h => h) hS ?_
   refine a_p 15 tK rfl rfl rfl rfl (by kernel_rfl) (fun _ _ _ h => h) hS ?_
   refine a_end (by kernel_rfl) ?_
   refine x_seq (c_ifT rfl (q0 (l_p 1 tK rfl (q1 (c_ret (x_seqR (x_ret1 rfl rfl ?_)))))))
   refine ⟨?_, hE⟩
   have hA : (((hasB p 97 == isWordB t.arg) && (hasB p 97 || decide (t.arg = ⟨#[]⟩)))) = false := by
    simp_all
   unfold partsB
   rw [hA1, hA2, hA]
   simp
  refine a_p 7 tK rfl rfl rfl rfl (by kernel_rfl) (fun _ _ _ h => h) hS ?_
  refine a_bar 8 rfl (by kernel_rfl) (by kernel_rfl) (o_call fo107 rfl rfl rfl (hasR_spec p hp 97 _) ?_)
  rintro _ _ ⟨rfl, rfl⟩
  refine a_p 9 tK rfl rfl rfl rfl (by kernel_rfl) (fun _ _ _ h => h) hS ?_
  refine a_p 10 tK rfl rfl rfl rfl (by kernel_rfl) (fun _ _ _ h => h) hS ?_
  refine a_splitB 77 _ rfl (fun c23 => ?_) (fun c23 => ?_)
  ·refine a_p 11 tK rfl rfl rfl rfl (by kernel_rfl) (fun _ _ _ h => h) hS ?_
   refine a_ld 12 tK (fun _ hs => (D_h2.ext hs).cell 2 _ rfl) rfl rfl rfl rfl rfl rfl (by kernel_rfl) (fun _ _ _ h => h) hS ?_
   refine a_p 13 tK rfl rfl rfl rfl (by kernel_rfl) (fun _ _ _ h => h) hS ?_
   refine a_p 14 tK rfl rfl rfl rfl (by kernel_rfl) (fun _ _ _ h => h) hS ?_
   refine a_p 15 tK rfl rfl rfl rfl (by kernel_rfl) (fun _ _ _ h => h) hS ?_
   refine a_end (by kernel_rfl) ?_
   refine x_seq ?_
   refine c_ifN _ rfl (fun c24 => ?_) (fun c24 => ?_)
   ·refine q0 (l_p 1 tK rfl (q1 (c_ret (x_seqR (x_ret1 rfl rfl ?_)))))
    refine ⟨?_, hE⟩
    have hA : (((hasB p 97 == isWordB t.arg) && (hasB p 97 || decide (t.arg = ⟨#[]⟩)))) = false := by
     simp_all
    unfold partsB
    rw [hA1, hA2, hA]
    simp
   refine c_skip ?_
   have hA : ((hasB p 97 == isWordB t.arg) && (hasB p 97 || decide (t.arg = ⟨#[]⟩))) = true := by
    simp_all
   exact x_cut (()) (s2 rfl rfl) ⟨hA, h2, ha, hlow, hE, hB⟩
  refine a_skip 11 rfl rfl rfl (by kernel_rfl) (fun _ _ _ h => h) hS ?_
  refine a_skip 12 rfl rfl rfl (by kernel_rfl) (fun _ _ _ h => h) hS ?_
  refine a_skip 13 rfl rfl rfl (by kernel_rfl) (fun _ _ _ h => h) hS ?_
  refine a_p 14 tK rfl rfl rfl rfl (by kernel_rfl) (fun _ _ _ h => h) hS ?_
  refine a_p 15 tK rfl rfl rfl rfl (by kernel_rfl) (fun _ _ _ h => h) hS ?_
  refine a_end (by kernel_rfl) ?_
  refine x_seq (c_ifF rfl (c_skip ?_))
  have hA : ((hasB p 97 == isWordB t.arg) && (hasB p 97 || decide (t.arg = ⟨#[]⟩))) = true := by
   simp_all
  exact x_cut (()) (s2 rfl rfl) ⟨hA, h2, ha, hlow, hE, hB⟩
 clear h2 ha hlow hE hB
 rintro _ w83 ⟨hA3, h2, ha, hlow, hE, hB⟩
 refine c_cut (X := Unit) (fun _u => [(1, .string p), (2, .pointer (some ⟨b2, 0, none⟩))]) (fun _u w' => (decide (0 ≤ t.n) && (!decide (0 < t.n) || (hasB p 105 || (hasB p 98 && decide (t.n = 1))))) = true ∧ At M w' b2 0 [.int .u8 t.op, .string t.name, .string t.arg, .int .i64 t.n, .bool t.has, .int .u8 t.ann.op, .string t.ann.name, .int .i64 t.ann.n, akv, kv] ∧ Rep.R M w' (.agg #[.int .u8 t.ann.op, .string t.ann.name, .int .i64 t.ann.n, akv]) t.ann ∧ Low M w' ∧ Below w.heap.size w w' ∧ w.heap.size ≤ w'.heap.size) ?_ ?_
 ·refine q0 (l_p 1 tK rfl ?_)
  refine lC (o_ld tK (h2.cell 3 _ rfl) rfl rfl rfl rfl rfl ?_)
  refine l_p 2 tK rfl ?_
  refine l_splitP 86 _ rfl (fun c25 => ?_) (fun c25 => ?_)
  ·refine l_p 19 tK rfl (q1 (c_ifT rfl (q0 (l_p 1 tK rfl (q1 (c_ret (x_seqR (x_ret1 rfl rfl ?_))))))))
   refine ⟨?_, hE⟩
   have hA : ((decide (0 ≤ t.n) && (!decide (0 < t.n) || (hasB p 105 || (hasB p 98 && decide (t.n = 1)))))) = false := by
    simp_all <;> omega
   unfold partsB
   rw [hA1, hA2, hA3, hA]
   simp
  refine l_p 1 tK rfl ?_
  refine lC (o_ld tK (h2.cell 3 _ rfl) rfl rfl rfl rfl rfl ?_)
  refine l_p 2 tK rfl ?_
  refine l_splitP 90 _ rfl (fun c26 => ?_) (fun c26 => ?_)
  ·refine l_p 1 tK rfl ?_
   refine lC (o_call fo107 rfl rfl rfl (hasR_spec p hp 105 _) ?_)
   rintro _ _ ⟨rfl, rfl⟩
   refine l_p 3 tK rfl ?_
   refine l_splitB 95 _ rfl (fun c27 => ?_) (fun c27 => ?_)
   ·refine l_p 1 tK rfl ?_
    refine lC (o_call fo107 rfl rfl rfl (hasR_spec p hp 98 _) ?_)
    rintro _ _ ⟨rfl, rfl⟩
    refine l_p 1 tK rfl ?_
    refine l_split 98 _ rfl (fun c28 => ?_) (fun c28 => ?_)
    ·refine l_p 1 tK rfl ?_
     refine lC (o_ld tK (h2.cell 3 _ rfl) rfl rfl rfl rfl rfl ?_)
     refine l_p 5 tK rfl (q1 ?_)
     refine c_ifN _ rfl (fun c29 => ?_) (fun c29 => ?_)
     ·refine q0 (l_p 1 tK rfl (q1 (c_ret (x_seqR (x_ret1 rfl rfl ?_)))))
      refine ⟨?_, hE⟩
      have hA : ((decide (0 ≤ t.n) && (!decide (0 < t.n) || (hasB p 105 || (hasB p 98 && decide (t.n = 1)))))) = false := by
       simp_all <;> omega
      unfold partsB
      rw [hA1, hA2, hA3, hA]
      simp
     refine c_skip ?_
     have hA : (decide (0 ≤ t.n) && (!decide (0 < t.n) || (hasB p 105 || (hasB p 98 && decide (t.n = 1))))) = true := by
      simp_all <;> omega
     exact x_cut (()) (s2 rfl rfl) ⟨hA, h2, ha, hlow, hE, hB⟩
    refine l_p 7 tK rfl (q1 (c_ifT rfl (q0 (l_p 1 tK rfl (q1 (c_ret (x_seqR (x_ret1 rfl rfl ?_))))))))
    refine ⟨?_, hE⟩
    have hA : ((decide (0 ≤ t.n) && (!decide (0 < t.n) || (hasB p 105 || (hasB p 98 && decide (t.n = 1)))))) = false := by
     simp_all <;> omega
    unfold partsB
    rw [hA1, hA2, hA3, hA]
    simp
   refine l_p 10 tK rfl (q1 (c_ifF rfl (c_skip ?_)))
   have hA : (decide (0 ≤ t.n) && (!decide (0 < t.n) || (hasB p 105 || (hasB p 98 && decide (t.n = 1))))) = true := by
    simp_all <;> omega
   exact x_cut (()) (s2 rfl rfl) ⟨hA, h2, ha, hlow, hE, hB⟩
  refine l_p 15 tK rfl (q1 (c_ifF rfl (c_skip ?_)))
  have hA : (decide (0 ≤ t.n) && (!decide (0 < t.n) || (hasB p 105 || (hasB p 98 && decide (t.n = 1))))) = true := by
   simp_all <;> omega
  exact x_cut (()) (s2 rfl rfl) ⟨hA, h2, ha, hlow, hE, hB⟩
 clear h2 ha hlow hE hB
 rintro _ w84 ⟨hA4, h2, ha, hlow, hE, hB⟩
 refine c_seq (q0 (l_p 1 tK rfl ?_))
 refine lC (o_ld tK (h2.cell 4 _ rfl) rfl rfl rfl rfl rfl ?_)
 refine l_p 1 tK rfl (q1 ?_)
 refine c_ifB _ rfl (fun c30 => ?_) (fun c30 => ?_)
 ·refine q0 (l_p 1 tK rfl ?_)
  refine lC (o_call fo107 rfl rfl rfl (hasR_spec p hp 84 _) ?_)
  rintro _ _ ⟨rfl, rfl⟩
  refine l_p 2 tK rfl ?_
  refine l_splitB 112 _ rfl (fun c31 => ?_) (fun c31 => ?_)
  ·refine l_p 1 tK rfl ?_
   refine lC (o_lds tK (fun j v hv => (h2).mid 5 (sub := [.int .u8 t.ann.op, .string t.ann.name, .int .i64 t.ann.n, akv]) rfl j v hv) rfl rfl rfl rfl rfl rfl ?_)
   refine lC (o_call fo108 rfl rfl rfl (zero_spec _ _ _ _ ha hlow) ?_)
   rintro _ w7 ⟨rfl, ew7⟩
   replace hE := ew7.bl hE hB
   replace h2 := h2.ext ew7
   replace ha := Rep.ext ha ew7
   replace hlow := hlow.ext ew7
   replace hB := ew7.z hB
   refine l_p 2 tK rfl (q1 (c_ret (x_seqR (x_ret1 rfl rfl ?_))))
   refine ⟨?_, hE⟩
   unfold partsB
   rw [hA1, hA2, hA3, hA4]
   simp_all
  refine l_p 5 tK rfl (q1 (c_ret (x_seqR (x_ret1 rfl rfl ?_))))
  refine ⟨?_, hE⟩
  unfold partsB
  rw [hA1, hA2, hA3, hA4]
  simp_all
 refine c_skip (x_seq (q0 (l_p 1 tK rfl ?_)))
 refine lC (o_call fo107 rfl rfl rfl (hasR_spec p hp 84 _) ?_)
 rintro _ _ ⟨rfl, rfl⟩
 refine l_p 1 tK rfl ?_
 refine l_split 119 _ rfl (fun c32 => ?_) (fun c32 => ?_)
 ·refine l_p 5 tK rfl ?_
  refine lC (o_lds tK (fun j v hv => (h2).mid 5 (sub := [.int .u8 t.ann.op, .string t.ann.name, .int .i64 t.ann.n, akv]) rfl j v hv) rfl rfl rfl rfl rfl rfl ?_)
  refine lC (o_call fo45 rfl rfl rfl (refRight_spec _ _ _ _ ha hlow hz) ?_)
  rintro _ w8 ⟨rfl, ew8⟩
  replace hE := ew8.bl hE hB
  replace h2 := h2.ext ew8
  replace ha := Rep.ext ha ew8
  replace hlow := hlow.ext ew8
  replace hB := ew8.z hB
  refine l_p 2 tK rfl ?_
  refine l_split 128 _ rfl (fun c33 => ?_) (fun c33 => ?_)
  ·refine l_p 1 tK rfl ?_
   refine lC (o_lds tK (fun j v hv => (h2).mid 5 (sub := [.int .u8 t.ann.op, .string t.ann.name, .int .i64 t.ann.n, akv]) rfl j v hv) rfl rfl rfl rfl rfl rfl ?_)
   have hsh : shapeF t.ann 116 = true := by
    have h9 : rightB t.ann = true := by assumption
    unfold rightB at h9; simp_all
   refine lC (o_call fo109 rfl rfl rfl (refVars_spec t.ann 116 _ _ _ hsh ha hlow hz) ?_)
   rintro vhv w9 ⟨hv, ew9⟩
   replace hE := ew9.bl hE hB
   replace h2 := h2.ext ew9
   replace ha := Rep.ext ha ew9
   replace hlow := hlow.ext ew9
   replace hB := ew9.z hB
   refine lC (o_len tK hv rfl rfl rfl rfl rfl ?_)
   refine l_p 3 tK rfl (q1 (c_ret (x_ret1 rfl rfl ?_)))
   refine ⟨?_, hE⟩
   unfold partsB
   rw [hA1, hA2, hA3, hA4]
   simp_all
  refine l_p 7 tK rfl (q1 (c_ret (x_ret1 rfl rfl ?_)))
  refine ⟨?_, hE⟩
  unfold partsB
  rw [hA1, hA2, hA3, hA4]
  simp_all
 refine l_p 1 tK rfl ?_
 refine lC (o_call fo107 rfl rfl rfl (hasR_spec p hp 116 _) ?_)
 rintro _ _ ⟨rfl, rfl⟩
 refine l_p 2 tK rfl ?_
 refine l_split 123 _ rfl (fun c34 => ?_) (fun c34 => ?_)
 ·refine l_p 1 tK rfl ?_
  refine lC (o_lds tK (fun j v hv => (h2).mid 5 (sub := [.int .u8 t.ann.op, .string t.ann.name, .int .i64 t.ann.n, akv]) rfl j v hv) rfl rfl rfl rfl rfl rfl ?_)
  refine lC (o_call fo45 rfl rfl rfl (refRight_spec _ _ _ _ ha hlow hz) ?_)
  rintro _ w10 ⟨rfl, ew10⟩
  replace hE := ew10.bl hE hB
  replace h2 := h2.ext ew10
  replace ha := Rep.ext ha ew10
  replace hlow := hlow.ext ew10
  replace hB := ew10.z hB
  refine l_p 2 tK rfl ?_
  refine l_split 128 _ rfl (fun c35 => ?_) (fun c35 => ?_)
  ·refine l_p 1 tK rfl ?_
   refine lC (o_lds tK (fun j v hv => (h2).mid 5 (sub := [.int .u8 t.ann.op, .string t.ann.name, .int .i64 t.ann.n, akv]) rfl j v hv) rfl rfl rfl rfl rfl rfl ?_)
   have hsh : shapeF t.ann 116 = true := by
    have h9 : rightB t.ann = true := by assumption
    unfold rightB at h9; simp_all
   refine lC (o_call fo109 rfl rfl rfl (refVars_spec t.ann 116 _ _ _ hsh ha hlow hz) ?_)
   rintro vhv w11 ⟨hv, ew11⟩
   replace hE := ew11.bl hE hB
   replace h2 := h2.ext ew11
   replace ha := Rep.ext ha ew11
   replace hlow := hlow.ext ew11
   replace hB := ew11.z hB
   refine lC (o_len tK hv rfl rfl rfl rfl rfl ?_)
   refine l_p 3 tK rfl (q1 (c_ret (x_ret1 rfl rfl ?_)))
   refine ⟨?_, hE⟩
   unfold partsB
   rw [hA1, hA2, hA3, hA4]
   simp_all
  refine l_p 7 tK rfl (q1 (c_ret (x_ret1 rfl rfl ?_)))
  refine ⟨?_, hE⟩
  unfold partsB
  rw [hA1, hA2, hA3, hA4]
  simp_all
 refine l_p 12 tK rfl (q1 (c_ret (x_ret1 rfl rfl ?_)))
 refine ⟨?_, hE⟩
 unfold partsB
 rw [hA1, hA2, hA3, hA4]
 simp_all
end Go.Proofs.Ytohfnpmehgpphaa
namespace Go.Proofs.Ytohfnpmehgpphaa
open Go Rw Go.RowKit
set_option maxRecDepth 100000
theorem takeM_same {l k : List Tm} {i : Nat} (hi : i < l.length) (hk : i < k.length) (h : l.take i = k.take i) (e : l[i] = k[i]) : l.take (i + 1) = k.take (i + 1) := by
 rw [List.take_succ_eq_append_getElem hi, List.take_succ_eq_append_getElem hk, h, e]
theorem takeM_full {l k : List Tm} {i : Nat} (hi : l.length ≤ i) (hl : l.length = k.length) (h : l.take i = k.take i) : l = k := by
 rw [List.take_of_length_le hi, List.take_of_length_le (by omega)] at h; exact h
theorem partsS_size (op : Int) : (partsS op).size < 100 := by
 by_cases h : op < 32 ∨ 52 ≤ op
 ·rw [partsS, if_pos h]; decide
 ·rcases op_cases h with e | e | e | e | e | e | e | e | e | e | e | e | e | e | e | e | e | e | e | e <;> subst e <;> decide
theorem refTRight_spec : ∀ (t : Tm) (arm : Bool) (M : Nat → Prop) (w : World) (v : Value), Rep.R M w v t → Low M w → AnnS t → Calls Try.prog 43 #[v, .bool arm] w (Ret fun r w' => r = .bool (refT t arm) ∧ Ext w w') := by
 refine Tm.ind fun t ih => ?_
 intro arm M w v ht hlow hz
 have hE : Below w.heap.size w w := Below.refl _ _
 have hB : w.heap.size ≤ w.heap.size := Nat.le_refl _
 obtain ⟨akv, kv, rfl, op, nm, ag, n64, ha, hk⟩ := tm_open ht
 have hlt := hk.lt
 have hps : (partsS t.op).size < 100 := partsS_size t.op
 refine c_enter (n := 107) Try.func43 rfl rfl rfl ?_
 refine q0 ?_
 refine lC (o_box rfl rfl rfl ?_)
 intro b2 w1 hb_b2 ew1 h2
 replace h2 : Box _ b2 84 [.int .u8 t.op, .string t.name, .string t.arg, .int .i64 t.n, .bool t.has, .int .u8 t.ann.op, .string t.ann.name, .int .i64 t.ann.n, akv, kv] := h2
 replace h2 := h2.at (nM_of hlow hb_b2)
 replace hE := ew1.bl hE hB
 replace ht := Rep.ext ht ew1
 replace ha := Rep.ext ha ew1
 replace hk := hk.ext ew1
 replace hlow := hlow.ext ew1
 replace hB := ew1.z hB
 refine l_p 1 tK rfl (q1 (q0 (l_p 1 tK rfl ?_)))
 refine lC (o_ld tK (h2.cell 0 _ rfl) rfl rfl rfl rfl rfl ?_)
 refine lC (o_call fo84 rfl rfl rfl (partsS_spec t.op op M _ hlow) ?_)
 rintro _ w2 ⟨rfl, ew2⟩
 replace hE := ew2.bl hE hB
 replace ht := Rep.ext ht ew2
 replace ha := Rep.ext ha ew2
 replace hk := hk.ext ew2
 replace h2 := h2.ext ew2
 replace hlow := hlow.ext ew2
 replace hB := ew2.z hB
 refine l_p 1 tK rfl (q1 ?_)
 refine c_cut (X := Unit) (fun _u => [(2, .pointer (some ⟨b2, 0, none⟩)), (5, .string (partsS t.op))]) (fun _u w' => refT t arm = (bif decide ((partsS t.op) = ⟨#[99]⟩) then caseL (refL t.kids) else decide (t.kids.length = countE (partsS t.op)) && allL (refL t.kids)) ∧ At M w' b2 0 [.int .u8 t.op, .string t.name, .string t.arg, .int .i64 t.n, .bool t.has, .int .u8 t.ann.op, .string t.ann.name, .int .i64 t.ann.n, akv, kv] ∧ Sl M w' kv t.kids ∧ Low M w' ∧ Below w.heap.size w w' ∧ w.heap.size ≤ w'.heap.size) ?_ ?_
 ·refine q0 (l_p 3 tK rfl ?_)
  refine l_splitP 15 _ rfl (fun c1 => ?_) (fun c1 => ?_)
  ·refine l_p 17 tK rfl (q1 (c_ifT rfl (q0 (l_p 1 tK rfl (q1 (c_ret (x_seqR (x_ret1 rfl rfl ?_))))))))
   exact ⟨by rw [refT_eq]; clear ih; unfold armsB; simp_all, hE⟩
  refine l_p 2 tK rfl ?_
  refine lC (o_ld tK (h2.cell 0 _ rfl) rfl rfl rfl rfl rfl ?_)
  refine l_p 2 tK rfl ?_
  refine l_splitP 20 _ rfl (fun c2 => ?_) (fun c2 => ?_)
  ·refine l_p 4 tK rfl ?_
   refine lC (o_bne tK rfl rfl rfl rfl rfl rfl ?_)
   refine l_p 2 tK rfl ?_
   refine l_split 27 _ rfl (fun c3 => ?_) (fun c3 => ?_)
   ·refine l_p 5 tK rfl (q1 (c_ifT rfl (q0 (l_p 1 tK rfl (q1 (c_ret (x_seqR (x_ret1 rfl rfl ?_))))))))
    exact ⟨by rw [refT_eq]; clear ih; unfold armsB; simp_all, hE⟩
   refine lC (o_lds tK (fun j v hv => h2.cell j v hv) rfl rfl rfl rfl rfl rfl ?_)
   refine l_p 1 tK rfl ?_
   refine lC (o_call fo85 rfl rfl rfl (partsR_spec t _ (by omega) _ _ _ ht hlow hz.self) ?_)
   rintro _ w3 ⟨rfl, ew3⟩
   replace hE := ew3.bl hE hB
   replace ht := Rep.ext ht ew3
   replace ha := Rep.ext ha ew3
   replace hk := hk.ext ew3
   replace h2 := h2.ext ew3
   replace hlow := hlow.ext ew3
   replace hB := ew3.z hB
   refine l_p 2 tK rfl (q1 ?_)
   refine c_ifB _ rfl (fun c4 => ?_) (fun c4 => ?_)
   ·refine q0 (l_p 1 tK rfl (q1 (c_ret (x_seqR (x_ret1 rfl rfl ?_)))))
    exact ⟨by rw [refT_eq]; clear ih; unfold armsB; simp_all, hE⟩
   refine c_skip ?_
   have hhd : refT t arm = (bif decide ((partsS t.op) = ⟨#[99]⟩) then caseL (refL t.kids) else decide (t.kids.length = countE (partsS t.op)) && allL (refL t.kids)) := by
    rw [refT_eq]
    clear ih
    unfold armsB
    simp_all
   exact x_cut (()) (s2 rfl rfl) ⟨hhd, h2, hk, hlow, hE, hB⟩
  refine l_p 1 tK rfl ?_
  refine lC (o_ld tK (h2.cell 0 _ rfl) rfl rfl rfl rfl rfl ?_)
  refine l_p 2 tK rfl ?_
  refine lC (o_bne tK rfl rfl rfl rfl rfl rfl ?_)
  refine l_p 2 tK rfl ?_
  refine l_split 27 _ rfl (fun c5 => ?_) (fun c5 => ?_)
  ·refine l_p 5 tK rfl (q1 (c_ifT rfl (q0 (l_p 1 tK rfl (q1 (c_ret (x_seqR (x_ret1 rfl rfl ?_))))))))
   exact ⟨by rw [refT_eq]; clear ih; unfold armsB; simp_all, hE⟩
  refine lC (o_lds tK (fun j v hv => h2.cell j v hv) rfl rfl rfl rfl rfl rfl ?_)
  refine l_p 1 tK rfl ?_
  refine lC (o_call fo85 rfl rfl rfl (partsR_spec t _ (by omega) _ _ _ ht hlow hz.self) ?_)
  rintro _ w4 ⟨rfl, ew4⟩
  replace hE := ew4.bl hE hB
  replace ht := Rep.ext ht ew4
  replace ha := Rep.ext ha ew4
  replace hk := hk.ext ew4
  replace h2 := h2.ext ew4
  replace hlow := hlow.ext ew4
  replace hB := ew4.z hB
  refine l_p 2 tK rfl (q1 ?_)
  refine c_ifB _ rfl (fun c6 => ?_) (fun c6 => ?_)
  ·refine q0 (l_p 1 tK rfl (q1 (c_ret (x_seqR (x_ret1 rfl rfl ?_)))))
   exact ⟨by rw [refT_eq]; clear ih; unfold armsB; simp_all, hE⟩
  refine c_skip ?_
  have hhd : refT t arm = (bif decide ((partsS t.op) = ⟨#[99]⟩) then caseL (refL t.kids) else decide (t.kids.length = countE (partsS t.op)) && allL (refL t.kids)) := by
   rw [refT_eq]
   clear ih
   unfold armsB
   simp_all
  exact x_cut (()) (s2 rfl rfl) ⟨hhd, h2, hk, hlow, hE, hB⟩
 clear h2 hk ht ha hlow hE hB
 rintro _ w80 ⟨hhd, h2, hk, hlow, hE, hB⟩
 refine q0 (l_p 1 tK rfl (q1 (c_seq (q0 (l_p 1 tK rfl (q1 (c_blk ?_)))))))
 refine c_loop (X := Nat) (fun i => [(2, .pointer (some ⟨b2, 0, none⟩)), (5, .string (partsS t.op)), (6, .int .i64 (countTo (partsS t.op) i : Nat)), (7, .int .i64 (i : Nat))]) (fun i w' => i ≤ (partsS t.op).size ∧ At M w' b2 0 [.int .u8 t.op, .string t.name, .string t.arg, .int .i64 t.n, .bool t.has, .int .u8 t.ann.op, .string t.ann.name, .int .i64 t.ann.n, akv, kv] ∧ Sl M w' kv t.kids ∧ Low M w' ∧ Below w.heap.size w w' ∧ w.heap.size ≤ w'.heap.size) (fun i => (partsS t.op).size - i) (0) (s4 rfl rfl rfl rfl) ?_ ?_
 ·exact ⟨Nat.zero_le _, h2, hk, hlow, hE, hB⟩
 clear h2 hk hlow hE hB
 rintro i w5 ⟨hi, h2, hk, hlow, hE, hB⟩
 have hct := countTo_le (partsS t.op) i
 refine c_seq (q0 (l_p 4 tK rfl (q1 ?_)))
 refine c_ifP _ rfl (fun c7 => ?_) (fun c7 => ?_)
 ·refine c_skip (x_seq (c_seq (c_blk (q0 (l_p 2 tK rfl ?_)))))
  have his : i < (partsS t.op).size := by omega
  obtain ⟨ch, hd⟩ : ∃ ch, (partsS t.op).data[i]? = some ch := ⟨_, Array.getElem?_eq_getElem (show i < (partsS t.op).data.size from his)⟩
  refine lC (o_si tK rfl rfl rfl rfl rfl hd rfl rfl ?_)
  refine l_p 1 tK rfl (q1 ?_)
  refine c_ifP _ rfl (fun c8 => ?_) (fun c8 => ?_)
  ·refine c_reg (l_p 1 tK rfl ?_)
   refine lC (o_ai rfl rfl rfl (by omega) rfl rfl ?_)
   refine l_p 1 tK rfl (q2 (x_seq (c_reg (l_p 1 tK rfl ?_))))
   refine lC (o_ai rfl rfl rfl (by omega) rfl rfl ?_)
   refine l_p 1 tK rfl (l_nil ?_)
   exact x_round (i + 1) (s4 rfl rfl (get_num rfl (by rw [countTo_step hd, if_pos (UInt8.toNat_inj.1 (show ch.toNat = 101 by omega))]; omega)) (get_num rfl (by omega))) ⟨by omega, h2, hk, hlow, hE, hB⟩ (by omega)
  refine c_skip (x_blk (x_seq (c_reg (l_p 1 tK rfl ?_))))
  refine lC (o_ai rfl rfl rfl (by omega) rfl rfl ?_)
  refine l_p 1 tK rfl (l_nil ?_)
  exact x_round (i + 1) (s4 rfl rfl (get_num rfl (by rw [countTo_step hd, if_neg (fun e : ch = 101 => c8 (by rw [e]; rfl))]; omega)) (get_num rfl (by omega))) ⟨by omega, h2, hk, hlow, hE, hB⟩ (by omega)
 refine c_exit (x_seqE (x_seqE (x_blkE (x_seq (c_seq (q0 (l_p 2 tK rfl (q1 ?_))))))))
 refine c_ifP _ rfl (fun c9 => ?_) (fun c9 => ?_)
 ·refine c_seq (q0 (l_p 1 tK rfl ?_))
  refine lC (o_ld tK (h2.cell 9 _ rfl) rfl rfl rfl rfl rfl ?_)
  refine lC (o_len tK hk rfl rfl rfl rfl rfl ?_)
  refine l_p 2 tK rfl ?_
  refine l_splitP 51 _ rfl (fun c10 => ?_) (fun c10 => ?_)
  ·refine l_p 7 tK rfl (q1 (c_ifT rfl (q0 (l_p 1 tK rfl (q1 (c_ret (x_seqR (x_seqR (x_ret1 rfl rfl ?_)))))))))
   refine ⟨?_, hE⟩
   rw [hhd, decide_eq_true (by assumption), cond_true]
   by_cases h9 : t.kids.length = 0
   ·rw [List.eq_nil_of_length_eq_zero h9]; rfl
   ·first | (exfalso; omega) | (rw [caseL_step (by omega)]; clear ih; simp_all)
  refine l_p 1 tK rfl ?_
  refine lC (o_ld tK (h2.cell 9 _ rfl) rfl rfl rfl rfl rfl ?_)
  have h0k : 0 < t.kids.length := by omega
  refine lC (o_ixS tK hk (List.getElem?_eq_getElem h0k) rfl rfl rfl rfl rfl rfl rfl rfl rfl ?_)
  intro ebx eox eux hyx hatx
  obtain ⟨akvx, kvx, rfl, opx, nmx, agx, n64x, hax, hkx⟩ := tm_open hyx
  replace hatx : At M w5 ebx eox [.int .u8 t.kids[0].op, .string t.kids[0].name, .string t.kids[0].arg, .int .i64 t.kids[0].n, .bool t.kids[0].has, .int .u8 t.kids[0].ann.op, .string t.kids[0].ann.name, .int .i64 t.kids[0].ann.n, akvx, kvx] := hatx
  refine lC (o_lds tK (fun j v hv => hatx.cell j v hv) rfl rfl rfl rfl rfl rfl ?_)
  refine lC (o_call fo43 rfl rfl rfl (ih _ (List.getElem_mem h0k) _ M _ _ hyx hlow (hz.kid (List.getElem_mem h0k))) ?_)
  rintro _ w6 ⟨rfl, ew6⟩
  replace hE := ew6.bl hE hB
  replace h2 := h2.ext ew6
  replace hk := hk.ext ew6
  replace hyx := Rep.ext hyx ew6
  replace hax := Rep.ext hax ew6
  replace hkx := hkx.ext ew6
  replace hatx := hatx.ext ew6
  replace hlow := hlow.ext ew6
  replace hB := ew6.z hB
  refine l_p 2 tK rfl (q1 ?_)
  refine c_ifB _ rfl (fun c11 => ?_) (fun c11 => ?_)
  ·refine q0 (l_p 1 tK rfl (q1 (c_ret (x_seqR (x_seqR (x_ret1 rfl rfl ?_))))))
   refine ⟨?_, hE⟩
   rw [hhd, decide_eq_true (by assumption), cond_true]
   by_cases h9 : t.kids.length = 0
   ·rw [List.eq_nil_of_length_eq_zero h9]; rfl
   ·first | (exfalso; omega) | (rw [caseL_step (by omega)]; clear ih; simp_all)
  refine c_skip (x_seq (c_seq (q0 (l_p 1 tK rfl (q1 (c_blk ?_))))))
  have h0k : 0 < t.kids.length := by omega
  have hcase : refT t arm = armsL (refL (t.kids.drop 1)) := by
   rw [hhd, decide_eq_true (by assumption), cond_true, caseL_step h0k]; clear ih; simp_all
  refine c_loop (X := Nat) (fun i => [(2, .pointer (some ⟨b2, 0, none⟩)), (8, .int .i64 (i : Nat))]) (fun i w' => 1 ≤ i ∧ i ≤ t.kids.length ∧ refT t arm = armsL (refL (t.kids.drop i)) ∧ At M w' b2 0 [.int .u8 t.op, .string t.name, .string t.arg, .int .i64 t.n, .bool t.has, .int .u8 t.ann.op, .string t.ann.name, .int .i64 t.ann.n, akv, kv] ∧ Sl M w' kv t.kids ∧ Low M w' ∧ Below w.heap.size w w' ∧ w.heap.size ≤ w'.heap.size) (fun i => t.kids.length - i) (1) (s2 rfl rfl) ?_ ?_
  ·exact ⟨Nat.le_refl _, by omega, hcase, h2, hk, hlow, hE, hB⟩
  clear h2 hk hlow hE hB
  rintro i w7 ⟨hi1, hi, hinv, h2, hk, hlow, hE, hB⟩
  refine c_seq (q0 (l_p 2 tK rfl ?_))
  refine lC (o_ld tK (h2.cell 9 _ rfl) rfl rfl rfl rfl rfl ?_)
  refine lC (o_len tK hk rfl rfl rfl rfl rfl ?_)
  refine l_p 1 tK rfl (q1 ?_)
  refine c_ifP _ rfl (fun c12 => ?_) (fun c12 => ?_)
  ·refine c_skip (x_seq (c_seq (c_blk (q0 (l_p 1 tK rfl ?_)))))
   refine lC (o_ld tK (h2.cell 9 _ rfl) rfl rfl rfl rfl rfl ?_)
   refine l_p 1 tK rfl ?_
   have hik : i < t.kids.length := by omega
   refine lC (o_ixS tK hk (List.getElem?_eq_getElem hik) rfl rfl rfl rfl rfl rfl rfl rfl rfl ?_)
   intro ebx eox eux hyx hatx
   obtain ⟨akvx, kvx, rfl, opx, nmx, agx, n64x, hax, hkx⟩ := tm_open hyx
   replace hatx : At M w7 ebx eox [.int .u8 t.kids[i].op, .string t.kids[i].name, .string t.kids[i].arg, .int .i64 t.kids[i].n, .bool t.kids[i].has, .int .u8 t.kids[i].ann.op, .string t.kids[i].ann.name, .int .i64 t.kids[i].ann.n, akvx, kvx] := hatx
   refine lC (o_lds tK (fun j v hv => hatx.cell j v hv) rfl rfl rfl rfl rfl rfl ?_)
   refine lC (o_call fo43 rfl rfl rfl (ih _ (List.getElem_mem hik) _ M _ _ hyx hlow (hz.kid (List.getElem_mem hik))) ?_)
   rintro _ w8 ⟨rfl, ew8⟩
   replace hE := ew8.bl hE hB
   replace h2 := h2.ext ew8
   replace hk := hk.ext ew8
   replace hyx := Rep.ext hyx ew8
   replace hax := Rep.ext hax ew8
   replace hkx := hkx.ext ew8
   replace hatx := hatx.ext ew8
   replace hlow := hlow.ext ew8
   replace hB := ew8.z hB
   refine l_p 2 tK rfl ?_
   refine l_splitB 73 _ rfl (fun c13 => ?_) (fun c13 => ?_)
   ·refine l_p 16 tK rfl (q1 (c_ifT rfl (q0 (l_p 1 tK rfl (q1 (c_ret (x_blkR (x_seqR (x_seqR (x_blkR (x_seqR (x_seqR (x_ret1 rfl rfl ?_)))))))))))))
    exact ⟨by rw [hinv, armsL_step hik]; clear ih; first | (rw [decide_eq_true (show i + 1 < t.kids.length by omega)]; simp_all) | simp_all, hE⟩
   refine l_p 1 tK rfl ?_
   refine lC (o_ld tK (h2.cell 9 _ rfl) rfl rfl rfl rfl rfl ?_)
   refine l_p 1 tK rfl ?_
   refine lC (o_ixS tK hk (List.getElem?_eq_getElem hik) rfl rfl rfl rfl rfl rfl rfl rfl rfl ?_)
   intro eby eoy euy hyy haty
   obtain ⟨akvy, kvy, rfl, opy, nmy, agy, n64y, hay, hky⟩ := tm_open hyy
   replace haty : At M w8 eby eoy [.int .u8 t.kids[i].op, .string t.kids[i].name, .string t.kids[i].arg, .int .i64 t.kids[i].n, .bool t.kids[i].has, .int .u8 t.kids[i].ann.op, .string t.kids[i].ann.name, .int .i64 t.kids[i].ann.n, akvy, kvy] := haty
   refine l_p 1 tK rfl ?_
   refine lC (o_ld tK (haty.cell 0 _ rfl) rfl rfl rfl rfl rfl ?_)
   refine l_p 2 tK rfl ?_
   refine l_splitP 81 _ rfl (fun c14 => ?_) (fun c14 => ?_)
   ·refine l_p 2 tK rfl ?_
    refine lC (o_ld tK (h2.cell 9 _ rfl) rfl rfl rfl rfl rfl ?_)
    refine lC (o_len tK hk rfl rfl rfl rfl rfl ?_)
    refine lC (o_ai rfl rfl rfl (by omega) rfl rfl ?_)
    refine l_p 3 tK rfl (q1 ?_)
    refine c_ifP _ rfl (fun c15 => ?_) (fun c15 => ?_)
    ·refine q0 (l_p 1 tK rfl (q1 (c_ret (x_blkR (x_seqR (x_seqR (x_blkR (x_seqR (x_seqR (x_ret1 rfl rfl ?_))))))))))
     exact ⟨by rw [hinv, armsL_step hik]; clear ih; first | (rw [decide_eq_true (show i + 1 < t.kids.length by omega)]; simp_all) | simp_all, hE⟩
    refine c_skip (x_blk (x_seq (c_reg (l_p 1 tK rfl ?_))))
    refine lC (o_ai rfl rfl rfl (by omega) rfl rfl ?_)
    refine l_p 1 tK rfl (l_nil ?_)
    exact x_round (i + 1) (s2 rfl (get_num rfl (by omega))) ⟨by omega, by omega, by rw [hinv, armsL_step hik]; clear ih; first | (rw [decide_eq_false (show ¬ i + 1 < t.kids.length by omega)]; simp_all) | simp_all, h2, hk, hlow, hE, hB⟩ (by omega)
   refine l_p 8 tK rfl (q1 (c_ifF rfl (c_skip (x_blk (x_seq (c_reg (l_p 1 tK rfl ?_)))))))
   refine lC (o_ai rfl rfl rfl (by omega) rfl rfl ?_)
   refine l_p 1 tK rfl (l_nil ?_)
   exact x_round (i + 1) (s2 rfl (get_num rfl (by omega))) ⟨by omega, by omega, by rw [hinv, armsL_step hik]; clear ih; first | (rw [decide_eq_false (show ¬ i + 1 < t.kids.length by omega)]; simp_all) | simp_all, h2, hk, hlow, hE, hB⟩ (by omega)
  refine c_exit (x_seqE (x_seqE (x_blkE (x_seq (q0 (l_p 1 tK rfl (q1 (c_ret (x_seqR (x_ret1 rfl rfl ?_))))))))))
  exact ⟨by rw [hinv, armsL_end (by omega)], hE⟩
 refine c_skip (x_seq (c_seq (q0 (l_p 1 tK rfl ?_))))
 refine lC (o_ld tK (h2.cell 9 _ rfl) rfl rfl rfl rfl rfl ?_)
 refine lC (o_len tK hk rfl rfl rfl rfl rfl ?_)
 refine l_p 2 tK rfl (q1 ?_)
 refine c_ifN _ rfl (fun c16 => ?_) (fun c16 => ?_)
 ·refine q0 (l_p 1 tK rfl (q1 (c_ret (x_seqR (x_ret1 rfl rfl ?_)))))
  have hlen : t.kids.length ≠ countE (partsS t.op) := by rw [← countTo_all (s := (partsS t.op)) (i := i) (by omega)]; omega
  exact ⟨by rw [hhd, decide_eq_false (by assumption), cond_false, decide_eq_false hlen]; rfl, hE⟩
 refine c_skip (x_seq (c_seq (q0 (l_p 1 tK rfl (q1 (c_blk ?_))))))
 have hlen : t.kids.length = countE (partsS t.op) := by rw [← countTo_all (s := (partsS t.op)) (i := i) (by omega)]; omega
 have hall : refT t arm = allL (refL (t.kids.drop 0)) := by
  rw [hhd, decide_eq_false (by assumption), cond_false, decide_eq_true hlen]; rfl
 have hcte : countTo (partsS t.op) i = t.kids.length := by rw [hlen, countTo_all (by omega)]
 have hgo : (countTo (partsS t.op) i : Int) = (t.kids.length : Int) := by omega
 refine c_loop (X := Nat) (fun j => [(2, .pointer (some ⟨b2, 0, none⟩)), (6, .int .i64 (t.kids.length : Int)), (9, .int .i64 (j : Nat))]) (fun j w' => j ≤ t.kids.length ∧ refT t arm = allL (refL (t.kids.drop j)) ∧ At M w' b2 0 [.int .u8 t.op, .string t.name, .string t.arg, .int .i64 t.n, .bool t.has, .int .u8 t.ann.op, .string t.ann.name, .int .i64 t.ann.n, akv, kv] ∧ Sl M w' kv t.kids ∧ Low M w' ∧ Below w.heap.size w w' ∧ w.heap.size ≤ w'.heap.size) (fun j => t.kids.length - j) (0) (s3 rfl (get_num rfl hgo) rfl) ?_ ?_
 ·exact ⟨Nat.zero_le _, hall, h2, hk, hlow, hE, hB⟩
 clear h2 hk hlow hE hB
 rintro j w9 ⟨hj, hinv, h2, hk, hlow, hE, hB⟩
 refine c_seq (q0 (l_p 3 tK rfl (q1 ?_)))
 refine c_ifP _ rfl (fun c17 => ?_) (fun c17 => ?_)
 ·refine c_skip (x_seq (c_seq (c_blk (q0 (l_p 1 tK rfl ?_)))))
  refine lC (o_ld tK (h2.cell 9 _ rfl) rfl rfl rfl rfl rfl ?_)
  refine l_p 1 tK rfl ?_
  have hjk : j < t.kids.length := by omega
  refine lC (o_ixS tK hk (List.getElem?_eq_getElem hjk) rfl rfl rfl rfl rfl rfl rfl rfl rfl ?_)
  intro ebx eox eux hyx hatx
  obtain ⟨akvx, kvx, rfl, opx, nmx, agx, n64x, hax, hkx⟩ := tm_open hyx
  replace hatx : At M w9 ebx eox [.int .u8 t.kids[j].op, .string t.kids[j].name, .string t.kids[j].arg, .int .i64 t.kids[j].n, .bool t.kids[j].has, .int .u8 t.kids[j].ann.op, .string t.kids[j].ann.name, .int .i64 t.kids[j].ann.n, akvx, kvx] := hatx
  refine lC (o_lds tK (fun j v hv => hatx.cell j v hv) rfl rfl rfl rfl rfl rfl ?_)
  refine lC (o_call fo43 rfl rfl rfl (ih _ (List.getElem_mem hjk) _ M _ _ hyx hlow (hz.kid (List.getElem_mem hjk))) ?_)
  rintro _ w10 ⟨rfl, ew10⟩
  replace hE := ew10.bl hE hB
  replace h2 := h2.ext ew10
  replace hk := hk.ext ew10
  replace hyx := Rep.ext hyx ew10
  replace hax := Rep.ext hax ew10
  replace hkx := hkx.ext ew10
  replace hatx := hatx.ext ew10
  replace hlow := hlow.ext ew10
  replace hB := ew10.z hB
  refine l_p 1 tK rfl (q1 ?_)
  refine c_ifB _ rfl (fun c18 => ?_) (fun c18 => ?_)
  ·refine q0 (l_p 1 tK rfl (q1 (c_ret (x_blkR (x_seqR (x_seqR (x_blkR (x_seqR (x_ret1 rfl rfl ?_)))))))))
   exact ⟨by rw [hinv, allL_step hjk]; clear ih; simp_all, hE⟩
  refine c_skip (x_blk (x_seq (c_reg (l_p 1 tK rfl ?_))))
  refine lC (o_ai rfl rfl rfl (by omega) rfl rfl ?_)
  refine l_p 1 tK rfl (l_nil ?_)
  exact x_round (j + 1) (s3 rfl rfl (get_num rfl (by omega))) ⟨by omega, by rw [hinv, allL_step hjk]; clear ih; simp_all, h2, hk, hlow, hE, hB⟩ (by omega)
 refine c_exit (x_seqE (x_seqE (x_blkE (x_seq (q0 (l_p 1 tK rfl (q1 (c_ret (x_ret1 rfl rfl ?_)))))))))
 exact ⟨by rw [hinv, allL_end (by omega)], hE⟩
theorem refTR_spec (t : Tm) (arm : Bool) (M : Nat → Prop) (w : World) (v : Value) (ht : Rep.R M w v t) (hlow : Low M w) (hz : AnnS t) :
  Calls Try.prog 43 #[v, .bool arm] w (Ret fun r w' => r = .bool (rightT t arm) ∧ Ext w w') := ref_right t arm ▸ refTRight_spec t arm M w v ht hlow hz
theorem alikeM_spec : ∀ (t : Tm) (s : Tm) (M : Nat → Prop) (w : World) (v u : Value), Rep.R M w v t → Rep.R M w u s → Low M w → Calls Try.prog 37 #[v, u] w (Ret fun r w' => r = .bool (@decide (t = s) (Classical.propDecidable _)) ∧ Ext w w') := by
 refine Tm.ind fun t ih => ?_
 intro s M w v u ht hs hlow
 have hE : Below w.heap.size w w := Below.refl _ _
 have hB : w.heap.size ≤ w.heap.size := Nat.le_refl _
 obtain ⟨akv, kv, rfl, op, nm, ag, n64, ha, hk⟩ := tm_open ht
 obtain ⟨akvs, kvs, rfl, ops, nms, ags, n64s, has, hks⟩ := tm_open hs
 have hlt := hk.lt
 refine c_enter (n := 75) Try.func37 rfl rfl rfl ?_
 refine q0 ?_
 refine lC (o_box rfl rfl rfl ?_)
 intro b1 w1 hb_b1 ew1 h1
 replace h1 : Box _ b1 84 [.int .u8 t.op, .string t.name, .string t.arg, .int .i64 t.n, .bool t.has, .int .u8 t.ann.op, .string t.ann.name, .int .i64 t.ann.n, akv, kv] := h1
 replace h1 := h1.at (nM_of hlow hb_b1)
 replace hE := ew1.bl hE hB
 replace ht := Rep.ext ht ew1
 replace ha := Rep.ext ha ew1
 replace hk := hk.ext ew1
 replace hs := Rep.ext hs ew1
 replace has := Rep.ext has ew1
 replace hks := hks.ext ew1
 replace hlow := hlow.ext ew1
 replace hB := ew1.z hB
 refine lC (o_box rfl rfl rfl ?_)
 intro b2 w2 hb_b2 ew2 h2
 replace h2 : Box _ b2 84 [.int .u8 s.op, .string s.name, .string s.arg, .int .i64 s.n, .bool s.has, .int .u8 s.ann.op, .string s.ann.name, .int .i64 s.ann.n, akvs, kvs] := h2
 replace h2 := h2.at (nM_of hlow hb_b2)
 replace hE := ew2.bl hE hB
 replace ht := Rep.ext ht ew2
 replace ha := Rep.ext ha ew2
 replace hk := hk.ext ew2
 replace hs := Rep.ext hs ew2
 replace has := Rep.ext has ew2
 replace hks := hks.ext ew2
 replace h1 := h1.ext ew2
 replace hlow := hlow.ext ew2
 replace hB := ew2.z hB
 refine l_p 1 tK rfl (q1 (c_seq (q0 (l_p 1 tK rfl ?_))))
 refine lC (o_ld tK (h1.cell 0 _ rfl) rfl rfl rfl rfl rfl ?_)
 refine l_p 1 tK rfl ?_
 refine lC (o_ld tK (h2.cell 0 _ rfl) rfl rfl rfl rfl rfl ?_)
 refine l_p 2 tK rfl ?_
 refine l_splitN 11 _ rfl (fun c1 => ?_) (fun c1 => ?_)
 ·refine l_p 44 tK rfl (q1 (c_ifT rfl (q0 (l_p 1 tK rfl (q1 (c_ret (x_seqR (x_ret1 rfl rfl ?_))))))))
  exact ⟨by rw [cl_false (fun e => by subst e; clear ih; first | simp_all | (rw [cl_true rfl] at *; simp_all))], hE⟩
 refine l_p 1 tK rfl ?_
 refine lC (o_ld tK (h1.cell 1 _ rfl) rfl rfl rfl rfl rfl ?_)
 refine l_p 1 tK rfl ?_
 refine lC (o_ld tK (h2.cell 1 _ rfl) rfl rfl rfl rfl rfl ?_)
 refine l_p 3 tK rfl ?_
 refine l_splitN 18 _ rfl (fun c2 => ?_) (fun c2 => ?_)
 ·refine l_p 37 tK rfl (q1 (c_ifT rfl (q0 (l_p 1 tK rfl (q1 (c_ret (x_seqR (x_ret1 rfl rfl ?_))))))))
  exact ⟨by rw [cl_false (fun e => by subst e; clear ih; first | simp_all | (rw [cl_true rfl] at *; simp_all))], hE⟩
 refine l_p 1 tK rfl ?_
 refine lC (o_ld tK (h1.cell 2 _ rfl) rfl rfl rfl rfl rfl ?_)
 refine l_p 1 tK rfl ?_
 refine lC (o_ld tK (h2.cell 2 _ rfl) rfl rfl rfl rfl rfl ?_)
 refine l_p 3 tK rfl ?_
 refine l_splitN 25 _ rfl (fun c3 => ?_) (fun c3 => ?_)
 ·refine l_p 30 tK rfl (q1 (c_ifT rfl (q0 (l_p 1 tK rfl (q1 (c_ret (x_seqR (x_ret1 rfl rfl ?_))))))))
  exact ⟨by rw [cl_false (fun e => by subst e; clear ih; first | simp_all | (rw [cl_true rfl] at *; simp_all))], hE⟩
 refine l_p 1 tK rfl ?_
 refine lC (o_ld tK (h1.cell 3 _ rfl) rfl rfl rfl rfl rfl ?_)
 refine l_p 1 tK rfl ?_
 refine lC (o_ld tK (h2.cell 3 _ rfl) rfl rfl rfl rfl rfl ?_)
 refine l_p 3 tK rfl ?_
 refine l_splitN 32 _ rfl (fun c4 => ?_) (fun c4 => ?_)
 ·refine l_p 23 tK rfl (q1 (c_ifT rfl (q0 (l_p 1 tK rfl (q1 (c_ret (x_seqR (x_ret1 rfl rfl ?_))))))))
  exact ⟨by rw [cl_false (fun e => by subst e; clear ih; first | simp_all | (rw [cl_true rfl] at *; simp_all))], hE⟩
 refine l_p 1 tK rfl ?_
 refine lC (o_ld tK (h1.cell 4 _ rfl) rfl rfl rfl rfl rfl ?_)
 refine l_p 1 tK rfl ?_
 refine lC (o_ld tK (h2.cell 4 _ rfl) rfl rfl rfl rfl rfl ?_)
 refine lC (o_bne tK rfl rfl rfl rfl rfl rfl ?_)
 refine l_p 2 tK rfl ?_
 refine l_split 39 _ rfl (fun c5 => ?_) (fun c5 => ?_)
 ·refine l_p 16 tK rfl (q1 (c_ifT rfl (q0 (l_p 1 tK rfl (q1 (c_ret (x_seqR (x_ret1 rfl rfl ?_))))))))
  exact ⟨by rw [cl_false (fun e => by subst e; clear ih; first | simp_all | (rw [cl_true rfl] at *; simp_all))], hE⟩
 refine l_p 1 tK rfl ?_
 refine lC (o_lds tK (fun j v hv => (h1).mid 5 (sub := [.int .u8 t.ann.op, .string t.ann.name, .int .i64 t.ann.n, akv]) rfl j v hv) rfl rfl rfl rfl rfl rfl ?_)
 refine l_p 1 tK rfl ?_
 refine lC (o_lds tK (fun j v hv => (h2).mid 5 (sub := [.int .u8 s.ann.op, .string s.ann.name, .int .i64 s.ann.n, akvs]) rfl j v hv) rfl rfl rfl rfl rfl rfl ?_)
 refine lC (o_call fo38 rfl rfl rfl (alike_spec _ _ M _ _ _ ha has hlow) ?_)
 rintro _ w3 ⟨rfl, ew3⟩
 replace hE := ew3.bl hE hB
 replace ht := Rep.ext ht ew3
 replace ha := Rep.ext ha ew3
 replace hk := hk.ext ew3
 replace hs := Rep.ext hs ew3
 replace has := Rep.ext has ew3
 replace hks := hks.ext ew3
 replace h1 := h1.ext ew3
 replace h2 := h2.ext ew3
 replace hlow := hlow.ext ew3
 replace hB := ew3.z hB
 refine l_p 3 tK rfl ?_
 refine l_splitB 47 _ rfl (fun c6 => ?_) (fun c6 => ?_)
 ·refine l_p 8 tK rfl (q1 (c_ifT rfl (q0 (l_p 1 tK rfl (q1 (c_ret (x_seqR (x_ret1 rfl rfl ?_))))))))
  exact ⟨by rw [cl_false (fun e => by subst e; clear ih; first | simp_all | (rw [cl_true rfl] at *; simp_all))], hE⟩
 refine l_p 1 tK rfl ?_
 refine lC (o_ld tK (h1.cell 9 _ rfl) rfl rfl rfl rfl rfl ?_)
 refine lC (o_len tK hk rfl rfl rfl rfl rfl ?_)
 refine l_p 1 tK rfl ?_
 refine lC (o_ld tK (h2.cell 9 _ rfl) rfl rfl rfl rfl rfl ?_)
 refine lC (o_len tK hks rfl rfl rfl rfl rfl ?_)
 refine l_p 2 tK rfl (q1 ?_)
 refine c_ifN _ rfl (fun c7 => ?_) (fun c7 => ?_)
 ·refine q0 (l_p 1 tK rfl (q1 (c_ret (x_seqR (x_ret1 rfl rfl ?_)))))
  exact ⟨by rw [cl_false (fun e => by subst e; clear ih; first | simp_all | (rw [cl_true rfl] at *; simp_all))], hE⟩
 refine c_skip (x_seq (c_seq (q0 (l_p 1 tK rfl (q1 (c_blk ?_))))))
 have hop : t.op = s.op := by assumption
 have hnm : t.name = s.name := by assumption
 have hag : t.arg = s.arg := by assumption
 have hnn : t.n = s.n := by assumption
 have hhs : t.has = s.has := by clear ih; simp_all
 have han : t.ann = s.ann := cl_of (by clear ih; simp_all)
 have hll : t.kids.length = s.kids.length := by omega
 refine c_loop (X := Nat) (fun i => [(2, .pointer (some ⟨b1, 0, none⟩)), (3, .pointer (some ⟨b2, 0, none⟩)), (5, .int .i64 (i : Nat))]) (fun i w' => i ≤ t.kids.length ∧ t.kids.take i = s.kids.take i ∧ At M w' b1 0 [.int .u8 t.op, .string t.name, .string t.arg, .int .i64 t.n, .bool t.has, .int .u8 t.ann.op, .string t.ann.name, .int .i64 t.ann.n, akv, kv] ∧ At M w' b2 0 [.int .u8 s.op, .string s.name, .string s.arg, .int .i64 s.n, .bool s.has, .int .u8 s.ann.op, .string s.ann.name, .int .i64 s.ann.n, akvs, kvs] ∧ Sl M w' kv t.kids ∧ Sl M w' kvs s.kids ∧ Low M w' ∧ Below w.heap.size w w' ∧ w.heap.size ≤ w'.heap.size) (fun i => t.kids.length - i) (0) (s3 rfl rfl rfl) ?_ ?_
 ·exact ⟨Nat.zero_le _, rfl, h1, h2, hk, hks, hlow, hE, hB⟩
 clear h1 h2 ht hs ha has hk hks hlow hE hB
 rintro i w4 ⟨hi, htake, h1, h2, hk, hks, hlow, hE, hB⟩
 refine c_seq (q0 (l_p 2 tK rfl ?_))
 refine lC (o_ld tK (h1.cell 9 _ rfl) rfl rfl rfl rfl rfl ?_)
 refine lC (o_len tK hk rfl rfl rfl rfl rfl ?_)
 refine l_p 1 tK rfl (q1 ?_)
 refine c_ifP _ rfl (fun c8 => ?_) (fun c8 => ?_)
 ·refine c_skip (x_seq (c_seq (c_blk (c_seq ?_))))
  refine a_beg Ext rfl ?_
  intro w5 ew5
  replace hE := ew5.bl hE hB
  replace h1 := h1.ext ew5
  replace h2 := h2.ext ew5
  replace hk := hk.ext ew5
  replace hks := hks.ext ew5
  replace hlow := hlow.ext ew5
  replace hB := ew5.z hB
  have hS : Ext w5 w5 := ext_refl _
  have D_h1 := h1
  have D_h2 := h2
  have D_hk := hk
  have D_hks := hks
  refine a_p 0 tK rfl rfl rfl rfl (by kernel_rfl) (fun _ _ _ h => h) hS ?_
  refine a_ld 1 tK (fun _ hs => (D_h1.ext hs).cell 9 _ rfl) rfl rfl rfl rfl rfl rfl (by kernel_rfl) (fun _ _ _ h => h) hS ?_
  refine a_p 2 tK rfl rfl rfl rfl (by kernel_rfl) (fun _ _ _ h => h) hS ?_
  have hik : i < t.kids.length := by omega
  have hiks : i < s.kids.length := by omega
  refine a_ixS 3 tK D_hk (List.getElem?_eq_getElem hik) rfl rfl rfl rfl rfl rfl rfl rfl rfl rfl (by kernel_rfl) (fun _ _ _ _ h => h) hS ?_
  intro ebx eox eux hyx hatx
  obtain ⟨akvx, kvx, rfl, opx, nmx, agx, n64x, hax, hkx⟩ := tm_open hyx
  replace hatx : At M w5 ebx eox [.int .u8 t.kids[i].op, .string t.kids[i].name, .string t.kids[i].arg, .int .i64 t.kids[i].n, .bool t.kids[i].has, .int .u8 t.kids[i].ann.op, .string t.kids[i].ann.name, .int .i64 t.kids[i].ann.n, akvx, kvx] := hatx
  refine a_lds 4 tK (fun _ hs j v hv => (hatx.ext hs).cell j v hv) rfl rfl rfl rfl rfl rfl rfl (by kernel_rfl) (fun _ _ _ h => h) hS ?_
  refine a_p 5 tK rfl rfl rfl rfl (by kernel_rfl) (fun _ _ _ h => h) hS ?_
  refine a_ld 6 tK (fun _ hs => (D_h2.ext hs).cell 9 _ rfl) rfl rfl rfl rfl rfl rfl (by kernel_rfl) (fun _ _ _ h => h) hS ?_
  refine a_p 7 tK rfl rfl rfl rfl (by kernel_rfl) (fun _ _ _ h => h) hS ?_
  refine a_ixS 8 tK D_hks (List.getElem?_eq_getElem hiks) rfl rfl rfl rfl rfl rfl rfl rfl rfl rfl (by kernel_rfl) (fun _ _ _ _ h => h) hS ?_
  intro eby eoy euy hyy haty
  obtain ⟨akvy, kvy, rfl, opy, nmy, agy, n64y, hay, hky⟩ := tm_open hyy
  replace haty : At M w5 eby eoy [.int .u8 s.kids[i].op, .string s.kids[i].name, .string s.kids[i].arg, .int .i64 s.kids[i].n, .bool s.kids[i].has, .int .u8 s.kids[i].ann.op, .string s.kids[i].ann.name, .int .i64 s.kids[i].ann.n, akvy, kvy] := haty
  refine a_lds 9 tK (fun _ hs j v hv => (haty.ext hs).cell j v hv) rfl rfl rfl rfl rfl rfl rfl (by kernel_rfl) (fun _ _ _ h => h) hS ?_
  refine a_bar 10 rfl (by kernel_rfl) (by kernel_rfl) (o_call fo37 rfl rfl rfl (ih _ (List.getElem_mem hik) _ _ _ _ _ hyx hyy hlow) ?_)
  rintro _ w6 ⟨rfl, ew6⟩
  replace hS := hS.then ew6
  replace hE := ew6.bl hE hB
  replace h1 := h1.ext ew6
  replace h2 := h2.ext ew6
  replace hk := hk.ext ew6
  replace hks := hks.ext ew6
  replace hyx := Rep.ext hyx ew6
  replace hax := Rep.ext hax ew6
  replace hkx := hkx.ext ew6
  replace hatx := hatx.ext ew6
  replace hyy := Rep.ext hyy ew6
  replace hay := Rep.ext hay ew6
  replace hky := hky.ext ew6
  replace haty := haty.ext ew6
  replace hlow := hlow.ext ew6
  replace hB := ew6.z hB
  refine a_p 11 tK rfl rfl rfl rfl (by kernel_rfl) (fun _ _ _ h => h) hS ?_
  refine a_end (by kernel_rfl) ?_
  refine x_seq ?_
  refine c_ifB _ rfl (fun c9 => ?_) (fun c9 => ?_)
  ·refine q0 (l_p 1 tK rfl (q1 (c_ret (x_blkR (x_seqR (x_seqR (x_blkR (x_seqR (x_ret1 rfl rfl ?_)))))))))
   exact ⟨by rw [cl_false (fun e => by subst e; exact absurd rfl (cl_not c9))], hE⟩
  refine c_skip (x_blk (x_seq (c_reg (l_p 1 tK rfl ?_))))
  refine lC (o_ai rfl rfl rfl (by omega) rfl rfl ?_)
  refine l_p 1 tK rfl (l_nil ?_)
  exact x_round (i + 1) (s3 rfl rfl rfl) ⟨by omega, takeM_same hik hiks htake (cl_of (by simpa using c9)), h1, h2, hk, hks, hlow, hE, hB⟩ (by omega)
 refine c_exit (x_seqE (x_seqE (x_blkE (x_seq (q0 (l_p 1 tK rfl (q1 (c_ret (x_ret1 rfl rfl ?_)))))))))
 exact ⟨by rw [cl_true (Tm.ext' hop hnm hag hnn hhs han (takeM_full (by omega) hll htake))], hE⟩
end Go.Proofs.Ytohfnpmehgpphaa
namespace Rw
def dT (k : Bool) (l : List UInt8) : Option (ByteArray × Nat) := bif k then tkT l else some (⟨#[]⟩, 0)
def dN (k : Bool) (l : List UInt8) : Option (Nat × Nat) := bif k then tkN l else some (0, 0)
def dH (k d : Bool) (l : List UInt8) : Option (Bool × Nat) := bif k then (match l with
  | [] => none
  | c :: _ => if 1 < c.toNat then none else some (decide (c = 1), 1)) else some (d, 0)
def dkids {α : Type} (g : List UInt8 → Option (α × Nat)) : Nat → List UInt8 → Option (List α × Nat)
  | 0, _ => some ([], 0)
  | k + 1, l => match g l with
    | none => none
    | some (x, q) => match dkids g k (l.drop q) with
      | none => none
      | some (xs, q') => some (x :: xs, q + q')
def dhead (c : Int) (l : List UInt8) : Option (Int × ByteArray × Nat) :=
  match dN (decide (c = 7 ∨ c = 10)) l with
  | none => none
  | some (n, q) => match dT (decide (c = 11)) (l.drop q) with
    | none => none
    | some (s, q') => some ((n : Int), s, q + q')
/-- A type off bytes, and how many they are. -/
def dkE : Nat → List UInt8 → Option (Ty × Nat)
  | 0, _ => none
  | _ + 1, [] => none
  | f + 1, c :: r => match kidsOf c.toNat with
    | none => none
    | some s => match dhead c.toNat r with
      | none => none
      | some (n, nm, q) => match dkids (dkE f) s.size (r.drop q) with
        | none => none
        | some (ks, q') => some (.mk c.toNat nm n ks, 1 + (q + q'))
/-- What the document takes, and what the program takes. -/
def Rl {α : Type} (good : α → Prop) (d : Option (α × Nat)) (l : List UInt8) (e : α × List UInt8 × Bool) : Prop :=
  (d = none → e.2.2 = true ∨ ¬ good e.1) ∧ ∀ x q, d = some (x, q) → q ≤ l.length ∧ e = (x, l.drop q, false)
def Gd {α : Type} : α → Prop := fun _ => True
theorem rl_T (k : Bool) (l : List UInt8) : Rl Gd (dT k l) l (eT k l false) := by
  cases k with
  | false => exact ⟨fun h => (by cases h), fun x q h => (by cases h; exact ⟨Nat.zero_le _, rfl⟩)⟩
  | true =>
    have h := textE_tk l
    refine ⟨fun e => ?_, fun x q e => ?_⟩
    · rw [show tkT l = none from e] at h
      exact .inl (by rw [show eT true l false = textE l false from rfl, h])
    · rw [show tkT l = some (x, q) from e] at h
      exact ⟨tkT_le e, h⟩
theorem rl_N (k : Bool) (l : List UInt8) : Rl Gd (dN k l) l (eN k l false) := by
  cases k with
  | false => exact ⟨fun h => (by cases h), fun x q h => (by cases h; exact ⟨Nat.zero_le _, rfl⟩)⟩
  | true =>
    have h := numE_tk l
    refine ⟨fun e => ?_, fun x q e => ?_⟩
    · rw [show tkN l = none from e] at h
      exact .inl (by rw [show eN true l false = numE l false from rfl, h])
    · rw [show tkN l = some (x, q) from e] at h
      exact ⟨(tkN_le e).1, h⟩
theorem rl_H (a : Int) (l : List UInt8) : Rl Gd (dH (decide (a = 1)) (decide (a = 2)) l) l (eH a l false) := by
  unfold eH
  cases h : decide (a = 1) with
  | false => exact ⟨fun h => (by cases h), fun x q h => (by cases h; exact ⟨Nat.zero_le _, rfl⟩)⟩
  | true =>
    cases l with
    | nil => exact ⟨fun _ => .inl rfl, fun x q h => by cases h⟩
    | cons c r =>
      by_cases hc : 1 < c.toNat
      · refine ⟨fun _ => .inl ?_, fun x q h => ?_⟩
        · simp [hc]
        · simp [dH, hc] at h
      · refine ⟨fun h => ?_, fun x q h => ?_⟩
        · simp [dH, hc] at h
        · simp [dH, hc] at h
          obtain ⟨rfl, rfl⟩ := h
          refine ⟨by simp, ?_⟩
          simp [hc]
theorem rl_kids {α : Type} {good : α → Prop} {d : List UInt8 → Option (α × Nat)} {e : List UInt8 → Bool → α × List UInt8 × Bool} {n : Nat} (h : ∀ l, l.length ≤ n → Rl good (d l) l (e l false)) : ∀ (k : Nat) (l : List UInt8), l.length ≤ n → Rl (fun xs => ∀ x ∈ xs, good x) (dkids d k l) l (kidsE e k l false)
  | 0, l, _ => ⟨fun h => (by cases h), fun x q h => (by cases h; exact ⟨Nat.zero_le _, rfl⟩)⟩
  | k + 1, l, hl => by
    have h1 := h l hl
    rw [kidsE_step rfl, dkids]
    cases hd : d l with
    | none =>
      refine ⟨fun _ => ?_, fun x q h => by cases h⟩
      rcases h1.1 hd with hb | hg
      · left; rw [hb, kidsE_bad]
      · right; exact fun ha => hg (ha _ List.mem_cons_self)
    | some z =>
      obtain ⟨x, q⟩ := z
      obtain ⟨hq, he⟩ := h1.2 x q hd
      have h2 := rl_kids h k (l.drop q) (by rw [List.length_drop]; omega)
      simp only
      rw [he]
      simp only
      cases hk : dkids d k (l.drop q) with
      | none =>
        refine ⟨fun _ => ?_, fun x q h => by cases h⟩
        rcases h2.1 hk with hb | hg
        · exact .inl hb
        · exact .inr fun ha => hg fun y hy => ha y (List.mem_cons_of_mem _ hy)
      | some y =>
        obtain ⟨xs, q'⟩ := y
        obtain ⟨hq', he'⟩ := h2.2 xs q' hk
        refine ⟨fun h => (by cases h), fun ys p h => ?_⟩
        cases h
        rw [List.length_drop] at hq'
        exact ⟨by omega, by rw [he']; simp [List.drop_drop]⟩
/-- All its ops are ops. -/
def okT (t : Ty) : Prop := ∀ x ∈ partsL t, kidsOf x.op ≠ none
theorem kcnt_size {c : UInt8} {s : ByteArray} (h : kidsOf c.toNat = some s) : s.size = kcnt c := by
  unfold kidsOf at h
  unfold kcnt
  repeat' split at h
  all_goals (first | cases h | skip)
  · rw [if_neg (by omega), if_neg (by omega)]; rfl
  · rw [if_pos (by omega)]; rfl
  · rw [if_neg (by omega), if_pos (by omega)]; rfl
  · rw [if_pos (by omega)]; rfl
theorem rl_head (c : UInt8) (l : List UInt8) : (dhead c.toNat l = none → (kheadE c l false).2.2.2 = true) ∧ ∀ n s q, dhead c.toNat l = some (n, s, q) → q ≤ l.length ∧ kheadE c l false = (n, s, l.drop q, false) := by
  unfold dhead kheadE
  by_cases h1 : c.toNat = 7 ∨ c.toNat = 10
  · rw [decide_eq_true (show ((c.toNat : Int) = 7 ∨ (c.toNat : Int) = 10) by omega), decide_eq_false (show ¬ (c.toNat : Int) = 11 by omega), if_pos h1]
    have h := rl_N true l
    cases e : dN true l with
    | none => exact ⟨fun _ => (h.1 e).elim id (fun g => (g trivial).elim), fun _ _ _ h => by cases h⟩
    | some z =>
      obtain ⟨n, q⟩ := z
      obtain ⟨h2, h3⟩ := h.2 n q e
      refine ⟨fun h => (by cases h), fun m s p hh => ?_⟩
      simp only [dT, cond_false, Option.some.injEq, Prod.mk.injEq] at hh
      obtain ⟨rfl, rfl, rfl⟩ := hh
      exact ⟨by omega, by rw [show numE l false = (n, l.drop q, false) from h3]; rfl⟩
  · rw [decide_eq_false (show ¬ ((c.toNat : Int) = 7 ∨ (c.toNat : Int) = 10) by omega), if_neg h1]
    simp only [dN, cond_false, List.drop_zero]
    by_cases h2 : c.toNat = 11
    · rw [decide_eq_true (show (c.toNat : Int) = 11 by omega), if_pos h2]
      have h := rl_T true l
      cases e : dT true l with
      | none => exact ⟨fun _ => (h.1 e).elim id (fun g => (g trivial).elim), fun _ _ _ h => by cases h⟩
      | some z =>
        obtain ⟨s, q⟩ := z
        obtain ⟨h4, h3⟩ := h.2 s q e
        refine ⟨fun h => (by cases h), fun m s' p hh => ?_⟩
        simp only [Option.some.injEq, Prod.mk.injEq] at hh
        obtain ⟨rfl, rfl, rfl⟩ := hh
        exact ⟨by omega, by rw [show textE l false = (s, l.drop q, false) from h3]; simp⟩
    · rw [decide_eq_false (show ¬ (c.toNat : Int) = 11 by omega), if_neg h2]
      refine ⟨fun h => (by cases h), fun m s' p hh => ?_⟩
      simp only [dT, cond_false, Option.some.injEq, Prod.mk.injEq] at hh
      obtain ⟨rfl, rfl, rfl⟩ := hh
      exact ⟨by omega, rfl⟩
theorem rl_kind : ∀ (f : Nat) (l : List UInt8), l.length < f → Rl okT (dkE f l) l (kindE f l false)
  | 0, _, h => absurd h (Nat.not_lt_zero _)
  | f + 1, [], _ => by
    refine ⟨fun _ => .inl ?_, fun x q h => by cases h⟩
    rw [kindE]
    simp only
    rw [show (false || ([] : List UInt8).isEmpty) = true from rfl, kheadE_bad, kidsE_bad]
  | f + 1, c :: r, hf => by
    have hl : (c :: r).length = r.length + 1 := rfl
    have hb : (false || (c :: r).isEmpty) = false := rfl
    rw [kindE, dkE]
    simp only [List.headD_cons, List.tail_cons]
    rw [hb]
    have hopen : ∀ ks nm n, partsL (Ty.mk c.toNat nm n ks) = Ty.mk c.toNat nm n ks :: ks.flatMap partsL := fun ks nm n => partsL_eq _
    cases hk : kidsOf c.toNat with
    | none =>
      refine ⟨fun _ => .inr fun hg => ?_, fun x q h => by cases h⟩
      exact hg (Ty.mk c.toNat _ _ _) (by rw [hopen]; exact List.mem_cons_self) hk
    | some s =>
      have hs := kcnt_size hk
      have h1 := rl_head c r
      simp only
      cases hd : dhead c.toNat r with
      | none =>
        refine ⟨fun _ => .inl ?_, fun x q h => by cases h⟩
        rw [h1.1 hd, kidsE_bad]
      | some z =>
        obtain ⟨n, nm, q⟩ := z
        obtain ⟨hq, he⟩ := h1.2 n nm q hd
        rw [he]
        simp only
        have h2 := rl_kids (n := r.length) (fun l hl => rl_kind f l (by omega)) s.size (r.drop q) (by rw [List.length_drop]; omega)
        rw [hs] at h2
        rw [hs]
        cases hx : dkids (dkE f) (kcnt c) (r.drop q) with
        | none =>
          refine ⟨fun _ => ?_, fun x q h => by cases h⟩
          rcases h2.1 hx with hb | hg
          · exact .inl hb
          · refine .inr fun ha => hg fun x hx y hy => ha y ?_
            rw [hopen]; exact List.mem_cons_of_mem _ (List.mem_flatMap.2 ⟨x, hx, hy⟩)
        | some y =>
          obtain ⟨ks, q'⟩ := y
          obtain ⟨hq', he'⟩ := h2.2 ks q' hx
          refine ⟨fun h => (by cases h), fun t p h => ?_⟩
          cases h
          rw [List.length_drop] at hq'
          refine ⟨by omega, ?_⟩
          rw [he']
          simp only [List.drop_drop, Prod.mk.injEq, true_and, and_true]
          rw [show 1 + (q + q') = (q + q') + 1 by omega, List.drop_succ_cons]
/-! ## Expressions -/
def dA (k : Bool) (l : List UInt8) : Option (Ty × Nat) := bif k then dkE (l.length + 1) l else some (.mk 0 ⟨#[]⟩ 0 [], 0)
def dC (k : Bool) (n : Nat) (l : List UInt8) : Option (Nat × Nat) := bif k then tkN l else some (n, 0)
def d1 (p : ByteArray) (l : List UInt8) : Option (ByteArray × Nat) := dT (hasB p 110 || hasB p 111) l
def d2 (p : ByteArray) (l : List UInt8) : Option ((ByteArray × ByteArray) × Nat) := match d1 p l with
  | none => none
  | some (x, q) => match dT (hasB p 97) (l.drop q) with
    | none => none
    | some (y, q') => some ((x, y), q + q')
def d3 (p : ByteArray) (l : List UInt8) : Option ((ByteArray × ByteArray × Nat) × Nat) := match d2 p l with
  | none => none
  | some (x, q) => match dN (hasB p 105 || hasB p 98) (l.drop q) with
    | none => none
    | some (y, q') => some ((x.1, x.2, y), q + q')
def d4 (p : ByteArray) (l : List UInt8) : Option ((ByteArray × ByteArray × Nat × Bool) × Nat) := match d3 p l with
  | none => none
  | some (x, q) => match dH (hasB p 116) (hasB p 84) (l.drop q) with
    | none => none
    | some (y, q') => some ((x.1, x.2.1, x.2.2, y), q + q')
def d5 (p : ByteArray) (l : List UInt8) : Option ((ByteArray × ByteArray × Nat × Bool × Ty) × Nat) := match d4 p l with
  | none => none
  | some (x, q) => match dA x.2.2.2 (l.drop q) with
    | none => none
    | some (y, q') => some ((x.1, x.2.1, x.2.2.1, x.2.2.2, y), q + q')
def d6 (op : Int) (p : ByteArray) (l : List UInt8) : Option ((ByteArray × ByteArray × Nat × Bool × Ty × Nat) × Nat) := match d5 p l with
  | none => none
  | some (x, q) => match dC (decide (op = 48)) (countE p) (l.drop q) with
    | none => none
    | some (y, q') => some ((x.1, x.2.1, x.2.2.1, x.2.2.2.1, x.2.2.2.2, y), q + q')
def dstep (g : List UInt8 → Option (Tm × Nat)) (c : UInt8) (r : List UInt8) : Option (Tm × Nat) := if partsS c.toNat = ⟨#[]⟩ then none else match d6 c.toNat (partsS c.toNat) r with
  | none => none
  | some (x, q) => match dkids g x.2.2.2.2.2 (r.drop q) with
    | none => none
    | some (ks, q') => some (.mk c.toNat x.1 x.2.1 x.2.2.1 x.2.2.2.1 x.2.2.2.2.1 ks, 1 + (q + q'))
/-- An expression off bytes, and how many they are. -/
def dtE : Nat → List UInt8 → Option (Tm × Nat)
  | 0, _ => none
  | _ + 1, [] => none
  | f + 1, c :: r => dstep (dtE f) c r
theorem parts_prt {op : Int} (h : partsS op ≠ ⟨#[]⟩) : (prt op).1 = (hasB (partsS op) 110 || hasB (partsS op) 111) ∧ (prt op).2.1 = hasB (partsS op) 97 ∧ (prt op).2.2.1 = (hasB (partsS op) 105 || hasB (partsS op) 98) ∧
    decide ((prt op).2.2.2 = 1) = hasB (partsS op) 116 ∧ decide ((prt op).2.2.2 = 2) = hasB (partsS op) 84 ∧ decide (cnt op < 0) = decide (op = 48) ∧ (op ≠ 48 → (cnt op).toNat = countE (partsS op)) := by
  have h' : ¬ (op < 32 ∨ 52 ≤ op) := fun e => h (by unfold partsS; rw [if_pos e])
  rcases op_cases h' with e | e | e | e | e | e | e | e | e | e | e | e | e | e | e | e | e | e | e | e <;> subst e <;> exact ⟨by decide, by decide, by decide, by decide, by decide, by decide, by decide⟩
theorem dkids_need {α : Type} {g : List UInt8 → Option (α × Nat)} (hg : ∀ l x q, g l = some (x, q) → 1 ≤ q ∧ q ≤ l.length) : ∀ (k : Nat) (l : List UInt8) (xs : List α) (q : Nat), dkids g k l = some (xs, q) → k ≤ q ∧ q ≤ l.length
  | 0, l, xs, q, h => by cases h; exact ⟨Nat.le_refl _, Nat.zero_le _⟩
  | k + 1, l, xs, q, h => by
    rw [dkids] at h
    cases e : g l with
    | none => rw [e] at h; cases h
    | some z =>
      obtain ⟨x, p⟩ := z
      have h1 := hg l x p e
      rw [e] at h
      simp only at h
      cases e2 : dkids g k (l.drop p) with
      | none => rw [e2] at h; cases h
      | some y =>
        obtain ⟨ys, p'⟩ := y
        have h2 := dkids_need hg k _ ys p' e2
        rw [e2] at h
        cases h
        rw [List.length_drop] at h2
        omega
/-- Its ops are ops, those of its annotations, too. -/
def okM (t : Tm) : Prop := ∀ x ∈ nodesL t, partsS x.op ≠ ⟨#[]⟩ ∧ (x.has = true → okT x.ann)
section
variable {c : UInt8} {r : List UInt8}
theorem rl_1 (hp : partsS c.toNat ≠ ⟨#[]⟩) : (d1 (partsS c.toNat) r = none → (e1 (c :: r) false).2.2 = true) ∧ ∀ x q, d1 (partsS c.toNat) r = some (x, q) → q ≤ r.length ∧ e1 (c :: r) false = (x, r.drop q, false) := by
  have h := rl_T (hasB (partsS c.toNat) 110 || hasB (partsS c.toNat) 111) r
  have e : e1 (c :: r) false = eT (hasB (partsS c.toNat) 110 || hasB (partsS c.toNat) 111) r false := by
    rw [← (parts_prt hp).1]; rfl
  rw [e]
  exact ⟨fun h1 => (h.1 h1).elim id (fun g => (g trivial).elim), fun x q h1 => h.2 x q h1⟩
theorem rl_2 (hp : partsS c.toNat ≠ ⟨#[]⟩) : (d2 (partsS c.toNat) r = none → (e2 (c :: r) false).2.2 = true) ∧ ∀ x q, d2 (partsS c.toNat) r = some (x, q) → q ≤ r.length ∧ (e1 (c :: r) false).1 = x.1 ∧ e2 (c :: r) false = (x.2, r.drop q, false) := by
  have h0 := rl_1 (r := r) hp
  have e : e2 (c :: r) false = eT (hasB (partsS c.toNat) 97) (e1 (c :: r) false).2.1 (e1 (c :: r) false).2.2 := by
    rw [← (parts_prt hp).2.1]; rfl
  rw [e]
  unfold d2
  cases hd : d1 (partsS c.toNat) r with
  | none =>
    refine ⟨fun _ => ?_, fun x q h => by cases h⟩
    have hb := h0.1 hd
    cases hx : (eT (hasB (partsS c.toNat) 97) (e1 (c :: r) false).2.1 (e1 (c :: r) false).2.2).2.2 with
    | true => rfl
    | false => have := eT_ok hx; rw [this] at hb; cases hb
  | some z =>
    obtain ⟨x, q⟩ := z
    obtain ⟨hq, he⟩ := h0.2 x q hd
    rw [he]
    simp only
    have h := rl_T (hasB (partsS c.toNat) 97) (r.drop q)
    cases hx : dT (hasB (partsS c.toNat) 97) (r.drop q) with
    | none => exact ⟨fun _ => (h.1 hx).elim id (fun g => (g trivial).elim), fun x q h => by cases h⟩
    | some y =>
      obtain ⟨y, q'⟩ := y
      obtain ⟨hq', he'⟩ := h.2 y q' hx
      refine ⟨fun h => (by cases h), fun z p h => ?_⟩
      cases h
      rw [List.length_drop] at hq'
      exact ⟨by omega, rfl, by rw [he', List.drop_drop]⟩
theorem rl_3 (hp : partsS c.toNat ≠ ⟨#[]⟩) : (d3 (partsS c.toNat) r = none → (e3 (c :: r) false).2.2 = true) ∧ ∀ x q, d3 (partsS c.toNat) r = some (x, q) → q ≤ r.length ∧ ((e1 (c :: r) false).1 = x.1 ∧ (e2 (c :: r) false).1 = x.2.1) ∧ e3 (c :: r) false = (x.2.2, r.drop q, false) := by
  have h0 := rl_2 (r := r) hp
  have e : e3 (c :: r) false = eN (hasB (partsS c.toNat) 105 || hasB (partsS c.toNat) 98) (e2 (c :: r) false).2.1 (e2 (c :: r) false).2.2 := by
    rw [← (parts_prt hp).2.2.1]; rfl
  rw [e]
  unfold d3
  cases hd : d2 (partsS c.toNat) r with
  | none =>
    refine ⟨fun _ => ?_, fun x q h => by cases h⟩
    have hb := h0.1 hd
    cases hx : (eN (hasB (partsS c.toNat) 105 || hasB (partsS c.toNat) 98) (e2 (c :: r) false).2.1 (e2 (c :: r) false).2.2).2.2 with
    | true => rfl
    | false => have := eN_ok hx; rw [this] at hb; cases hb
  | some z =>
    obtain ⟨x, q⟩ := z
    obtain ⟨hq, h9, he⟩ := h0.2 x q hd
    rw [he]
    simp only
    have h := rl_N (hasB (partsS c.toNat) 105 || hasB (partsS c.toNat) 98) (r.drop q)
    cases hx : dN (hasB (partsS c.toNat) 105 || hasB (partsS c.toNat) 98) (r.drop q) with
    | none => exact ⟨fun _ => (h.1 hx).elim id (fun g => (g trivial).elim), fun x q h => by cases h⟩
    | some y =>
      obtain ⟨y, q'⟩ := y
      obtain ⟨hq', he'⟩ := h.2 y q' hx
      refine ⟨fun h => (by cases h), fun z p h => ?_⟩
      cases h
      rw [List.length_drop] at hq'
      exact ⟨by omega, ⟨h9, rfl⟩, by rw [he', List.drop_drop]⟩
theorem rl_4 (hp : partsS c.toNat ≠ ⟨#[]⟩) : (d4 (partsS c.toNat) r = none → (e4 (c :: r) false).2.2 = true) ∧ ∀ x q, d4 (partsS c.toNat) r = some (x, q) → q ≤ r.length ∧ ((e1 (c :: r) false).1 = x.1 ∧ (e2 (c :: r) false).1 = x.2.1 ∧ (e3 (c :: r) false).1 = x.2.2.1) ∧ e4 (c :: r) false = (x.2.2.2, r.drop q, false) := by
  have h0 := rl_3 (r := r) hp
  have e : e4 (c :: r) false = eH (prt c.toNat).2.2.2 (e3 (c :: r) false).2.1 (e3 (c :: r) false).2.2 := rfl
  rw [e]
  unfold d4
  rw [← (parts_prt hp).2.2.2.1, ← (parts_prt hp).2.2.2.2.1]
  cases hd : d3 (partsS c.toNat) r with
  | none =>
    refine ⟨fun _ => ?_, fun x q h => by cases h⟩
    have hb := h0.1 hd
    cases hx : (eH (prt c.toNat).2.2.2 (e3 (c :: r) false).2.1 (e3 (c :: r) false).2.2).2.2 with
    | true => rfl
    | false => have := eH_ok hx; rw [this] at hb; cases hb
  | some z =>
    obtain ⟨x, q⟩ := z
    obtain ⟨hq, h9, he⟩ := h0.2 x q hd
    rw [he]
    simp only
    have h := rl_H (prt c.toNat).2.2.2 (r.drop q)
    cases hx : dH (decide ((prt c.toNat).2.2.2 = 1)) (decide ((prt c.toNat).2.2.2 = 2)) (r.drop q) with
    | none => exact ⟨fun _ => (h.1 hx).elim id (fun g => (g trivial).elim), fun x q h => by cases h⟩
    | some y =>
      obtain ⟨y, q'⟩ := y
      obtain ⟨hq', he'⟩ := h.2 y q' hx
      refine ⟨fun h => (by cases h), fun z p h => ?_⟩
      cases h
      rw [List.length_drop] at hq'
      exact ⟨by omega, ⟨h9.1, h9.2, rfl⟩, by rw [he', List.drop_drop]⟩
theorem rl_5 (hp : partsS c.toNat ≠ ⟨#[]⟩) : (d5 (partsS c.toNat) r = none → (e5 (c :: r) false).2.2 = true ∨ ((e4 (c :: r) false).1 = true ∧ ¬ okT (e5 (c :: r) false).1)) ∧ ∀ x q, d5 (partsS c.toNat) r = some (x, q) → q ≤ r.length ∧ ((e1 (c :: r) false).1 = x.1 ∧ (e2 (c :: r) false).1 = x.2.1 ∧ (e3 (c :: r) false).1 = x.2.2.1 ∧ (e4 (c :: r) false).1 = x.2.2.2.1) ∧ e5 (c :: r) false = (x.2.2.2.2, r.drop q, false) := by
  have h0 := rl_4 (r := r) hp
  have e : e5 (c :: r) false = eA (e4 (c :: r) false).1 (e4 (c :: r) false).2.1 (e4 (c :: r) false).2.2 := rfl
  rw [e]
  unfold d5
  cases hd : d4 (partsS c.toNat) r with
  | none =>
    refine ⟨fun _ => .inl ?_, fun x q h => by cases h⟩
    have hb := h0.1 hd
    cases hx : (eA (e4 (c :: r) false).1 (e4 (c :: r) false).2.1 (e4 (c :: r) false).2.2).2.2 with
    | true => rfl
    | false => have := eA_ok hx; rw [this] at hb; cases hb
  | some z =>
    obtain ⟨x, q⟩ := z
    obtain ⟨hq, h9, he⟩ := h0.2 x q hd
    rw [he]
    simp only
    cases hb : x.2.2.2 with
    | false =>
      refine ⟨fun h => (by cases h), fun z p h => ?_⟩
      cases h
      exact ⟨by omega, ⟨h9.1, h9.2.1, h9.2.2, rfl⟩, rfl⟩
    | true =>
      have h := rl_kind ((r.drop q).length + 1) (r.drop q) (by omega)
      cases hx : dkE ((r.drop q).length + 1) (r.drop q) with
      | none =>
        refine ⟨fun _ => (h.1 hx).elim .inl (fun g => .inr ⟨rfl, g⟩), fun x q h => ?_⟩
        simp only [dA, cond_true, hx] at h
        cases h
      | some y =>
        obtain ⟨y, q'⟩ := y
        obtain ⟨hq', he'⟩ := h.2 y q' hx
        simp only [dA, cond_true, hx]
        refine ⟨fun h => (by cases h), fun z p h => ?_⟩
        cases h
        rw [List.length_drop] at hq'
        exact ⟨by omega, ⟨h9.1, h9.2.1, h9.2.2, rfl⟩, by show kindE _ _ false = _; rw [he', List.drop_drop]⟩
end
theorem dtE_le : ∀ (f : Nat) (l : List UInt8) (t : Tm) (q : Nat), dtE f l = some (t, q) → 1 ≤ q ∧ q ≤ l.length
  | 0, l, _, _, h => by rw [dtE] at h; cases h
  | f + 1, [], _, _, h => by rw [dtE] at h; cases h
  | f + 1, c :: r, t, q, h => by
    rw [dtE, dstep] at h
    split at h
    · cases h
    · rename_i hp
      cases hd : d6 c.toNat (partsS c.toNat) r with
      | none => rw [hd] at h; cases h
      | some z =>
        obtain ⟨x, p⟩ := z
        rw [hd] at h
        simp only at h
        have hpl : p ≤ r.length := by
          unfold d6 at hd
          cases h5 : d5 (partsS c.toNat) r with
          | none => rw [h5] at hd; cases hd
          | some y =>
            obtain ⟨y, p5⟩ := y
            have := ((rl_5 hp).2 y p5 h5).1
            rw [h5] at hd
            simp only at hd
            cases hc : dC (decide ((c.toNat : Int) = 48)) (countE (partsS c.toNat)) (r.drop p5) with
            | none => rw [hc] at hd; cases hd
            | some k =>
              obtain ⟨k, p6⟩ := k
              rw [hc] at hd
              cases hd
              unfold dC at hc
              cases h48 : decide ((c.toNat : Int) = 48) with
              | true => rw [h48] at hc; have := (tkN_le hc).1; rw [List.length_drop] at this; omega
              | false => rw [h48] at hc; cases hc; omega
        cases hk : dkids (dtE f) x.2.2.2.2.2 (r.drop p) with
        | none => rw [hk] at h; cases h
        | some y =>
          obtain ⟨ks, p'⟩ := y
          rw [hk] at h
          cases h
          have := (dkids_need (fun l x q h => dtE_le f l x q h) _ _ ks p' hk).2
          rw [List.length_drop] at this
          simp only [List.length_cons]
          omega
theorem rl_term : ∀ (f : Nat) (l : List UInt8), l.length < f → Rl okM (dtE f l) l (termE f l false)
  | 0, _, h => absurd h (Nat.not_lt_zero _)
  | f + 1, [], _ => by
    rw [dtE]
    refine ⟨fun _ => .inl ?_, fun x q h => by cases h⟩
    cases hx : (termE (f + 1) [] false).2.2 with
    | true => rfl
    | false =>
      rw [termE] at hx
      have b6 : (e6 [] false).2.2 = false := kidsE_ok hx
      have b5 : (e5 [] false).2.2 = false := eC_ok b6
      have b4 : (e4 [] false).2.2 = false := eA_ok b5
      have b3 : (e3 [] false).2.2 = false := eH_ok b4
      have b2 : (e2 [] false).2.2 = false := eN_ok b3
      have b1 : (e1 [] false).2.2 = false := eT_ok b2
      have b0 : (e0 [] false).2.2 = false := eT_ok b1
      exact absurd b0 (by decide)
  | f + 1, c :: r, hf => by
    have hl : (c :: r).length = r.length + 1 := rfl
    rw [dtE, dstep]
    have hopen : ∀ nm g n b a ks, nodesL (Tm.mk c.toNat nm g n b a ks) = Tm.mk c.toNat nm g n b a ks :: ks.flatMap nodesL := fun nm g n b a ks => nodesL_eq _
    have hself : ∀ nm g n b a ks, Tm.mk c.toNat nm g n b a ks ∈ nodesL (Tm.mk c.toNat nm g n b a ks) := fun nm g n b a ks => by rw [hopen]; exact List.mem_cons_self
    rw [termE]
    rw [show (e0 (c :: r) false).1 = (c.toNat : Int) from rfl]
    split
    · rename_i hp
      exact ⟨fun _ => .inr fun hg => (hg _ (hself _ _ _ _ _ _)).1 hp, fun x q h => by cases h⟩
    · rename_i hp
      have h5 := rl_5 (r := r) hp
      have hpp := parts_prt hp
      have hbad : (e6 (c :: r) false).2.2 = true → (kidsE (termE f) (e6 (c :: r) false).1 (e6 (c :: r) false).2.1 (e6 (c :: r) false).2.2).2.2 = true := fun h => by rw [h, kidsE_bad]
      have e6e : e6 (c :: r) false = eC (cnt c.toNat) (e5 (c :: r) false).2.1 (e5 (c :: r) false).2.2 := rfl
      cases hd5 : d5 (partsS c.toNat) r with
      | none =>
        have hn6 : d6 c.toNat (partsS c.toNat) r = none := by unfold d6; rw [hd5]
        rw [hn6]
        refine ⟨fun _ => ?_, fun x q h => by cases h⟩
        rcases h5.1 hd5 with hb | ⟨hb, hg⟩
        · refine .inl (hbad ?_)
          cases hx : (e6 (c :: r) false).2.2 with
          | true => rfl
          | false => rw [e6e] at hx; have := eC_ok hx; rw [this] at hb; cases hb
        · exact .inr fun ha => hg ((ha _ (hself _ _ _ _ _ _)).2 hb)
      | some z =>
        obtain ⟨x, q⟩ := z
        obtain ⟨hq, h9, he⟩ := h5.2 x q hd5
        have hd6 : d6 c.toNat (partsS c.toNat) r = match dC (decide ((c.toNat : Int) = 48)) (countE (partsS c.toNat)) (r.drop q) with
            | none => none
            | some (y, q') => some ((x.1, x.2.1, x.2.2.1, x.2.2.2.1, x.2.2.2.2, y), q + q') := by unfold d6; rw [hd5]
        rw [hd6]
        rw [he] at e6e
        simp only at e6e
        -- how many kids, and what is left
        have key : (dC (decide ((c.toNat : Int) = 48)) (countE (partsS c.toNat)) (r.drop q) = none → (e6 (c :: r) false).2.2 = true) ∧
            ∀ k q', dC (decide ((c.toNat : Int) = 48)) (countE (partsS c.toNat)) (r.drop q) = some (k, q') → q' ≤ (r.drop q).length ∧ (e6 (c :: r) false = (k, (r.drop q).drop q', false) ∨ ((e6 (c :: r) false).2.2 = true ∧ ((r.drop q).drop q').length < k)) := by
          rw [e6e]
          unfold eC dC
          rw [hpp.2.2.2.2.2.1]
          by_cases h48 : (c.toNat : Int) = 48
          · rw [decide_eq_true h48]
            simp only [cond_true]
            have hn := numE_tk (r.drop q)
            cases hk : tkN (r.drop q) with
            | none =>
              rw [hk] at hn
              simp only at hn
              rw [hn]
              refine ⟨fun _ => ?_, fun k q' h => by cases h⟩
              cases decide (([] : List UInt8).length < 0) <;> rfl
            | some y =>
              obtain ⟨k, q'⟩ := y
              rw [hk] at hn
              simp only at hn
              rw [hn]
              refine ⟨fun h => (by cases h), fun k2 q2 h => ?_⟩
              cases h
              refine ⟨(tkN_le hk).1, ?_⟩
              by_cases hlt : ((r.drop q).drop q').length < k
              · rw [decide_eq_true hlt]; exact .inr ⟨rfl, hlt⟩
              · rw [decide_eq_false hlt]; exact .inl rfl
          · rw [decide_eq_false h48]
            simp only [cond_false]
            refine ⟨fun h => (by cases h), fun k q' h => ?_⟩
            cases h
            exact ⟨Nat.zero_le _, .inl (by rw [hpp.2.2.2.2.2.2 h48]; rfl)⟩
        cases hdc : dC (decide ((c.toNat : Int) = 48)) (countE (partsS c.toNat)) (r.drop q) with
        | none => exact ⟨fun _ => .inl (hbad (key.1 hdc)), fun x q h => by cases h⟩
        | some y =>
          obtain ⟨k, q'⟩ := y
          obtain ⟨hq', hk6⟩ := key.2 k q' hdc
          rw [List.length_drop] at hq'
          simp only
          rcases hk6 with hk6 | ⟨hb6, hlt⟩
          · have h2 := rl_kids (n := r.length) (fun l hl => rl_term f l (by omega)) k (r.drop (q + q')) (by rw [List.length_drop]; omega)
            rw [List.drop_drop] at hk6
            rw [hk6]
            simp only
            cases hx : dkids (dtE f) k (r.drop (q + q')) with
            | none =>
              refine ⟨fun _ => ?_, fun x q h => by cases h⟩
              rcases h2.1 hx with hb | hg
              · exact .inl hb
              · refine .inr fun ha => hg fun x hx y hy => ha y ?_
                rw [hopen]; exact List.mem_cons_of_mem _ (List.mem_flatMap.2 ⟨x, hx, hy⟩)
            | some y =>
              obtain ⟨ks, p⟩ := y
              obtain ⟨hp', he'⟩ := h2.2 ks p hx
              refine ⟨fun h => (by cases h), fun t p2 h => ?_⟩
              cases h
              rw [List.length_drop] at hp'
              refine ⟨by omega, ?_⟩
              rw [he', h9.1, h9.2.1, h9.2.2.1, h9.2.2.2, he]
              simp only [List.drop_drop, Prod.mk.injEq, true_and, and_true]
              rw [show 1 + (q + q' + p) = (q + q' + p) + 1 by omega, List.drop_succ_cons]
          · have hno : dkids (dtE f) k (r.drop (q + q')) = none := by
              cases hx : dkids (dtE f) k (r.drop (q + q')) with
              | none => rfl
              | some y =>
                obtain ⟨ks, p⟩ := y
                have := dkids_need (fun l x q h => dtE_le f l x q h) k _ ks p hx
                rw [List.drop_drop] at hlt
                omega
            rw [hno]
            exact ⟨fun _ => .inl (hbad hb6), fun x q h => by cases h⟩
/-! ## On the way -/
def valN : Option (Nat × Nat) → Nat
  | none => 0
  | some z => z.1
def valT : Option (ByteArray × Nat) → ByteArray
  | none => ⟨#[]⟩
  | some z => z.1
/-- The place behind; -1: there is none. -/
def posD {α : Type} (p : Nat) : Option (α × Nat) → Int
  | none => -1
  | some z => ((p + z.2 : Nat) : Int)
/-- What was taken, and where one stands. -/
def StA {α : Type} (d : Option (α × Nat)) (x : α) (p n : Nat) (a : Int) : Prop := (d = none ∧ a = -1) ∨ ∃ q, d = some (x, q) ∧ a = ((p + q : Nat) : Int) ∧ p + q ≤ n
theorem stA_N {p n : Nat} {l : List UInt8} (h : p + l.length ≤ n) : StA (tkN l) (valN (tkN l)) p n (posD p (tkN l)) := by
  cases e : tkN l with
  | none => exact .inl ⟨rfl, rfl⟩
  | some z => exact .inr ⟨z.2, rfl, rfl, by have := (tkN_le (m := z.1) (q := z.2) e).1; omega⟩
theorem stA_T {p n : Nat} {l : List UInt8} (h : p + l.length ≤ n) : StA (tkT l) (valT (tkT l)) p n (posD p (tkT l)) := by
  cases e : tkT l with
  | none => exact .inl ⟨rfl, rfl⟩
  | some z => exact .inr ⟨z.2, rfl, rfl, by have := tkT_le (s := z.1) (q := z.2) e; omega⟩
theorem valN_lt (l : List UInt8) : valN (tkN l) < 9223372036854775808 := by
  cases e : tkN l with
  | none => show (0 : Nat) < _; decide
  | some z => exact (tkN_le (m := z.1) (q := z.2) e).2
theorem valT_le (l : List UInt8) : (valT (tkT l)).size ≤ l.length := by
  have h := (textE_less l false).2
  rw [textE_tk] at h
  cases e : tkT l with
  | none => exact Nat.zero_le _
  | some z => rw [e] at h; exact h
theorem dhead_text {c : Int} {l : List UInt8} (h : c = 11) : dhead c l = match tkT l with
    | none => none
    | some z => some (0, z.1, z.2) := by
  subst h
  unfold dhead
  rw [decide_eq_false (by omega), decide_eq_true rfl]
  simp only [dN, cond_false, List.drop_zero, dT, cond_true]
  cases tkT l with
  | none => rfl
  | some z => simp
theorem dhead_other {c : Int} {l : List UInt8} (h : c ≠ 11) : dhead c l = match dN (decide (c = 7 ∨ c = 10)) l with
    | none => none
    | some z => some ((z.1 : Int), ⟨#[]⟩, z.2) := by
  unfold dhead
  rw [decide_eq_false h]
  cases dN (decide (c = 7 ∨ c = 10)) l with
  | none => rfl
  | some z => rfl
/-- Kids: those that were taken, and where one stands. -/
def StK {α : Type} (g : List UInt8 → Option (α × Nat)) (full : Option (α × Nat)) (mk : List α → α) (s i : Nat) (r : List UInt8) (ks : List α) (p n : Nat) (a : Int) : Prop :=
  (full = none ∧ a = -1) ∨ ∃ q, a = ((p + q : Nat) : Int) ∧ p + q ≤ n ∧ full = match dkids g (s - i) (r.drop q) with
    | none => none
    | some z => some (mk (ks ++ z.1), 1 + (q + z.2))
section
variable {α : Type} {g : List UInt8 → Option (α × Nat)} {full : Option (α × Nat)} {mk : List α → α} {s i : Nat} {r : List UInt8} {ks : List α} {p n : Nat} {a : Int}
theorem StK.open (h : StK g full mk s i r ks p n a) (ha : 0 ≤ a) : ∃ q, a = ((p + q : Nat) : Int) ∧ p + q ≤ n ∧ full = match dkids g (s - i) (r.drop q) with
    | none => none
    | some z => some (mk (ks ++ z.1), 1 + (q + z.2)) := by
  rcases h with ⟨_, h⟩ | h
  · omega
  · exact h
theorem StK.step {q : Nat} {x : α} (hf : full = match dkids g (s - i) (r.drop q) with
    | none => none
    | some z => some (mk (ks ++ z.1), 1 + (q + z.2))) (hi : i < s) (hg : ∀ y q', g (r.drop q) = some (y, q') → x = y ∧ q' ≤ (r.drop q).length) (hn : p + r.length ≤ n) (hq : q ≤ r.length) :
    StK g full mk s (i + 1) r (ks ++ [x]) p n (posD (p + q) (g (r.drop q))) := by
  rw [show s - i = (s - (i + 1)) + 1 by omega, dkids] at hf
  cases e : g (r.drop q) with
  | none => rw [e] at hf; exact .inl ⟨hf, rfl⟩
  | some z =>
    obtain ⟨y, q'⟩ := z
    obtain ⟨rfl, hq'⟩ := hg y q' e
    rw [List.length_drop] at hq'
    rw [e] at hf
    simp only [List.drop_drop] at hf
    refine .inr ⟨q + q', by show ((p + q + q' : Nat) : Int) = _; omega, by omega, ?_⟩
    rw [hf]
    cases dkids g (s - (i + 1)) (r.drop (q + q')) with
    | none => rfl
    | some z => simp [Nat.add_assoc]
theorem StK.fin (h : StK g full mk s i r ks p n a) (hi : s ≤ i ∨ a < 0) {p0 : Nat} (hp : p = p0 + 1) : a = posD p0 full ∧ ∀ y q, full = some (y, q) → mk ks = y := by
  rcases h with ⟨h1, h2⟩ | ⟨q, h1, h2, h3⟩
  · rw [h1]; exact ⟨h2, fun y q h => by cases h⟩
  · have hs : s - i = 0 := by omega
    rw [hs] at h3
    simp only [dkids, List.append_nil] at h3
    rw [h3]
    refine ⟨by rw [h1]; show _ = ((p0 + (1 + (q + 0)) : Nat) : Int); omega, fun y q' h => ?_⟩
    cases h; rfl
end
theorem dkE_le {f : Nat} {l : List UInt8} (hf : l.length < f) {t : Ty} {q : Nat} (h : dkE f l = some (t, q)) : q ≤ l.length := ((rl_kind f l hf).2 t q h).1
theorem dkE_cons (f : Nat) (c : UInt8) (r : List UInt8) {s : ByteArray} (h : kidsOf c.toNat = some s) : dkE (f + 1) (c :: r) = match dhead c.toNat r with
    | none => none
    | some (n, nm, q) => match dkids (dkE f) s.size (r.drop q) with
      | none => none
      | some (ks, q') => some (.mk c.toNat nm n ks, 1 + (q + q')) := by
  rw [dkE, h]
theorem dkE_no (f : Nat) (c : UInt8) (r : List UInt8) (h : kidsOf c.toNat = none) : dkE (f + 1) (c :: r) = none := by rw [dkE, h]
def bindD {α β γ : Type} (d : Option (α × Nat)) (r : List UInt8) (e : α → List UInt8 → Option (β × Nat)) (mk : α → β → γ) : Option (γ × Nat) :=
  match d with
  | none => none
  | some z => match e z.1 (r.drop z.2) with
    | none => none
    | some y => some (mk z.1 y.1, z.2 + y.2)
theorem d2_eq (p : ByteArray) (l : List UInt8) : d2 p l = bindD (d1 p l) l (fun _ => dT (hasB p 97)) (fun x y => (x, y)) := by
  unfold d2 bindD
  cases d1 p l with
  | none => rfl
  | some z => cases h : dT (hasB p 97) (l.drop z.2) with
    | none => simp only [h]
    | some y => simp only [h]
theorem d3_eq (p : ByteArray) (l : List UInt8) : d3 p l = bindD (d2 p l) l (fun _ => dN (hasB p 105 || hasB p 98)) (fun x y => (x.1, x.2, y)) := by
  unfold d3 bindD
  cases d2 p l with
  | none => rfl
  | some z => cases h : dN (hasB p 105 || hasB p 98) (l.drop z.2) with
    | none => simp only [h]
    | some y => simp only [h]
theorem d4_eq (p : ByteArray) (l : List UInt8) : d4 p l = bindD (d3 p l) l (fun _ => dH (hasB p 116) (hasB p 84)) (fun x y => (x.1, x.2.1, x.2.2, y)) := by
  unfold d4 bindD
  cases d3 p l with
  | none => rfl
  | some z => cases h : dH (hasB p 116) (hasB p 84) (l.drop z.2) with
    | none => simp only [h]
    | some y => simp only [h]
theorem d5_eq (p : ByteArray) (l : List UInt8) : d5 p l = bindD (d4 p l) l (fun x => dA x.2.2.2) (fun x y => (x.1, x.2.1, x.2.2.1, x.2.2.2, y)) := by
  unfold d5 bindD
  cases d4 p l with
  | none => rfl
  | some z => cases h : dA z.1.2.2.2 (l.drop z.2) with
    | none => simp only [h]
    | some y => simp only [h]
theorem d6_eq (op : Int) (p : ByteArray) (l : List UInt8) : d6 op p l = bindD (d5 p l) l (fun _ => dC (decide (op = 48)) (countE p)) (fun x y => (x.1, x.2.1, x.2.2.1, x.2.2.2.1, x.2.2.2.2, y)) := by
  unfold d6 bindD
  cases d5 p l with
  | none => rfl
  | some z => cases h : dC (decide (op = 48)) (countE p) (l.drop z.2) with
    | none => simp only [h]
    | some y => simp only [h]
section
variable {α β γ : Type} {d : Option (α × Nat)} {r : List UInt8} {e : α → List UInt8 → Option (β × Nat)} {mk : α → β → γ} {x : α} {p n : Nat} {a a' : Int}
theorem StA.open (h : StA d x p n a) (ha : 0 ≤ a) : ∃ q, d = some (x, q) ∧ a = ((p + q : Nat) : Int) ∧ p + q ≤ n := by
  rcases h with ⟨_, h⟩ | h
  · omega
  · exact h
theorem StA.dead (h : StA d x p n a) (ha : ¬ 0 ≤ a) (z : γ) : StA (bindD d r e mk) z p n a := by
  rcases h with ⟨h1, h⟩ | ⟨q, _, h, _⟩
  · exact .inl ⟨by rw [h1]; rfl, h⟩
  · omega
theorem StA.next {q : Nat} {y : β} (hd : d = some (x, q)) (he : StA (e x (r.drop q)) y (p + q) n a') : StA (bindD d r e mk) (mk x y) p n a' := by
  rcases he with ⟨h1, h2⟩ | ⟨q', h1, h2, h3⟩
  · exact .inl ⟨by rw [hd]; unfold bindD; simp only [h1], h2⟩
  · exact .inr ⟨q + q', by rw [hd]; unfold bindD; simp only [h1], by rw [h2]; omega, by omega⟩
theorem bindD_none {q : Nat} (hd : d = some (x, q)) (he : e x (r.drop q) = none) : bindD d r e mk = none := by rw [hd]; unfold bindD; simp only [he]
end
theorem dtE_cons (f : Nat) (c : UInt8) (r : List UInt8) (h : partsS c.toNat ≠ ⟨#[]⟩) : dtE (f + 1) (c :: r) = match d6 c.toNat (partsS c.toNat) r with
    | none => none
    | some (x, q) => match dkids (dtE f) x.2.2.2.2.2 (r.drop q) with
      | none => none
      | some (ks, q') => some (.mk c.toNat x.1 x.2.1 x.2.2.1 x.2.2.2.1 x.2.2.2.2.1 ks, 1 + (q + q')) := by
  rw [dtE, dstep, if_neg h]
theorem dtE_no (f : Nat) (c : UInt8) (r : List UInt8) (h : partsS c.toNat = ⟨#[]⟩) : dtE (f + 1) (c :: r) = none := by rw [dtE, dstep, if_pos h]
theorem dtE_nil (f : Nat) : dtE (f + 1) [] = none := by rw [dtE]
theorem d4_none {op : Int} {p : ByteArray} {l : List UInt8} (h : d4 p l = none) : d6 op p l = none := by
  rw [d6_eq, d5_eq, h]; rfl
theorem dtE_none {f : Nat} {c : UInt8} {r : List UInt8} (h : partsS c.toNat ≠ ⟨#[]⟩) (h6 : d6 c.toNat (partsS c.toNat) r = none) : dtE (f + 1) (c :: r) = none := by rw [dtE_cons f c r h, h6]
theorem stK_term {f : Nat} {c : UInt8} {r : List UInt8} {x : ByteArray × ByteArray × Nat × Bool × Ty × Nat} {p n : Nat} {a : Int} (h : partsS c.toNat ≠ ⟨#[]⟩) (h6 : StA (d6 c.toNat (partsS c.toNat) r) x p n a) :
    StK (dtE f) (dtE (f + 1) (c :: r)) (fun ks => .mk c.toNat x.1 x.2.1 x.2.2.1 x.2.2.2.1 x.2.2.2.2.1 ks) x.2.2.2.2.2 0 r [] p n a := by
  rcases h6 with ⟨h1, h2⟩ | ⟨q, h1, h2, h3⟩
  · exact .inl ⟨dtE_none h h1, h2⟩
  · refine .inr ⟨q, h2, h3, ?_⟩
    rw [dtE_cons f c r h, h1]
    simp only [Nat.sub_zero, List.nil_append]
    cases dkids (dtE f) x.2.2.2.2.2 (r.drop q) <;> rfl
theorem dtE_ge {f : Nat} {l : List UInt8} {t : Tm} {q : Nat} (h : dtE f l = some (t, q)) : 1 ≤ q ∧ q ≤ l.length := dtE_le f l t q h
theorem posD_kid {f p q : Nat} {r : List UInt8} : posD (p + q) (dtE f (r.drop q)) = -1 ∨ ((p + q : Nat) : Int) + 1 ≤ posD (p + q) (dtE f (r.drop q)) := by
  cases e : dtE f (r.drop q) with
  | none => exact .inl rfl
  | some z =>
    have := (dtE_ge (t := z.1) (q := z.2) e).1
    right
    show _ ≤ ((p + q + z.2 : Nat) : Int)
    omega
theorem posD_kidK {f p q n : Nat} {r : List UInt8} (hf : (r.drop q).length < f) (h : p + r.length ≤ n) (hq : q ≤ r.length) {x : Ty} (hx : ∀ y q', dkE f (r.drop q) = some (y, q') → x = y) : StA (dkE f (r.drop q)) x (p + q) n (posD (p + q) (dkE f (r.drop q))) := by
  cases e : dkE f (r.drop q) with
  | none => exact .inl ⟨rfl, rfl⟩
  | some z =>
    have h1 := dkE_le hf (show dkE f (r.drop q) = some (z.1, z.2) from e)
    rw [List.length_drop] at h1
    rw [hx z.1 z.2 e]
    exact .inr ⟨z.2, rfl, rfl, by omega⟩
/-! ## The whole -/
theorem okT_shape (t : Ty) : ∀ c, shapeF t c = true → okT t := by
  refine Ty.ind (p := fun t => ∀ c, shapeF t c = true → okT t) (fun t ih => ?_) t
  intro c h x hx
  obtain ⟨ks, hk, hl, hall, _⟩ := shape_pos h
  rw [partsL_eq] at hx
  rcases List.mem_cons.1 hx with rfl | hx
  · rw [hk]; simp
  · obtain ⟨k, hkm, hxk⟩ := List.mem_flatMap.1 hx
    obtain ⟨j, hj, rfl⟩ := List.getElem_of_mem hkm
    have hjd : j < ks.data.size := by rw [hl] at hj; exact hj
    exact ih _ hkm _ (hall j _ _ (List.getElem?_eq_getElem hj) (Array.getElem?_eq_getElem hjd)) x hxk
theorem okT_either {t : Ty} (h : (rightB t || rowB t) = true) : okT t := by
  unfold rightB rowB at h
  simp only [Bool.or_eq_true, Bool.and_eq_true] at h
  rcases h with h | h
  · exact okT_shape t _ h.1
  · exact okT_shape t _ h.1
theorem okM_right (t : Tm) : ∀ arm, rightT t arm = true → okM t := by
  refine Tm.ind (p := fun t => ∀ arm, rightT t arm = true → okM t) (fun t ih => ?_) t
  intro arm h x hx
  rw [rightT_eq] at h
  simp only [Bool.and_eq_true] at h
  obtain ⟨hh, hk⟩ := h
  have hall : ∀ (l : List Tm) (i : Nat), kidsT t.op i (kidL l) = true → ∀ k ∈ l, ∃ b, rightT k b = true := by
    intro l
    induction l with
    | nil => intro i _ k hk; cases hk
    | cons y l ihl =>
      intro i h k hk
      have h' : kidsT t.op i ((y.op, rightT y) :: kidL l) = true := h
      rw [kidsT] at h'
      simp only [Bool.and_eq_true] at h'
      rcases List.mem_cons.1 hk with rfl | hk
      · exact ⟨_, h'.2.1⟩
      · exact ihl _ h'.2.2 k hk
  rw [nodesL_eq] at hx
  rcases List.mem_cons.1 hx with rfl | hx
  · unfold headT at hh
    simp only [Bool.and_eq_true] at hh
    have hv : ¬ (x.op < 32 ∨ 52 ≤ x.op) := fun e => by rw [shp_no e] at hh; exact absurd hh.1 (by simp)
    refine ⟨(shp_parts hv).2.1, fun hb => ?_⟩
    have hn := hh.2.2.2.1
    unfold notedB at hn
    rw [hb] at hn
    simp only [cond_true, Bool.and_eq_true] at hn
    exact okT_either (by rw [hn.2.1]; rfl)
  · obtain ⟨k, hkm, hxk⟩ := List.mem_flatMap.1 hx
    obtain ⟨b, hb⟩ := hall _ _ hk k hkm
    exact ih k hkm b hb x hxk
theorem of_term_no {l : List UInt8} (h : posD 0 (dtE (l.length + 1) l) ≠ (l.length : Int)) : okGT l = false := by
  have hr := rl_term (l.length + 1) l (Nat.lt_succ_self _)
  cases hq : okGT l with
  | false => rfl
  | true =>
    unfold okGT at hq
    simp only [Bool.and_eq_true, Bool.not_eq_true', List.isEmpty_iff] at hq
    cases e : dtE (l.length + 1) l with
    | none =>
      rcases hr.1 e with hb | hg
      · rw [hb] at hq; exact absurd hq.1 (by simp)
      · exact absurd (okM_right _ _ hq.2.2) hg
    | some z =>
      obtain ⟨h1, h2⟩ := hr.2 z.1 z.2 e
      have h3 := hq.2.1
      rw [h2] at h3
      have h4 := congrArg List.length h3
      rw [List.length_drop] at h4
      simp only [List.length_nil] at h4
      rw [e] at h
      exact absurd (show ((0 + z.2 : Nat) : Int) = (l.length : Int) by omega) h
theorem of_term_yes {l : List UInt8} {t : Tm} (ht : ∀ y q, dtE (l.length + 1) l = some (y, q) → t = y) (h : posD 0 (dtE (l.length + 1) l) = (l.length : Int)) : okGT l = rightT t false ∧ getT l = t := by
  have hr := rl_term (l.length + 1) l (Nat.lt_succ_self _)
  cases e : dtE (l.length + 1) l with
  | none => rw [e] at h; exact absurd h (by show ¬ ((-1 : Int) = _); omega)
  | some z =>
    rw [e] at h
    have hz : ((0 + z.2 : Nat) : Int) = (l.length : Int) := h
    obtain ⟨h1, h2⟩ := hr.2 z.1 z.2 e
    have h3 : getT l = t := by unfold getT; rw [h2]; exact (ht z.1 z.2 e).symm
    refine ⟨?_, h3⟩
    unfold okGT
    rw [h3, h2, List.drop_eq_nil_of_le (by omega)]
    rfl
theorem of_type_no {l : List UInt8} (h : posD 0 (dkE (l.length + 1) l) ≠ (l.length : Int)) : okGY l = false := by
  have hr := rl_kind (l.length + 1) l (Nat.lt_succ_self _)
  cases hq : okGY l with
  | false => rfl
  | true =>
    unfold okGY at hq
    simp only [Bool.and_eq_true, Bool.not_eq_true', List.isEmpty_iff] at hq
    cases e : dkE (l.length + 1) l with
    | none =>
      rcases hr.1 e with hb | hg
      · rw [hb] at hq; exact absurd hq.1 (by simp)
      · exact absurd (okT_either hq.2.2) hg
    | some z =>
      obtain ⟨h1, h2⟩ := hr.2 z.1 z.2 e
      have h3 := hq.2.1
      rw [h2] at h3
      have h4 := congrArg List.length h3
      rw [List.length_drop] at h4
      simp only [List.length_nil] at h4
      rw [e] at h
      exact absurd (show ((0 + z.2 : Nat) : Int) = (l.length : Int) by omega) h
theorem of_type_yes {l : List UInt8} {t : Ty} (ht : ∀ y q, dkE (l.length + 1) l = some (y, q) → t = y) (h : posD 0 (dkE (l.length + 1) l) = (l.length : Int)) : okGY l = (rightB t || rowB t) ∧ getY l = t := by
  have hr := rl_kind (l.length + 1) l (Nat.lt_succ_self _)
  cases e : dkE (l.length + 1) l with
  | none => rw [e] at h; exact absurd h (by show ¬ ((-1 : Int) = _); omega)
  | some z =>
    rw [e] at h
    have hz : ((0 + z.2 : Nat) : Int) = (l.length : Int) := h
    obtain ⟨h1, h2⟩ := hr.2 z.1 z.2 e
    have h3 : getY l = t := by unfold getY; rw [h2]; exact (ht z.1 z.2 e).symm
    refine ⟨?_, h3⟩
    unfold okGY
    rw [h3, h2, List.drop_eq_nil_of_le (by omega)]
    rfl
end Rw
namespace Go.Proofs.Ytohfnpmehgpphaa
open Go Rw Go.RowKit
set_option maxRecDepth 100000
theorem takeNum_v (l : List UInt8) (p : Nat) (hp : p ≤ l.length) (M : Nat → Prop) (w : World) (v : Value) (hs : Sl M w v l) :
  Calls Try.prog 74 #[v, .int .i64 (p : Int)] w (Ret fun r w' => r = .tuple #[.int .u64 (valN (tkN (l.drop p)) : Nat), .int .i64 (posD p (tkN (l.drop p)))] ∧ w = w') :=
 (takeNum_spec l p hp M w v hs).mono (Ret.mono fun r w' h => ⟨h.1.trans (by cases tkN (l.drop p) <;> rfl), h.2⟩)
theorem takeText_v (l : List UInt8) (p : Nat) (hp : p ≤ l.length) (M : Nat → Prop) (w : World) (v : Value) (hs : Sl M w v l) :
  Calls Try.prog 32 #[v, .int .i64 (p : Int)] w (Ret fun r w' => r = .tuple #[.string (valT (tkT (l.drop p))), .int .i64 (posD p (tkT (l.drop p)))] ∧ w = w') :=
 (takeText_spec l p hp M w v hs).mono (Ret.mono fun r w' h => ⟨h.1.trans (by cases tkT (l.drop p) <;> rfl), h.2⟩)
theorem drop_open {l : List UInt8} {p : Nat} {c : UInt8} {r : List UInt8} (h : l.drop p = c :: r) : l[p]? = some c ∧ l.drop (p + 1) = r ∧ r.length + p + 1 = l.length := by
 have h1 := congrArg (fun k => k[0]?) h
 have h2 := congrArg List.tail h
 have h3 := congrArg List.length h
 simp only [List.getElem?_drop, Nat.add_zero, List.getElem?_cons_zero, List.tail_drop, List.tail_cons, List.length_drop, List.length_cons] at h1 h2 h3
 exact ⟨h1, h2, by omega⟩
theorem takeType_spec : ∀ (k : Nat) (l : List UInt8) (p : Nat) (M : Nat → Prop) (w : World) (v : Value), p ≤ l.length → l.length - p < k → l.length ≤ 1000000 → Sl M w v l → Low M w →
  Calls Try.prog 80 #[v, .int .i64 (p : Int)] w (Ret fun r w' => (∃ x t, r = .tuple #[x, .int .i64 (posD p (dkE k (l.drop p)))] ∧ Rep.R M w' x t ∧ ∀ y q, dkE k (l.drop p) = some (y, q) → t = y) ∧ Ext w w') := by
 intro k
 induction k with
 | zero => intro l p M w v hp hk; exact absurd hk (Nat.not_lt_zero _)
 | succ k ih =>
  intro l p M w v hp hlk hll hs hlow0
  have hlow := hlow0
  have hB : w.heap.size ≤ w.heap.size := Nat.le_refl _
  have hE : Below w.heap.size w w := Below.refl _ _
  have hsub : ∀ b, M b → M b := fun _ h => h
  refine c_enter (n := 92) Try.func80 rfl rfl rfl ?_
  refine q0 ?_
  refine lC (o_new tK rfl rfl rfl ?_)
  intro b4 w1 qb4 ew1 hb4
  have sw1 := Stp.add ew1 hlow hB (Nat.le_of_eq qb4.symm) hb4.lt
  have h4 : MB w.heap.size (Rw.Add M b4) w1 b4 40 [.int .u8 0, .string ⟨#[]⟩, .int .i64 0, .slice none 0 0] := MB.mk' hb4 qb4 hB
  replace hE := hE.trans sw1.below
  replace hs := hs.stp sw1
  replace hsub := sw1.sb hsub
  replace hlow := sw1.low
  replace hB := sw1.z hB
  refine l_p 1 tK rfl (q1 (c_seq (q0 (l_p 3 tK rfl ?_))))
  refine l_splitP 16 _ rfl (fun c1 => ?_) (fun c1 => ?_)
  ·exact absurd c1 (by omega)
  refine l_p 2 tK rfl ?_
  refine lC (o_len tK hs rfl rfl rfl rfl rfl ?_)
  refine l_p 2 tK rfl (q1 ?_)
  refine c_ifP _ rfl (fun c2 => ?_) (fun c2 => ?_)
  ·refine q0 ?_
   refine lC (o_build (cells := [.int .u8 0, .string ⟨#[]⟩, .int .i64 0, .slice none 0 0]) (css := []) bd40 rfl rfl rfl rfl rfl ?_)
   refine lC (o_st tK h4.box rfl rfl rfl rfl (by intro u hu; simp [Value.cells] at hu; rcases hu with rfl | rfl | rfl | rfl <;> rfl) rfl rfl ?_)
   intro w2 hw2 qw2 bew2
   have uw2 : UpdB _ _ _ := ⟨qw2, bew2⟩
   have sw2 := uw2.stp h4.inM hlow h4.ge
   have frw2 := qw2.2
   replace hE := hE.trans sw2.below
   replace hs := hs.stp sw2
   replace hsub := sw2.sb hsub
   replace hlow := sw2.low
   replace hB := sw2.z hB
   replace h4 : MB w.heap.size _ w2 b4 _ [.int .u8 0, .string ⟨#[]⟩, .int .i64 0, .slice none 0 0] := ⟨hw2, h4.inM, h4.ge⟩
   refine l_p 1 tK rfl (q1 (c_ret (x_seqR ?_)))
   refine x_ret2st tK (fun j v hv => h4.cell j v hv) rfl rfl rfl rfl rfl rfl ?_
   have hnil : l.drop p = [] := List.drop_eq_nil_of_le (by omega)
   rw [hnil]
   exact ⟨⟨_, .mk 0 ⟨#[]⟩ 0 [], rfl, ty_mk (by decide) (by decide) ⟨by decide, by decide⟩ sl_nil, fun y q h => by cases h⟩, hE⟩
  obtain ⟨c, r, hcr⟩ : ∃ c r, l.drop p = c :: r := by
   cases h : l.drop p with
   | nil => have := congrArg List.length h; simp at this; omega
   | cons c r => exact ⟨c, r, rfl⟩
  obtain ⟨hgc, hdr, hrl⟩ := drop_open hcr
  rw [hcr]
  refine c_skip (x_seq (q0 (l_p 2 tK rfl ?_)))
  refine lC (o_ixS tK hs hgc rfl rfl rfl rfl rfl rfl rfl rfl rfl ?_)
  intro eb eo eu hr hat
  replace hr : eu = .int .u8 c.toNat := hr
  subst hr
  refine lC (o_ld tK (hat.cell 0 _ rfl) rfl rfl rfl rfl rfl ?_)
  refine lC (o_build (cells := [.int .u8 c.toNat, .string ⟨#[]⟩, .int .i64 0, .slice none 0 0]) (css := [[.int .u8 c.toNat]]) bd40 rfl rfl rfl rfl rfl ?_)
  refine lC (o_new tK rfl rfl rfl ?_)
  intro b6 w3 qb6 ew3 hb6
  have ne_h4_h6 : b4 ≠ b6 := by have := h4.lt; omega
  have sw3 := Stp.add ew3 hlow hB (Nat.le_of_eq qb6.symm) hb6.lt
  have h6 : MB w.heap.size (Rw.Add (Rw.Add M b4) b6) w3 b6 40 [.int .u8 0, .string ⟨#[]⟩, .int .i64 0, .slice none 0 0] := MB.mk' hb6 qb6 hB
  replace h4 := h4.stp sw3 (ew3.block b4 h4.lt)
  replace hE := hE.trans sw3.below
  replace hs := hs.stp sw3
  replace hsub := sw3.sb hsub
  replace hlow := sw3.low
  replace hB := sw3.z hB
  refine lC (o_st tK h6.box rfl rfl rfl rfl (by intro u hu; simp [Value.cells] at hu; rcases hu with rfl | rfl | rfl | rfl <;> rfl) rfl rfl ?_)
  intro w4 hw4 qw4 bew4
  have uw4 : UpdB _ _ _ := ⟨qw4, bew4⟩
  have sw4 := uw4.stp h6.inM hlow h6.ge
  have frw4 := qw4.2
  replace h4 := h4.stp sw4 (frw4 b4 h4.lt ne_h4_h6)
  replace hE := hE.trans sw4.below
  replace hs := hs.stp sw4
  replace hsub := sw4.sb hsub
  replace hlow := sw4.low
  replace hB := sw4.z hB
  replace h6 : MB w.heap.size _ w4 b6 _ [.int .u8 c.toNat, .string ⟨#[]⟩, .int .i64 0, .slice none 0 0] := ⟨hw4, h6.inM, h6.ge⟩
  refine q1 (q0 (l_p 1 tK rfl ?_))
  refine lC (o_ld tK (h6.cell 0 _ rfl) rfl rfl rfl rfl rfl ?_)
  refine lC (o_call fo96 rfl rfl rfl (kids_spec _ c.toNat) ?_)
  rintro _ _ ⟨⟨bk, ks, rfl, hko⟩, rfl⟩
  refine l_p 5 tK rfl (q1 (q0 (l_p 1 tK rfl ?_)))
  refine lC (o_ar rfl rfl rfl (z := ((p + 1 : Nat) : Int)) (by rw [IntWalk.i64_in _ (by omega)]; omega) rfl rfl ?_)
  refine l_p 1 tK rfl (q1 (c_seq (q0 (l_p 2 tK rfl (q1 ?_)))))
  refine c_ifB _ rfl (fun c3 => ?_) (fun c3 => ?_)
  ·obtain rfl : bk = false := by simpa using c3
   replace hko : kidsOf c.toNat = none := hko
   refine q0 ?_
   refine lC (o_lds tK (fun j v hv => h6.cell j v hv) rfl rfl rfl rfl rfl rfl ?_)
   refine lC (o_st tK h4.box rfl rfl rfl rfl (by intro u hu; simp [Value.cells] at hu; rcases hu with rfl | rfl | rfl | rfl <;> rfl) rfl rfl ?_)
   intro w5 hw5 qw5 bew5
   have uw5 : UpdB _ _ _ := ⟨qw5, bew5⟩
   have sw5 := uw5.stp h4.inM hlow h4.ge
   have frw5 := qw5.2
   replace h6 := h6.stp sw5 (frw5 b6 h6.lt ne_h4_h6.symm)
   replace hE := hE.trans sw5.below
   replace hs := hs.stp sw5
   replace hsub := sw5.sb hsub
   replace hlow := sw5.low
   replace hB := sw5.z hB
   replace h4 : MB w.heap.size _ w5 b4 _ [.int .u8 c.toNat, .string ⟨#[]⟩, .int .i64 0, .slice none 0 0] := ⟨hw5, h4.inM, h4.ge⟩
   refine l_p 1 tK rfl (q1 (c_ret (x_seqR ?_)))
   refine x_ret2st tK (fun j v hv => h4.cell j v hv) rfl rfl rfl rfl rfl rfl ?_
   rw [dkE_no k c r hko]
   exact ⟨⟨_, .mk c.toNat ⟨#[]⟩ 0 [], rfl, ty_mk (by have := c.toNat_lt; omega) (by decide) ⟨by decide, by decide⟩ sl_nil, fun y q h => by cases h⟩, hE⟩
  obtain rfl : bk = true := by simpa using c3
  replace hko : kidsOf c.toNat = some ks := hko
  refine c_skip (x_seq ?_)
  refine c_cut2 (X := Nat) (Y := Int) (fun n a => [(0, v), (1, .int .i64 a), (4, .pointer (some ⟨b4, 0, none⟩)), (6, .pointer (some ⟨b6, 0, none⟩)), (7, .string ks)]) (fun n a w' => StA (dN (decide ((c.toNat : Int) = 7 ∨ (c.toNat : Int) = 10)) r) n (p + 1) l.length a ∧ n < 9223372036854775808 ∧ Sl (Rw.Add (Rw.Add M b4) b6) w' v l ∧ MB w.heap.size (Rw.Add (Rw.Add M b4) b6) w' b4 40 [.int .u8 0, .string ⟨#[]⟩, .int .i64 0, .slice none 0 0] ∧ MB w.heap.size (Rw.Add (Rw.Add M b4) b6) w' b6 40 [.int .u8 c.toNat, .string ⟨#[]⟩, .int .i64 (n : Int), .slice none 0 0] ∧ Low (Rw.Add (Rw.Add M b4) b6) w' ∧ Below w.heap.size w w' ∧ w.heap.size ≤ w'.heap.size) ?_ ?_
  ·refine q0 (l_p 1 tK rfl ?_)
   refine lC (o_ld tK (h6.cell 0 _ rfl) rfl rfl rfl rfl rfl ?_)
   refine l_p 2 tK rfl ?_
   refine l_splitP 42 _ rfl (fun c4 => ?_) (fun c4 => ?_)
   ·refine l_p 4 tK rfl (q1 (c_ifT rfl (q0 (l_p 2 tK rfl ?_))))
    refine lC (o_call fo74 rfl rfl rfl (takeNum_v l (p + 1) (by omega) _ _ _ hs) ?_)
    rintro _ _ ⟨rfl, rfl⟩
    rw [hdr]
    have hvn := valN_lt r
    refine l_p 5 tK rfl (q1 (q0 (l_p 1 tK rfl ?_)))
    refine lC (o_conv (y := ((valN (tkN r) : Nat) : Int)) tK rfl rfl rfl rfl rfl (IntWalk.i64_in _ (by omega)) rfl rfl ?_)
    refine l_p 1 tK rfl ?_
    refine lC (o_st tK h6.box rfl rfl rfl rfl (by intro u hu; simp [Value.cells] at hu; subst hu; rfl) rfl rfl ?_)
    intro w6 hw6 qw6 bew6
    have uw6 : UpdB _ _ _ := ⟨qw6, bew6⟩
    have sw6 := uw6.stp h6.inM hlow h6.ge
    have frw6 := qw6.2
    replace h4 := h4.stp sw6 (frw6 b4 h4.lt ne_h4_h6)
    replace hE := hE.trans sw6.below
    replace hs := hs.stp sw6
    replace hsub := sw6.sb hsub
    replace hlow := sw6.low
    replace hB := sw6.z hB
    replace h6 : MB w.heap.size _ w6 b6 _ [.int .u8 c.toNat, .string ⟨#[]⟩, .int .i64 ((valN (tkN r) : Nat) : Int), .slice none 0 0] := ⟨hw6, h6.inM, h6.ge⟩
    refine q1 (c_reg (l_p 2 tK rfl (l_nil ?_)))
    exact x_cut2 (valN (tkN r)) (posD (p + 1) (tkN r)) (s5 rfl rfl rfl rfl rfl) ⟨by rw [decide_eq_true (by omega)]; exact stA_N (by omega), hvn, hs, h4, h6, hlow, hE, hB⟩
   refine l_p 1 tK rfl ?_
   refine lC (o_ld tK (h6.cell 0 _ rfl) rfl rfl rfl rfl rfl ?_)
   refine l_p 2 tK rfl (q1 ?_)
   refine c_ifP _ rfl (fun c5 => ?_) (fun c5 => ?_)
   ·refine q0 (l_p 2 tK rfl ?_)
    refine lC (o_call fo74 rfl rfl rfl (takeNum_v l (p + 1) (by omega) _ _ _ hs) ?_)
    rintro _ _ ⟨rfl, rfl⟩
    rw [hdr]
    have hvn := valN_lt r
    refine l_p 5 tK rfl (q1 (q0 (l_p 1 tK rfl ?_)))
    refine lC (o_conv (y := ((valN (tkN r) : Nat) : Int)) tK rfl rfl rfl rfl rfl (IntWalk.i64_in _ (by omega)) rfl rfl ?_)
    refine l_p 1 tK rfl ?_
    refine lC (o_st tK h6.box rfl rfl rfl rfl (by intro u hu; simp [Value.cells] at hu; subst hu; rfl) rfl rfl ?_)
    intro w7 hw7 qw7 bew7
    have uw7 : UpdB _ _ _ := ⟨qw7, bew7⟩
    have sw7 := uw7.stp h6.inM hlow h6.ge
    have frw7 := qw7.2
    replace h4 := h4.stp sw7 (frw7 b4 h4.lt ne_h4_h6)
    replace hE := hE.trans sw7.below
    replace hs := hs.stp sw7
    replace hsub := sw7.sb hsub
    replace hlow := sw7.low
    replace hB := sw7.z hB
    replace h6 : MB w.heap.size _ w7 b6 _ [.int .u8 c.toNat, .string ⟨#[]⟩, .int .i64 ((valN (tkN r) : Nat) : Int), .slice none 0 0] := ⟨hw7, h6.inM, h6.ge⟩
    refine q1 (c_reg (l_p 2 tK rfl (l_nil ?_)))
    exact x_cut2 (valN (tkN r)) (posD (p + 1) (tkN r)) (s5 rfl rfl rfl rfl rfl) ⟨by rw [decide_eq_true (by omega)]; exact stA_N (by omega), hvn, hs, h4, h6, hlow, hE, hB⟩
   refine c_skip ?_
   exact x_cut2 (0) (((p + 1 : Nat) : Int)) (s5 rfl rfl rfl rfl rfl) ⟨by rw [decide_eq_false (by omega)]; exact .inr ⟨0, rfl, rfl, by omega⟩, (by decide), hs, h4, h6, hlow, hE, hB⟩
  clear hs h4 h6 hlow hE hB
  rintro n a w80 ⟨hst, hn, hs, h4, h6, hlow, hE, hB⟩
  refine c_cut3 (X := Nat) (Y := ByteArray) (Z := Int) (fun n nm a => [(0, v), (1, .int .i64 a), (4, .pointer (some ⟨b4, 0, none⟩)), (6, .pointer (some ⟨b6, 0, none⟩)), (7, .string ks)]) (fun n nm a w' => StA (dhead c.toNat r |>.map fun z => ((z.1, z.2.1), z.2.2)) ((n : Int), nm) (p + 1) l.length a ∧ n < 9223372036854775808 ∧ nm.size ≤ 1000000 ∧ Sl (Rw.Add (Rw.Add M b4) b6) w' v l ∧ MB w.heap.size (Rw.Add (Rw.Add M b4) b6) w' b4 40 [.int .u8 0, .string ⟨#[]⟩, .int .i64 0, .slice none 0 0] ∧ MB w.heap.size (Rw.Add (Rw.Add M b4) b6) w' b6 40 [.int .u8 c.toNat, .string nm, .int .i64 (n : Int), .slice none 0 0] ∧ Low (Rw.Add (Rw.Add M b4) b6) w' ∧ Below w.heap.size w w' ∧ w.heap.size ≤ w'.heap.size) ?_ ?_
  ·refine q0 (l_p 1 tK rfl ?_)
   refine lC (o_ld tK (h6.cell 0 _ rfl) rfl rfl rfl rfl rfl ?_)
   refine l_p 1 tK rfl (q1 ?_)
   refine c_ifP _ rfl (fun c6 => ?_) (fun c6 => ?_)
   ·refine c_reg (l_p 2 tK rfl ?_)
    have hc11 : (c.toNat : Int) = 11 := c6
    obtain ⟨rfl, rfl⟩ : n = 0 ∧ a = ((p + 1 : Nat) : Int) := by
     rcases hst with ⟨h1, _⟩ | ⟨q, h1, h2, _⟩
     ·rw [decide_eq_false (by omega)] at h1; cases h1
     ·rw [decide_eq_false (by omega)] at h1; cases h1; exact ⟨rfl, h2⟩
    refine lC (o_call fo32 rfl rfl rfl (takeText_v l (p + 1) (by omega) _ _ _ hs) ?_)
    rintro _ _ ⟨rfl, rfl⟩
    rw [hdr]
    have hvt := valT_le r
    refine l_p 4 tK rfl ?_
    refine lC (o_st tK h6.box rfl rfl rfl rfl (by intro u hu; simp [Value.cells] at hu; subst hu; rfl) rfl rfl ?_)
    intro w8 hw8 qw8 bew8
    have uw8 : UpdB _ _ _ := ⟨qw8, bew8⟩
    have sw8 := uw8.stp h6.inM hlow h6.ge
    have frw8 := qw8.2
    replace h4 := h4.stp sw8 (frw8 b4 h4.lt ne_h4_h6)
    replace hE := hE.trans sw8.below
    replace hs := hs.stp sw8
    replace hsub := sw8.sb hsub
    replace hlow := sw8.low
    replace hB := sw8.z hB
    replace h6 : MB w.heap.size _ w8 b6 _ [.int .u8 c.toNat, .string (valT (tkT r)), .int .i64 0, .slice none 0 0] := ⟨hw8, h6.inM, h6.ge⟩
    refine l_p 1 tK rfl (l_nil ?_)
    have hsh : StA (dhead c.toNat r |>.map fun z => ((z.1, z.2.1), z.2.2)) ((0 : Int), valT (tkT r)) (p + 1) l.length (posD (p + 1) (tkT r)) := by
     rw [dhead_text hc11]
     rcases stA_T (l := r) (show p + 1 + r.length ≤ l.length by omega) with ⟨h1, h2⟩ | ⟨q, h1, h2, h3⟩
     ·rw [h1]; exact .inl ⟨rfl, rfl⟩
     ·exact .inr ⟨q, by rw [h1]; rfl, h2, h3⟩
    exact x_cut3 (0) (valT (tkT r)) (posD (p + 1) (tkT r)) (s5 rfl rfl rfl rfl rfl) ⟨hsh, (by decide), (by omega), hs, h4, h6, hlow, hE, hB⟩
   refine c_skip ?_
   have hsh : StA (dhead c.toNat r |>.map fun z => ((z.1, z.2.1), z.2.2)) ((n : Int), ⟨#[]⟩) (p + 1) l.length a := by
    rw [dhead_other (by assumption)]
    rcases hst with ⟨h1, h2⟩ | ⟨q, h1, h2, h3⟩
    ·rw [h1]; exact .inl ⟨rfl, h2⟩
    ·rw [h1]; exact .inr ⟨q, rfl, h2, h3⟩
   exact x_cut3 (n) (⟨#[]⟩) (a) (s5 rfl rfl rfl rfl rfl) ⟨hsh, hn, (by show (0 : Nat) ≤ _; omega), hs, h4, h6, hlow, hE, hB⟩
  clear hs h4 h6 hlow hE hB hst hn n a
  rintro n nm a w81 ⟨hst, hn, hnm, hs, h4, h6, hlow, hE, hB⟩
  refine c_seq (q0 (l_p 1 tK rfl (q1 (c_blk ?_))))
  have d_ho_h4 : ∀ x, (.slice none 0 0 : Value).ownBlock = some x → x ≠ b4 := fun x hx => by simp [Value.ownBlock] at hx
  have d_ho_h6 : ∀ x, (.slice none 0 0 : Value).ownBlock = some x → x ≠ b6 := fun x hx => by simp [Value.ownBlock] at hx
  have hks : ks.size ≤ 2 := by have := kcnt_size hko; unfold kcnt at this; (repeat' split at this) <;> omega
  have hk0 : StK (dkE k) (dkE (k + 1) (c :: r)) (fun ks => Ty.mk c.toNat nm (n : Int) ks) ks.size 0 r [] (p + 1) l.length a := by
   rcases hst with ⟨h1, h2⟩ | ⟨q, h1, h2, h3⟩
   ·refine .inl ⟨?_, h2⟩
    rw [dkE_cons k c r hko]
    cases e : dhead c.toNat r with
    | none => rfl
    | some z => rw [e] at h1; cases h1
   ·refine .inr ⟨q, h2, h3, ?_⟩
    rw [dkE_cons k c r hko]
    cases e : dhead c.toNat r with
    | none => rw [e] at h1; cases h1
    | some z =>
     obtain ⟨n2, nm2, q2⟩ := z
     rw [e] at h1
     simp only [Option.map_some, Option.some.injEq, Prod.mk.injEq] at h1
     obtain ⟨⟨rfl, rfl⟩, rfl⟩ := h1
     simp only [Nat.sub_zero, List.nil_append]
     cases dkids (dkE k) ks.size (r.drop q2) <;> rfl
  refine c_loop5 (X := Nat) (Y := Int) (Z := List Ty) (U := Value) (V := Nat → Prop) (fun i a tl wv M1 => [(0, v), (1, .int .i64 a), (4, .pointer (some ⟨b4, 0, none⟩)), (6, .pointer (some ⟨b6, 0, none⟩)), (7, .string ks), (11, .int .i64 (i : Nat))]) (fun i a tl wv M1 w' => i ≤ ks.size ∧ StK (dkE k) (dkE (k + 1) (c :: r)) (fun ks => Ty.mk c.toNat nm (n : Int) ks) ks.size i r tl (p + 1) l.length a ∧ tl.length = i ∧ OwnSl 40 w.heap.size M1 w' wv tl ∧ Sl M1 w' v l ∧ MB w.heap.size M1 w' b4 40 [.int .u8 0, .string ⟨#[]⟩, .int .i64 0, .slice none 0 0] ∧ MB w.heap.size M1 w' b6 40 [.int .u8 c.toNat, .string nm, .int .i64 (n : Int), wv] ∧ (∀ x, (wv : Value).ownBlock = some x → x ≠ b4) ∧ (∀ x, (wv : Value).ownBlock = some x → x ≠ b6) ∧ Low M1 w' ∧ (∀ b, M b → M1 b) ∧ Below w.heap.size w w' ∧ w.heap.size ≤ w'.heap.size) (fun i a tl wv M1 => ks.size - i) (0) (a) ([]) (.slice none 0 0) ((Rw.Add (Rw.Add M b4) b6)) (s6 rfl rfl rfl rfl rfl rfl) ?_ ?_
  ·exact ⟨Nat.zero_le _, hk0, rfl, own_nil, hs, h4, h6, d_ho_h4, d_ho_h6, hlow, hsub, hE, hB⟩
  clear hs h4 h6 hlow hsub hE hB hst hk0 a d_ho_h4 d_ho_h6
  rintro i a tl wv M1 w9 ⟨hi, hst, htl, ho, hs, h4, h6, d_ho_h4, d_ho_h6, hlow, hsub, hE, hB⟩
  refine c_seq (q0 (l_p 5 tK rfl ?_))
  refine l_splitP 71 _ rfl (fun c7 => ?_) (fun c7 => ?_)
  ·refine l_p 3 tK rfl (q1 ?_)
   refine c_ifP _ rfl (fun c8 => ?_) (fun c8 => ?_)
   ·refine c_skip (x_seq (c_seq (c_blk (q0 (l_p 2 tK rfl ?_)))))
    obtain ⟨q, rfl, hql, hfull⟩ := hst.open (by omega)
    have hdq : l.drop (p + 1 + q) = r.drop q := by rw [← hdr, List.drop_drop]
    have hcl := ih l (p + 1 + q) _ _ _ (by omega) (by omega) hll hs hlow
    rw [hdq] at hcl
    refine lC (o_call fo80 rfl rfl rfl (hcl) ?_)
    rintro _ w10 ⟨⟨xk, tk, rfl, hx, hty⟩, ew10⟩
    replace ho := ho.ext hlow hB ew10
    replace h4 := h4.ext hlow hB ew10
    replace h6 := h6.ext hlow hB ew10
    replace hE := ew10.bl hE hB
    replace hs := hs.ext ew10
    replace hlow := hlow.ext ew10
    replace hB := ew10.z hB
    obtain ⟨kvk, rfl, opk, nmk, n64k, hkk⟩ := ty_open hx
    refine l_p 3 tK rfl ?_
    refine lC (o_new tK rfl rfl rfl ?_)
    intro b12 w11 qb12 ew11 hb12
    have nb12 := nM_of hlow qb12
    refine lC (o_st tK hb12 rfl rfl rfl rfl (Rep.one hx) rfl rfl ?_)
    intro w12 h12 uw12 bew12
    have ew12 : Ext w10 w12 := ew11.trans (bew12 _ (Nat.le_of_eq qb12.symm))
    replace ho := ho.ext hlow hB ew12
    replace h4 := h4.ext hlow hB ew12
    replace h6 := h6.ext hlow hB ew12
    replace hE := ew12.bl hE hB
    replace hs := hs.ext ew12
    replace hx := Rep.ext hx ew12
    replace hkk := hkk.ext ew12
    replace hlow := hlow.ext ew12
    replace hB := ew12.z hB
    replace h12 : Box w12 b12 40 [.int .u8 tk.op, .string tk.name, .int .i64 tk.n, kvk] := h12
    replace h12 := h12.at nb12
    refine l_p 1 tK rfl (q1 (q0 (l_p 1 tK rfl ?_)))
    refine lC (o_ld tK (h6.cell 3 _ rfl) rfl rfl rfl rfl rfl ?_)
    refine lC (o_lds tK (fun j v hv => h12.cell j v hv) rfl rfl rfl rfl rfl rfl ?_)
    refine lC (o_bs tK rfl rfl rfl rfl rfl rfl rfl (sz1 (Rep.size hx)) rfl rfl rfl ?_)
    intro bw13 w13 qbw13 ew13 hbw13
    have nbw13 := nM_of hlow qbw13
    replace ho := ho.ext hlow hB ew13
    replace h4 := h4.ext hlow hB ew13
    replace h6 := h6.ext hlow hB ew13
    replace hE := ew13.bl hE hB
    replace hs := hs.ext ew13
    replace hx := Rep.ext hx ew13
    replace hkk := hkk.ext ew13
    replace h12 := h12.ext ew13
    replace hlow := hlow.ext ew13
    replace hB := ew13.z hB
    refine lC (o_app1 tK ho hbw13 nbw13 hx hlow hB rfl rfl rfl rfl rfl rfl rfl (by omega) (by show (_ + _) * 56 ≤ _; omega) rfl rfl ?_)
    intro vw14 w14 Mw14 hw14 sw14 frw14 blw14
    have zd_ho_h4 := d_ho_h4
    replace d_ho_h4 : ∀ x, (vw14 : Value).ownBlock = some x → x ≠ b4 := fun x hx => (blw14 x hx).elim (d_ho_h4 x) (fun h e => by have := h4.lt; omega)
    have zd_ho_h6 := d_ho_h6
    replace d_ho_h6 : ∀ x, (vw14 : Value).ownBlock = some x → x ≠ b6 := fun x hx => (blw14 x hx).elim (d_ho_h6 x) (fun h e => by have := h6.lt; omega)
    replace h4 := h4.stp sw14 (frw14 b4 h4.lt (fun e => zd_ho_h4 _ e.symm rfl))
    replace h6 := h6.stp sw14 (frw14 b6 h6.lt (fun e => zd_ho_h6 _ e.symm rfl))
    replace hE := hE.trans sw14.below
    replace hs := hs.stp sw14
    replace hx := Rep.stp hx sw14
    replace hkk := hkk.stp sw14
    replace h12 := h12.stp sw14
    replace hsub := sw14.sb hsub
    replace hlow := sw14.low
    replace hB := sw14.z hB
    replace ho := hw14
    clear hw14
    refine l_p 1 tK rfl ?_
    obtain ⟨av6, cv6, rfl, _⟩ := ho.val
    refine lC (o_st tK h6.box rfl rfl rfl rfl (by intro u hu; simp [Value.cells] at hu; subst hu; rfl) rfl rfl ?_)
    intro w15 hw15 qw15 bew15
    have uw15 : UpdB _ _ _ := ⟨qw15, bew15⟩
    have sw15 := uw15.stp h6.inM hlow h6.ge
    have frw15 := qw15.2
    replace ho := ho.stp sw15 (fun x hx => frw15 x (ho.lt x hx).2 (d_ho_h6 x hx))
    replace h4 := h4.stp sw15 (frw15 b4 h4.lt ne_h4_h6)
    replace hE := hE.trans sw15.below
    replace hs := hs.stp sw15
    replace hx := Rep.stp hx sw15
    replace hkk := hkk.stp sw15
    replace h12 := h12.stp sw15
    replace hsub := sw15.sb hsub
    replace hlow := sw15.low
    replace hB := sw15.z hB
    replace h6 : MB w.heap.size _ w15 b6 _ [.int .u8 c.toNat, .string nm, .int .i64 (n : Int), (.slice av6 (tl ++ [tk]).length cv6)] := ⟨hw15, h6.inM, h6.ge⟩
    refine q1 (c_reg (l_p 2 tK rfl (q2 (x_seq (c_reg (l_p 1 tK rfl ?_))))))
    refine lC (o_ai rfl rfl rfl (by omega) rfl rfl ?_)
    refine l_p 1 tK rfl (l_nil ?_)
    exact x_round5 (i + 1) (posD (p + 1 + q) (dkE k (r.drop q))) (tl ++ [tk]) ((.slice av6 (tl ++ [tk]).length cv6)) (Mw14) (s6 rfl rfl rfl rfl rfl (get_num rfl (by omega))) ⟨by omega, StK.step hfull (by omega) (fun y q2 e => ⟨hty y q2 e, dkE_le (by rw [List.length_drop]; omega) e⟩) (by omega) (by omega), by simp [htl], ho, hs, h4, h6, d_ho_h4, d_ho_h6, hlow, hsub, hE, hB⟩ (by omega)
   refine c_exit (x_seqE (x_seqE (x_blkE (x_seq (q0 ?_)))))
   refine lC (o_lds tK (fun j v hv => h6.cell j v hv) rfl rfl rfl rfl rfl rfl ?_)
   refine l_p 1 tK rfl ?_
   obtain ⟨av, cv, rfl, _⟩ := ho.val
   refine lC (o_st tK h4.box rfl rfl rfl rfl (by intro u hu; simp [Value.cells] at hu; rcases hu with rfl | rfl | rfl | rfl <;> rfl) rfl rfl ?_)
   intro w16 hw16 qw16 bew16
   have uw16 : UpdB _ _ _ := ⟨qw16, bew16⟩
   have sw16 := uw16.stp h4.inM hlow h4.ge
   have frw16 := qw16.2
   replace ho := ho.stp sw16 (fun x hx => frw16 x (ho.lt x hx).2 (d_ho_h4 x hx))
   replace h6 := h6.stp sw16 (frw16 b6 h6.lt ne_h4_h6.symm)
   replace hE := hE.trans sw16.below
   replace hs := hs.stp sw16
   replace hsub := sw16.sb hsub
   replace hlow := sw16.low
   replace hB := sw16.z hB
   replace h4 : MB w.heap.size _ w16 b4 _ [.int .u8 c.toNat, .string nm, .int .i64 (n : Int), (.slice av tl.length cv)] := ⟨hw16, h4.inM, h4.ge⟩
   refine l_p 1 tK rfl (q1 (c_ret ?_))
   refine x_ret2st tK (fun j v hv => h4.cell j v hv) rfl rfl rfl rfl rfl rfl ?_
   have hsl2 := ho.sl (by omega) hlow0 hsub
   obtain ⟨hfa, hfy⟩ := hst.fin (p0 := p) (by omega) rfl
   exact ⟨⟨_, Ty.mk c.toNat nm n tl, congrArg (fun z => Value.tuple #[_, .int .i64 z]) hfa, ty_mk (by have := c.toNat_lt; omega) (by omega) (by unfold I64; omega) hsl2, hfy⟩, hE⟩
  refine l_p 3 tK rfl (q1 (c_ifF rfl (c_exit (x_seqE (x_seqE (x_blkE (x_seq (q0 ?_))))))))
  refine lC (o_lds tK (fun j v hv => h6.cell j v hv) rfl rfl rfl rfl rfl rfl ?_)
  refine l_p 1 tK rfl ?_
  obtain ⟨av, cv, rfl, _⟩ := ho.val
  refine lC (o_st tK h4.box rfl rfl rfl rfl (by intro u hu; simp [Value.cells] at hu; rcases hu with rfl | rfl | rfl | rfl <;> rfl) rfl rfl ?_)
  intro w17 hw17 qw17 bew17
  have uw17 : UpdB _ _ _ := ⟨qw17, bew17⟩
  have sw17 := uw17.stp h4.inM hlow h4.ge
  have frw17 := qw17.2
  replace ho := ho.stp sw17 (fun x hx => frw17 x (ho.lt x hx).2 (d_ho_h4 x hx))
  replace h6 := h6.stp sw17 (frw17 b6 h6.lt ne_h4_h6.symm)
  replace hE := hE.trans sw17.below
  replace hs := hs.stp sw17
  replace hsub := sw17.sb hsub
  replace hlow := sw17.low
  replace hB := sw17.z hB
  replace h4 : MB w.heap.size _ w17 b4 _ [.int .u8 c.toNat, .string nm, .int .i64 (n : Int), (.slice av tl.length cv)] := ⟨hw17, h4.inM, h4.ge⟩
  refine l_p 1 tK rfl (q1 (c_ret ?_))
  refine x_ret2st tK (fun j v hv => h4.cell j v hv) rfl rfl rfl rfl rfl rfl ?_
  have hsl2 := ho.sl (by omega) hlow0 hsub
  obtain ⟨hfa, hfy⟩ := hst.fin (p0 := p) (by omega) rfl
  exact ⟨⟨_, Ty.mk c.toNat nm n tl, congrArg (fun z => Value.tuple #[_, .int .i64 z]) hfa, ty_mk (by have := c.toNat_lt; omega) (by omega) (by unfold I64; omega) hsl2, hfy⟩, hE⟩
theorem takeTerm_spec : ∀ (k : Nat) (l : List UInt8) (p : Nat) (M : Nat → Prop) (w : World) (v : Value), p ≤ l.length → l.length - p < k → l.length ≤ 1000000 → Sl M w v l → Low M w →
  Calls Try.prog 79 #[v, .int .i64 (p : Int)] w (Ret fun r w' => (∃ x t, r = .tuple #[x, .int .i64 (posD p (dtE k (l.drop p)))] ∧ Rep.R M w' x t ∧ ∀ y q, dtE k (l.drop p) = some (y, q) → t = y) ∧ Ext w w') := by
 intro k
 induction k with
 | zero => intro l p M w v hp hk; exact absurd hk (Nat.not_lt_zero _)
 | succ k ih =>
  intro l p M w v hp hlk hll hs hlow0
  have hlow := hlow0
  have hB : w.heap.size ≤ w.heap.size := Nat.le_refl _
  have hE : Below w.heap.size w w := Below.refl _ _
  have hsub : ∀ b, M b → M b := fun _ h => h
  refine c_enter (n := 174) Try.func79 rfl rfl rfl ?_
  refine q0 ?_
  refine lC (o_new tK rfl rfl rfl ?_)
  intro b4 w1 qb4 ew1 hb4
  have sw1 := Stp.add ew1 hlow hB (Nat.le_of_eq qb4.symm) hb4.lt
  have h4 : MB w.heap.size (Rw.Add M b4) w1 b4 84 [.int .u8 0, .string ⟨#[]⟩, .string ⟨#[]⟩, .int .i64 0, .bool false, .int .u8 0, .string ⟨#[]⟩, .int .i64 0, .slice none 0 0, .slice none 0 0] := MB.mk' hb4 qb4 hB
  replace hE := hE.trans sw1.below
  replace hs := hs.stp sw1
  replace hsub := sw1.sb hsub
  replace hlow := sw1.low
  replace hB := sw1.z hB
  refine l_p 1 tK rfl (q1 (c_seq (q0 (l_p 3 tK rfl ?_))))
  refine l_splitP 17 _ rfl (fun c1 => ?_) (fun c1 => ?_)
  ·exact absurd c1 (by omega)
  refine l_p 2 tK rfl ?_
  refine lC (o_len tK hs rfl rfl rfl rfl rfl ?_)
  refine l_p 2 tK rfl (q1 ?_)
  refine c_ifP _ rfl (fun c2 => ?_) (fun c2 => ?_)
  ·refine q0 ?_
   refine lC (o_build (cells := [.int .u8 0, .string ⟨#[]⟩, .string ⟨#[]⟩, .int .i64 0, .bool false, .int .u8 0, .string ⟨#[]⟩, .int .i64 0, .slice none 0 0, .slice none 0 0]) (css := []) bd84 rfl rfl rfl rfl rfl ?_)
   refine lC (o_st tK h4.box rfl rfl rfl rfl (by intro u hu; simp [Value.cells] at hu; rcases hu with rfl | rfl | rfl | rfl | rfl | rfl | rfl | rfl | rfl | rfl <;> rfl) rfl rfl ?_)
   intro w2 hw2 qw2 bew2
   have uw2 : UpdB _ _ _ := ⟨qw2, bew2⟩
   have sw2 := uw2.stp h4.inM hlow h4.ge
   have frw2 := qw2.2
   replace hE := hE.trans sw2.below
   replace hs := hs.stp sw2
   replace hsub := sw2.sb hsub
   replace hlow := sw2.low
   replace hB := sw2.z hB
   replace h4 : MB w.heap.size _ w2 b4 _ [.int .u8 0, .string ⟨#[]⟩, .string ⟨#[]⟩, .int .i64 0, .bool false, .int .u8 0, .string ⟨#[]⟩, .int .i64 0, .slice none 0 0, .slice none 0 0] := ⟨hw2, h4.inM, h4.ge⟩
   refine l_p 1 tK rfl (q1 (c_ret (x_seqR ?_)))
   refine x_ret2st tK (fun j v hv => h4.cell j v hv) rfl rfl rfl rfl rfl rfl ?_
   have hnil : l.drop p = [] := List.drop_eq_nil_of_le (by omega)
   rw [hnil, dtE_nil]
   exact ⟨⟨_, .mk 0 ⟨#[]⟩ ⟨#[]⟩ 0 false (.mk 0 ⟨#[]⟩ 0 []) [], rfl, tm_mk (ann := .mk 0 ⟨#[]⟩ 0 []) (by omega) (by first | decide | omega) (by first | decide | omega) (by unfold I64; omega) (ty_mk (by decide) (by decide) ⟨by decide, by decide⟩ sl_nil) sl_nil, fun y q h => by cases h⟩, hE⟩
  obtain ⟨c, r, hcr⟩ : ∃ c r, l.drop p = c :: r := by
   cases h : l.drop p with
   | nil => have := congrArg List.length h; simp at this; omega
   | cons c r => exact ⟨c, r, rfl⟩
  obtain ⟨hgc, hdr, hrl⟩ := drop_open hcr
  have hps : (partsS c.toNat).size < 100 := partsS_size _
  have hc8 : c.toNat < 256 := c.toNat_lt
  rw [hcr]
  refine c_skip (x_seq (q0 (l_p 2 tK rfl ?_)))
  refine lC (o_ixS tK hs hgc rfl rfl rfl rfl rfl rfl rfl rfl rfl ?_)
  intro eb eo eu hr hat
  replace hr : eu = .int .u8 c.toNat := hr
  subst hr
  refine lC (o_ld tK (hat.cell 0 _ rfl) rfl rfl rfl rfl rfl ?_)
  refine lC (o_build (cells := [.int .u8 c.toNat, .string ⟨#[]⟩, .string ⟨#[]⟩, .int .i64 (0 : Int), .bool false, .int .u8 0, .string ⟨#[]⟩, .int .i64 0, .slice none 0 0, .slice none 0 0]) (css := [[.int .u8 c.toNat]]) bd84 rfl rfl rfl rfl rfl ?_)
  refine lC (o_new tK rfl rfl rfl ?_)
  intro b6 w3 qb6 ew3 hb6
  have ne_h4_h6 : b4 ≠ b6 := by have := h4.lt; omega
  have sw3 := Stp.add ew3 hlow hB (Nat.le_of_eq qb6.symm) hb6.lt
  have h6 : MB w.heap.size (Rw.Add (Rw.Add M b4) b6) w3 b6 84 [.int .u8 0, .string ⟨#[]⟩, .string ⟨#[]⟩, .int .i64 0, .bool false, .int .u8 0, .string ⟨#[]⟩, .int .i64 0, .slice none 0 0, .slice none 0 0] := MB.mk' hb6 qb6 hB
  replace h4 := h4.stp sw3 (ew3.block b4 h4.lt)
  replace hE := hE.trans sw3.below
  replace hs := hs.stp sw3
  replace hsub := sw3.sb hsub
  replace hlow := sw3.low
  replace hB := sw3.z hB
  refine lC (o_st tK h6.box rfl rfl rfl rfl (by intro u hu; simp [Value.cells] at hu; rcases hu with rfl | rfl | rfl | rfl | rfl | rfl | rfl | rfl | rfl | rfl <;> rfl) rfl rfl ?_)
  intro w4 hw4 qw4 bew4
  have uw4 : UpdB _ _ _ := ⟨qw4, bew4⟩
  have sw4 := uw4.stp h6.inM hlow h6.ge
  have frw4 := qw4.2
  replace h4 := h4.stp sw4 (frw4 b4 h4.lt ne_h4_h6)
  replace hE := hE.trans sw4.below
  replace hs := hs.stp sw4
  replace hsub := sw4.sb hsub
  replace hlow := sw4.low
  replace hB := sw4.z hB
  replace h6 : MB w.heap.size _ w4 b6 _ [.int .u8 c.toNat, .string ⟨#[]⟩, .string ⟨#[]⟩, .int .i64 (0 : Int), .bool false, .int .u8 0, .string ⟨#[]⟩, .int .i64 0, .slice none 0 0, .slice none 0 0] := ⟨hw4, h6.inM, h6.ge⟩
  refine q1 (q0 (l_p 1 tK rfl ?_))
  refine lC (o_ld tK (h6.cell 0 _ rfl) rfl rfl rfl rfl rfl ?_)
  refine lC (o_call fo84 rfl rfl rfl (partsS_spec c.toNat (by omega) _ _ hlow) ?_)
  rintro _ w5 ⟨rfl, ew5⟩
  replace h4 := h4.ext hlow hB ew5
  replace h6 := h6.ext hlow hB ew5
  replace hE := ew5.bl hE hB
  replace hs := hs.ext ew5
  replace hlow := hlow.ext ew5
  replace hB := ew5.z hB
  refine l_p 1 tK rfl (q1 (q0 (l_p 1 tK rfl ?_)))
  refine lC (o_ar rfl rfl rfl (z := ((p + 1 : Nat) : Int)) (by rw [IntWalk.i64_in _ (by omega)]; omega) rfl rfl ?_)
  refine l_p 1 tK rfl (q1 (c_seq (q0 (l_p 2 tK rfl (q1 ?_)))))
  refine c_ifP _ rfl (fun hpe => ?_) (fun hpe => ?_)
  ·refine q0 ?_
   refine lC (o_lds tK (fun j v hv => h6.cell j v hv) rfl rfl rfl rfl rfl rfl ?_)
   refine lC (o_st tK h4.box rfl rfl rfl rfl (by intro u hu; simp [Value.cells] at hu; rcases hu with rfl | rfl | rfl | rfl | rfl | rfl | rfl | rfl | rfl | rfl <;> rfl) rfl rfl ?_)
   intro w6 hw6 qw6 bew6
   have uw6 : UpdB _ _ _ := ⟨qw6, bew6⟩
   have sw6 := uw6.stp h4.inM hlow h4.ge
   have frw6 := qw6.2
   replace h6 := h6.stp sw6 (frw6 b6 h6.lt ne_h4_h6.symm)
   replace hE := hE.trans sw6.below
   replace hs := hs.stp sw6
   replace hsub := sw6.sb hsub
   replace hlow := sw6.low
   replace hB := sw6.z hB
   replace h4 : MB w.heap.size _ w6 b4 _ [.int .u8 c.toNat, .string ⟨#[]⟩, .string ⟨#[]⟩, .int .i64 (0 : Int), .bool false, .int .u8 0, .string ⟨#[]⟩, .int .i64 0, .slice none 0 0, .slice none 0 0] := ⟨hw6, h4.inM, h4.ge⟩
   refine l_p 1 tK rfl (q1 (c_ret (x_seqR ?_)))
   refine x_ret2st tK (fun j v hv => h4.cell j v hv) rfl rfl rfl rfl rfl rfl ?_
   rw [dtE_no k c r hpe]
   exact ⟨⟨_, .mk c.toNat ⟨#[]⟩ ⟨#[]⟩ 0 false (.mk 0 ⟨#[]⟩ 0 []) [], rfl, tm_mk (ann := .mk 0 ⟨#[]⟩ 0 []) (by omega) (by first | decide | omega) (by first | decide | omega) (by unfold I64; omega) (ty_mk (by decide) (by decide) ⟨by decide, by decide⟩ sl_nil) sl_nil, fun y q h => by cases h⟩, hE⟩
  refine c_skip (x_seq ?_)
  refine c_cut2 (X := ByteArray) (Y := Int) (fun x a => [(0, v), (1, .int .i64 a), (4, .pointer (some ⟨b4, 0, none⟩)), (6, .pointer (some ⟨b6, 0, none⟩)), (7, .string (partsS c.toNat))]) (fun x a w' => StA (d1 (partsS c.toNat) r) x (p + 1) l.length a ∧ (x.size ≤ 1000000) ∧ Sl (Rw.Add (Rw.Add M b4) b6) w' v l ∧ MB w.heap.size (Rw.Add (Rw.Add M b4) b6) w' b4 84 [.int .u8 0, .string ⟨#[]⟩, .string ⟨#[]⟩, .int .i64 0, .bool false, .int .u8 0, .string ⟨#[]⟩, .int .i64 0, .slice none 0 0, .slice none 0 0] ∧ MB w.heap.size (Rw.Add (Rw.Add M b4) b6) w' b6 84 [.int .u8 c.toNat, .string x, .string ⟨#[]⟩, .int .i64 (0 : Int), .bool false, .int .u8 0, .string ⟨#[]⟩, .int .i64 0, .slice none 0 0, .slice none 0 0] ∧ Low (Rw.Add (Rw.Add M b4) b6) w' ∧ Below w.heap.size w w' ∧ w.heap.size ≤ w'.heap.size) ?_ ?_
  ·refine q0 (l_p 1 tK rfl ?_)
   refine lC (o_call fo86 rfl rfl rfl (hasC_spec _ (by omega) 110 _) ?_)
   rintro _ _ ⟨rfl, rfl⟩
   refine l_p 1 tK rfl ?_
   refine l_split 39 _ rfl (fun c4 => ?_) (fun c4 => ?_)
   ·refine l_p 3 tK rfl (q1 (c_ifT rfl (c_reg (l_p 2 tK rfl ?_))))
    refine lC (o_call fo32 rfl rfl rfl (takeText_v l (p + 1) (by omega) _ _ _ hs) ?_)
    rintro _ _ ⟨rfl, rfl⟩
    rw [hdr]
    have hvt := valT_le r
    refine l_p 4 tK rfl ?_
    refine lC (o_st tK h6.box rfl rfl rfl rfl (by intro u hu; simp [Value.cells] at hu; subst hu; rfl) rfl rfl ?_)
    intro w7 hw7 qw7 bew7
    have uw7 : UpdB _ _ _ := ⟨qw7, bew7⟩
    have sw7 := uw7.stp h6.inM hlow h6.ge
    have frw7 := qw7.2
    replace h4 := h4.stp sw7 (frw7 b4 h4.lt ne_h4_h6)
    replace hE := hE.trans sw7.below
    replace hs := hs.stp sw7
    replace hsub := sw7.sb hsub
    replace hlow := sw7.low
    replace hB := sw7.z hB
    replace h6 : MB w.heap.size _ w7 b6 _ [.int .u8 c.toNat, .string (valT (tkT r)), .string ⟨#[]⟩, .int .i64 (0 : Int), .bool false, .int .u8 0, .string ⟨#[]⟩, .int .i64 0, .slice none 0 0, .slice none 0 0] := ⟨hw7, h6.inM, h6.ge⟩
    refine l_p 1 tK rfl (l_nil ?_)
    have hst1 : StA (d1 (partsS c.toNat) r) (valT (tkT r)) (p + 1) l.length (posD (p + 1) (tkT r)) := by
     have hb : (hasB (partsS c.toNat) 110 || hasB (partsS c.toNat) 111) = true := by simp_all
     unfold d1; rw [hb]
     exact stA_T (by omega)
    exact x_cut2 (valT (tkT r)) (posD (p + 1) (tkT r)) (s5 rfl rfl rfl rfl rfl) ⟨hst1, (show (valT (tkT r)).size ≤ 1000000 by omega), hs, h4, h6, hlow, hE, hB⟩
   refine l_p 1 tK rfl ?_
   refine lC (o_call fo86 rfl rfl rfl (hasC_spec _ (by omega) 111 _) ?_)
   rintro _ _ ⟨rfl, rfl⟩
   refine l_p 1 tK rfl (q1 ?_)
   refine c_if _ rfl (fun c5 => ?_) (fun c5 => ?_)
   ·refine c_reg (l_p 2 tK rfl ?_)
    refine lC (o_call fo32 rfl rfl rfl (takeText_v l (p + 1) (by omega) _ _ _ hs) ?_)
    rintro _ _ ⟨rfl, rfl⟩
    rw [hdr]
    have hvt := valT_le r
    refine l_p 4 tK rfl ?_
    refine lC (o_st tK h6.box rfl rfl rfl rfl (by intro u hu; simp [Value.cells] at hu; subst hu; rfl) rfl rfl ?_)
    intro w8 hw8 qw8 bew8
    have uw8 : UpdB _ _ _ := ⟨qw8, bew8⟩
    have sw8 := uw8.stp h6.inM hlow h6.ge
    have frw8 := qw8.2
    replace h4 := h4.stp sw8 (frw8 b4 h4.lt ne_h4_h6)
    replace hE := hE.trans sw8.below
    replace hs := hs.stp sw8
    replace hsub := sw8.sb hsub
    replace hlow := sw8.low
    replace hB := sw8.z hB
    replace h6 : MB w.heap.size _ w8 b6 _ [.int .u8 c.toNat, .string (valT (tkT r)), .string ⟨#[]⟩, .int .i64 (0 : Int), .bool false, .int .u8 0, .string ⟨#[]⟩, .int .i64 0, .slice none 0 0, .slice none 0 0] := ⟨hw8, h6.inM, h6.ge⟩
    refine l_p 1 tK rfl (l_nil ?_)
    have hst1 : StA (d1 (partsS c.toNat) r) (valT (tkT r)) (p + 1) l.length (posD (p + 1) (tkT r)) := by
     have hb : (hasB (partsS c.toNat) 110 || hasB (partsS c.toNat) 111) = true := by simp_all
     unfold d1; rw [hb]
     exact stA_T (by omega)
    exact x_cut2 (valT (tkT r)) (posD (p + 1) (tkT r)) (s5 rfl rfl rfl rfl rfl) ⟨hst1, (show (valT (tkT r)).size ≤ 1000000 by omega), hs, h4, h6, hlow, hE, hB⟩
   refine c_skip ?_
   have hst1 : StA (d1 (partsS c.toNat) r) (⟨#[]⟩) (p + 1) l.length (((p + 1 : Nat) : Int)) := by
    have hb : (hasB (partsS c.toNat) 110 || hasB (partsS c.toNat) 111) = false := by simp_all
    unfold d1; rw [hb]
    exact .inr ⟨0, rfl, rfl, by omega⟩
   exact x_cut2 (⟨#[]⟩) (((p + 1 : Nat) : Int)) (s5 rfl rfl rfl rfl rfl) ⟨hst1, (show (0 : Nat) ≤ 1000000 by decide), hs, h4, h6, hlow, hE, hB⟩
  clear hs h4 h6 hlow hE hB
  rintro x a w81 ⟨hst, hx, hs, h4, h6, hlow, hE, hB⟩
  refine c_cut2 (X := ByteArray × ByteArray) (Y := Int) (fun x a => [(0, v), (1, .int .i64 a), (4, .pointer (some ⟨b4, 0, none⟩)), (6, .pointer (some ⟨b6, 0, none⟩)), (7, .string (partsS c.toNat))]) (fun x a w' => StA (d2 (partsS c.toNat) r) x (p + 1) l.length a ∧ (x.1.size ≤ 1000000 ∧ x.2.size ≤ 1000000) ∧ Sl (Rw.Add (Rw.Add M b4) b6) w' v l ∧ MB w.heap.size (Rw.Add (Rw.Add M b4) b6) w' b4 84 [.int .u8 0, .string ⟨#[]⟩, .string ⟨#[]⟩, .int .i64 0, .bool false, .int .u8 0, .string ⟨#[]⟩, .int .i64 0, .slice none 0 0, .slice none 0 0] ∧ MB w.heap.size (Rw.Add (Rw.Add M b4) b6) w' b6 84 [.int .u8 c.toNat, .string x.1, .string x.2, .int .i64 (0 : Int), .bool false, .int .u8 0, .string ⟨#[]⟩, .int .i64 0, .slice none 0 0, .slice none 0 0] ∧ Low (Rw.Add (Rw.Add M b4) b6) w' ∧ Below w.heap.size w w' ∧ w.heap.size ≤ w'.heap.size) ?_ ?_
  ·refine q0 (l_p 1 tK rfl ?_)
   refine lC (o_call fo86 rfl rfl rfl (hasC_spec _ (by omega) 97 _) ?_)
   rintro _ _ ⟨rfl, rfl⟩
   refine l_p 1 tK rfl ?_
   refine l_split 52 _ rfl (fun c6 => ?_) (fun c6 => ?_)
   ·refine l_p 3 tK rfl (q1 ?_)
    refine c_ifP _ rfl (fun c7 => ?_) (fun c7 => ?_)
    ·refine c_reg (l_p 2 tK rfl ?_)
     obtain ⟨q, hdq, rfl, hql⟩ := hst.open (by omega)
     have hdd : l.drop (p + 1 + q) = r.drop q := by rw [← hdr, List.drop_drop]
     refine lC (o_call fo32 rfl rfl rfl (takeText_v l (p + 1 + q) hql _ _ _ hs) ?_)
     rintro _ _ ⟨rfl, rfl⟩
     rw [hdd]
     have hvt := valT_le (r.drop q)
     rw [List.length_drop] at hvt
     refine l_p 4 tK rfl ?_
     refine lC (o_st tK h6.box rfl rfl rfl rfl (by intro u hu; simp [Value.cells] at hu; subst hu; rfl) rfl rfl ?_)
     intro w9 hw9 qw9 bew9
     have uw9 : UpdB _ _ _ := ⟨qw9, bew9⟩
     have sw9 := uw9.stp h6.inM hlow h6.ge
     have frw9 := qw9.2
     replace h4 := h4.stp sw9 (frw9 b4 h4.lt ne_h4_h6)
     replace hE := hE.trans sw9.below
     replace hs := hs.stp sw9
     replace hsub := sw9.sb hsub
     replace hlow := sw9.low
     replace hB := sw9.z hB
     replace h6 : MB w.heap.size _ w9 b6 _ [.int .u8 c.toNat, .string x, .string (valT (tkT (r.drop q))), .int .i64 (0 : Int), .bool false, .int .u8 0, .string ⟨#[]⟩, .int .i64 0, .slice none 0 0, .slice none 0 0] := ⟨hw9, h6.inM, h6.ge⟩
     refine l_p 1 tK rfl (l_nil ?_)
     have hee : StA (dT (hasB (partsS c.toNat) 97) (r.drop q)) (valT (tkT (r.drop q))) (p + 1 + q) l.length (posD (p + 1 + q) (tkT (r.drop q))) := by
      have hb : (hasB (partsS c.toNat) 97) = true := by simp_all
      rw [hb]
      exact stA_T (by rw [List.length_drop]; omega)
     have hst1 : StA (d2 (partsS c.toNat) r) (x, valT (tkT (r.drop q))) (p + 1) l.length (posD (p + 1 + q) (tkT (r.drop q))) := by
      rw [d2_eq]
      exact StA.next (e := (fun _ => dT (hasB (partsS c.toNat) 97))) (mk := (fun x y => (x, y))) hdq hee
     exact x_cut2 ((x, valT (tkT (r.drop q)))) (posD (p + 1 + q) (tkT (r.drop q))) (s5 rfl rfl rfl rfl rfl) ⟨hst1, ⟨hx, (show (valT (tkT (r.drop q))).size ≤ 1000000 by omega)⟩, hs, h4, h6, hlow, hE, hB⟩
    refine c_skip ?_
    have hst1 : StA (d2 (partsS c.toNat) r) (x, ⟨#[]⟩) (p + 1) l.length a := by
     rw [d2_eq]
     by_cases ha0 : 0 ≤ a
     ·obtain ⟨q, hdq, rfl, hql⟩ := hst.open ha0
      refine StA.next (e := (fun _ => dT (hasB (partsS c.toNat) 97))) (mk := (fun x y => (x, y))) hdq ?_
      have hb : (hasB (partsS c.toNat) 97) = false := by first | (exfalso; omega) | simp_all
      show StA (dT (hasB (partsS c.toNat) 97) (r.drop q)) _ _ _ _
      unfold dT; rw [hb]
      exact .inr ⟨0, rfl, rfl, by omega⟩
     ·exact hst.dead ha0 _
    exact x_cut2 ((x, ⟨#[]⟩)) (a) (s5 rfl rfl rfl rfl rfl) ⟨hst1, ⟨hx, (show (0 : Nat) ≤ 1000000 by decide)⟩, hs, h4, h6, hlow, hE, hB⟩
   refine l_p 3 tK rfl (q1 (c_ifF rfl (c_skip ?_)))
   have hst1 : StA (d2 (partsS c.toNat) r) (x, ⟨#[]⟩) (p + 1) l.length a := by
    rw [d2_eq]
    by_cases ha0 : 0 ≤ a
    ·obtain ⟨q, hdq, rfl, hql⟩ := hst.open ha0
     refine StA.next (e := (fun _ => dT (hasB (partsS c.toNat) 97))) (mk := (fun x y => (x, y))) hdq ?_
     have hb : (hasB (partsS c.toNat) 97) = false := by first | (exfalso; omega) | simp_all
     show StA (dT (hasB (partsS c.toNat) 97) (r.drop q)) _ _ _ _
     unfold dT; rw [hb]
     exact .inr ⟨0, rfl, rfl, by omega⟩
    ·exact hst.dead ha0 _
   exact x_cut2 ((x, ⟨#[]⟩)) (a) (s5 rfl rfl rfl rfl rfl) ⟨hst1, ⟨hx, (show (0 : Nat) ≤ 1000000 by decide)⟩, hs, h4, h6, hlow, hE, hB⟩
  clear hs h4 h6 hlow hE hB hst hx
  rintro x a w82 ⟨hst, hx, hs, h4, h6, hlow, hE, hB⟩
  refine c_cut2 (X := ByteArray × ByteArray × Nat) (Y := Int) (fun x a => [(0, v), (1, .int .i64 a), (4, .pointer (some ⟨b4, 0, none⟩)), (6, .pointer (some ⟨b6, 0, none⟩)), (7, .string (partsS c.toNat))]) (fun x a w' => StA (d3 (partsS c.toNat) r) x (p + 1) l.length a ∧ (x.1.size ≤ 1000000 ∧ x.2.1.size ≤ 1000000 ∧ x.2.2 < 9223372036854775808) ∧ Sl (Rw.Add (Rw.Add M b4) b6) w' v l ∧ MB w.heap.size (Rw.Add (Rw.Add M b4) b6) w' b4 84 [.int .u8 0, .string ⟨#[]⟩, .string ⟨#[]⟩, .int .i64 0, .bool false, .int .u8 0, .string ⟨#[]⟩, .int .i64 0, .slice none 0 0, .slice none 0 0] ∧ MB w.heap.size (Rw.Add (Rw.Add M b4) b6) w' b6 84 [.int .u8 c.toNat, .string x.1, .string x.2.1, .int .i64 (x.2.2 : Int), .bool false, .int .u8 0, .string ⟨#[]⟩, .int .i64 0, .slice none 0 0, .slice none 0 0] ∧ Low (Rw.Add (Rw.Add M b4) b6) w' ∧ Below w.heap.size w w' ∧ w.heap.size ≤ w'.heap.size) ?_ ?_
  ·refine q0 (l_p 1 tK rfl ?_)
   refine lC (o_call fo86 rfl rfl rfl (hasC_spec _ (by omega) 105 _) ?_)
   rintro _ _ ⟨rfl, rfl⟩
   refine l_p 1 tK rfl ?_
   refine l_split 65 _ rfl (fun c8 => ?_) (fun c8 => ?_)
   ·refine l_p 7 tK rfl (q1 ?_)
    refine c_ifP _ rfl (fun c9 => ?_) (fun c9 => ?_)
    ·refine q0 (l_p 2 tK rfl ?_)
     obtain ⟨q, hdq, rfl, hql⟩ := hst.open (by omega)
     have hdd : l.drop (p + 1 + q) = r.drop q := by rw [← hdr, List.drop_drop]
     refine lC (o_call fo74 rfl rfl rfl (takeNum_v l (p + 1 + q) hql _ _ _ hs) ?_)
     rintro _ _ ⟨rfl, rfl⟩
     rw [hdd]
     have hvn := valN_lt (r.drop q)
     refine l_p 5 tK rfl (q1 (q0 (l_p 1 tK rfl ?_)))
     refine lC (o_conv (y := ((valN (tkN (r.drop q)) : Nat) : Int)) tK rfl rfl rfl rfl rfl (IntWalk.i64_in _ (by omega)) rfl rfl ?_)
     refine l_p 1 tK rfl ?_
     refine lC (o_st tK h6.box rfl rfl rfl rfl (by intro u hu; simp [Value.cells] at hu; subst hu; rfl) rfl rfl ?_)
     intro w10 hw10 qw10 bew10
     have uw10 : UpdB _ _ _ := ⟨qw10, bew10⟩
     have sw10 := uw10.stp h6.inM hlow h6.ge
     have frw10 := qw10.2
     replace h4 := h4.stp sw10 (frw10 b4 h4.lt ne_h4_h6)
     replace hE := hE.trans sw10.below
     replace hs := hs.stp sw10
     replace hsub := sw10.sb hsub
     replace hlow := sw10.low
     replace hB := sw10.z hB
     replace h6 : MB w.heap.size _ w10 b6 _ [.int .u8 c.toNat, .string x.1, .string x.2, .int .i64 ((valN (tkN (r.drop q)) : Nat) : Int), .bool false, .int .u8 0, .string ⟨#[]⟩, .int .i64 0, .slice none 0 0, .slice none 0 0] := ⟨hw10, h6.inM, h6.ge⟩
     refine q1 (c_reg (l_p 2 tK rfl (l_nil ?_)))
     have hee : StA (dN (hasB (partsS c.toNat) 105 || hasB (partsS c.toNat) 98) (r.drop q)) (valN (tkN (r.drop q))) (p + 1 + q) l.length (posD (p + 1 + q) (tkN (r.drop q))) := by
      have hb : (hasB (partsS c.toNat) 105 || hasB (partsS c.toNat) 98) = true := by simp_all
      rw [hb]
      exact stA_N (by rw [List.length_drop]; omega)
     have hst1 : StA (d3 (partsS c.toNat) r) (x.1, x.2, valN (tkN (r.drop q))) (p + 1) l.length (posD (p + 1 + q) (tkN (r.drop q))) := by
      rw [d3_eq]
      exact StA.next (e := (fun _ => dN (hasB (partsS c.toNat) 105 || hasB (partsS c.toNat) 98))) (mk := (fun x y => (x.1, x.2, y))) hdq hee
     exact x_cut2 ((x.1, x.2, valN (tkN (r.drop q)))) (posD (p + 1 + q) (tkN (r.drop q))) (s5 rfl rfl rfl rfl rfl) ⟨hst1, ⟨hx.1, hx.2, hvn⟩, hs, h4, h6, hlow, hE, hB⟩
    refine c_skip ?_
    have hst1 : StA (d3 (partsS c.toNat) r) (x.1, x.2, 0) (p + 1) l.length a := by
     rw [d3_eq]
     by_cases ha0 : 0 ≤ a
     ·obtain ⟨q, hdq, rfl, hql⟩ := hst.open ha0
      refine StA.next (e := (fun _ => dN (hasB (partsS c.toNat) 105 || hasB (partsS c.toNat) 98))) (mk := (fun x y => (x.1, x.2, y))) hdq ?_
      have hb : (hasB (partsS c.toNat) 105 || hasB (partsS c.toNat) 98) = false := by first | (exfalso; omega) | simp_all
      show StA (dN (hasB (partsS c.toNat) 105 || hasB (partsS c.toNat) 98) (r.drop q)) _ _ _ _
      unfold dN; rw [hb]
      exact .inr ⟨0, rfl, rfl, by omega⟩
     ·exact hst.dead ha0 _
    exact x_cut2 ((x.1, x.2, 0)) (a) (s5 rfl rfl rfl rfl rfl) ⟨hst1, ⟨hx.1, hx.2, (show (0 : Nat) < 9223372036854775808 by decide)⟩, hs, h4, h6, hlow, hE, hB⟩
   refine l_p 1 tK rfl ?_
   refine lC (o_call fo86 rfl rfl rfl (hasC_spec _ (by omega) 98 _) ?_)
   rintro _ _ ⟨rfl, rfl⟩
   refine l_p 2 tK rfl ?_
   refine l_split 69 _ rfl (fun c10 => ?_) (fun c10 => ?_)
   ·refine l_p 3 tK rfl (q1 ?_)
    refine c_ifP _ rfl (fun c11 => ?_) (fun c11 => ?_)
    ·refine q0 (l_p 2 tK rfl ?_)
     obtain ⟨q, hdq, rfl, hql⟩ := hst.open (by omega)
     have hdd : l.drop (p + 1 + q) = r.drop q := by rw [← hdr, List.drop_drop]
     refine lC (o_call fo74 rfl rfl rfl (takeNum_v l (p + 1 + q) hql _ _ _ hs) ?_)
     rintro _ _ ⟨rfl, rfl⟩
     rw [hdd]
     have hvn := valN_lt (r.drop q)
     refine l_p 5 tK rfl (q1 (q0 (l_p 1 tK rfl ?_)))
     refine lC (o_conv (y := ((valN (tkN (r.drop q)) : Nat) : Int)) tK rfl rfl rfl rfl rfl (IntWalk.i64_in _ (by omega)) rfl rfl ?_)
     refine l_p 1 tK rfl ?_
     refine lC (o_st tK h6.box rfl rfl rfl rfl (by intro u hu; simp [Value.cells] at hu; subst hu; rfl) rfl rfl ?_)
     intro w11 hw11 qw11 bew11
     have uw11 : UpdB _ _ _ := ⟨qw11, bew11⟩
     have sw11 := uw11.stp h6.inM hlow h6.ge
     have frw11 := qw11.2
     replace h4 := h4.stp sw11 (frw11 b4 h4.lt ne_h4_h6)
     replace hE := hE.trans sw11.below
     replace hs := hs.stp sw11
     replace hsub := sw11.sb hsub
     replace hlow := sw11.low
     replace hB := sw11.z hB
     replace h6 : MB w.heap.size _ w11 b6 _ [.int .u8 c.toNat, .string x.1, .string x.2, .int .i64 ((valN (tkN (r.drop q)) : Nat) : Int), .bool false, .int .u8 0, .string ⟨#[]⟩, .int .i64 0, .slice none 0 0, .slice none 0 0] := ⟨hw11, h6.inM, h6.ge⟩
     refine q1 (c_reg (l_p 2 tK rfl (l_nil ?_)))
     have hee : StA (dN (hasB (partsS c.toNat) 105 || hasB (partsS c.toNat) 98) (r.drop q)) (valN (tkN (r.drop q))) (p + 1 + q) l.length (posD (p + 1 + q) (tkN (r.drop q))) := by
      have hb : (hasB (partsS c.toNat) 105 || hasB (partsS c.toNat) 98) = true := by simp_all
      rw [hb]
      exact stA_N (by rw [List.length_drop]; omega)
     have hst1 : StA (d3 (partsS c.toNat) r) (x.1, x.2, valN (tkN (r.drop q))) (p + 1) l.length (posD (p + 1 + q) (tkN (r.drop q))) := by
      rw [d3_eq]
      exact StA.next (e := (fun _ => dN (hasB (partsS c.toNat) 105 || hasB (partsS c.toNat) 98))) (mk := (fun x y => (x.1, x.2, y))) hdq hee
     exact x_cut2 ((x.1, x.2, valN (tkN (r.drop q)))) (posD (p + 1 + q) (tkN (r.drop q))) (s5 rfl rfl rfl rfl rfl) ⟨hst1, ⟨hx.1, hx.2, hvn⟩, hs, h4, h6, hlow, hE, hB⟩
    refine c_skip ?_
    have hst1 : StA (d3 (partsS c.toNat) r) (x.1, x.2, 0) (p + 1) l.length a := by
     rw [d3_eq]
     by_cases ha0 : 0 ≤ a
     ·obtain ⟨q, hdq, rfl, hql⟩ := hst.open ha0
      refine StA.next (e := (fun _ => dN (hasB (partsS c.toNat) 105 || hasB (partsS c.toNat) 98))) (mk := (fun x y => (x.1, x.2, y))) hdq ?_
      have hb : (hasB (partsS c.toNat) 105 || hasB (partsS c.toNat) 98) = false := by first | (exfalso; omega) | simp_all
      show StA (dN (hasB (partsS c.toNat) 105 || hasB (partsS c.toNat) 98) (r.drop q)) _ _ _ _
      unfold dN; rw [hb]
      exact .inr ⟨0, rfl, rfl, by omega⟩
     ·exact hst.dead ha0 _
    exact x_cut2 ((x.1, x.2, 0)) (a) (s5 rfl rfl rfl rfl rfl) ⟨hst1, ⟨hx.1, hx.2, (show (0 : Nat) < 9223372036854775808 by decide)⟩, hs, h4, h6, hlow, hE, hB⟩
   refine l_p 3 tK rfl (q1 (c_ifF rfl (c_skip ?_)))
   have hst1 : StA (d3 (partsS c.toNat) r) (x.1, x.2, 0) (p + 1) l.length a := by
    rw [d3_eq]
    by_cases ha0 : 0 ≤ a
    ·obtain ⟨q, hdq, rfl, hql⟩ := hst.open ha0
     refine StA.next (e := (fun _ => dN (hasB (partsS c.toNat) 105 || hasB (partsS c.toNat) 98))) (mk := (fun x y => (x.1, x.2, y))) hdq ?_
     have hb : (hasB (partsS c.toNat) 105 || hasB (partsS c.toNat) 98) = false := by first | (exfalso; omega) | simp_all
     show StA (dN (hasB (partsS c.toNat) 105 || hasB (partsS c.toNat) 98) (r.drop q)) _ _ _ _
     unfold dN; rw [hb]
     exact .inr ⟨0, rfl, rfl, by omega⟩
    ·exact hst.dead ha0 _
   exact x_cut2 ((x.1, x.2, 0)) (a) (s5 rfl rfl rfl rfl rfl) ⟨hst1, ⟨hx.1, hx.2, (show (0 : Nat) < 9223372036854775808 by decide)⟩, hs, h4, h6, hlow, hE, hB⟩
  clear hs h4 h6 hlow hE hB hst hx
  rintro x a w83 ⟨hst, hx, hs, h4, h6, hlow, hE, hB⟩
  refine q0 (l_p 1 tK rfl ?_)
  refine lC (o_call fo86 rfl rfl rfl (hasC_spec _ (by omega) 84 _) ?_)
  rintro _ _ ⟨rfl, rfl⟩
  refine l_p 1 tK rfl ?_
  refine lC (o_st tK h6.box rfl rfl rfl rfl (by intro u hu; simp [Value.cells] at hu; subst hu; rfl) rfl rfl ?_)
  intro w12 hw12 qw12 bew12
  have uw12 : UpdB _ _ _ := ⟨qw12, bew12⟩
  have sw12 := uw12.stp h6.inM hlow h6.ge
  have frw12 := qw12.2
  replace h4 := h4.stp sw12 (frw12 b4 h4.lt ne_h4_h6)
  replace hE := hE.trans sw12.below
  replace hs := hs.stp sw12
  replace hsub := sw12.sb hsub
  replace hlow := sw12.low
  replace hB := sw12.z hB
  replace h6 : MB w.heap.size _ w12 b6 _ [.int .u8 c.toNat, .string x.1, .string x.2.1, .int .i64 (x.2.2 : Int), .bool (hasB (partsS c.toNat) 84), .int .u8 0, .string ⟨#[]⟩, .int .i64 0, .slice none 0 0, .slice none 0 0] := ⟨hw12, h6.inM, h6.ge⟩
  refine q1 ?_
  refine c_cut2 (X := ByteArray × ByteArray × Nat × Bool) (Y := Int) (fun x a => [(0, v), (1, .int .i64 a), (4, .pointer (some ⟨b4, 0, none⟩)), (6, .pointer (some ⟨b6, 0, none⟩)), (7, .string (partsS c.toNat))]) (fun x a w' => StA (d4 (partsS c.toNat) r) x (p + 1) l.length a ∧ (x.1.size ≤ 1000000 ∧ x.2.1.size ≤ 1000000 ∧ x.2.2.1 < 9223372036854775808) ∧ Sl (Rw.Add (Rw.Add M b4) b6) w' v l ∧ MB w.heap.size (Rw.Add (Rw.Add M b4) b6) w' b4 84 [.int .u8 0, .string ⟨#[]⟩, .string ⟨#[]⟩, .int .i64 0, .bool false, .int .u8 0, .string ⟨#[]⟩, .int .i64 0, .slice none 0 0, .slice none 0 0] ∧ MB w.heap.size (Rw.Add (Rw.Add M b4) b6) w' b6 84 [.int .u8 c.toNat, .string x.1, .string x.2.1, .int .i64 (x.2.2.1 : Int), .bool x.2.2.2, .int .u8 0, .string ⟨#[]⟩, .int .i64 0, .slice none 0 0, .slice none 0 0] ∧ Low (Rw.Add (Rw.Add M b4) b6) w' ∧ Below w.heap.size w w' ∧ w.heap.size ≤ w'.heap.size) ?_ ?_
  ·refine q0 (l_p 1 tK rfl ?_)
   refine lC (o_call fo86 rfl rfl rfl (hasC_spec _ (by omega) 116 _) ?_)
   rintro _ _ ⟨rfl, rfl⟩
   refine l_p 1 tK rfl ?_
   refine l_split 88 _ rfl (fun c12 => ?_) (fun c12 => ?_)
   ·refine l_p 3 tK rfl (q1 ?_)
    refine c_ifP _ rfl (fun c13 => ?_) (fun c13 => ?_)
    ·refine c_seq (q0 (l_p 2 tK rfl ?_))
     refine lC (o_len tK hs rfl rfl rfl rfl rfl ?_)
     refine l_p 2 tK rfl ?_
     refine l_splitP 96 _ rfl (fun c14 => ?_) (fun c14 => ?_)
     ·refine l_p 6 tK rfl (q1 (c_ifT rfl (q0 ?_)))
      refine lC (o_lds tK (fun j v hv => h6.cell j v hv) rfl rfl rfl rfl rfl rfl ?_)
      refine lC (o_st tK h4.box rfl rfl rfl rfl (by intro u hu; simp [Value.cells] at hu; rcases hu with rfl | rfl | rfl | rfl | rfl | rfl | rfl | rfl | rfl | rfl <;> rfl) rfl rfl ?_)
      intro w13 hw13 qw13 bew13
      have uw13 : UpdB _ _ _ := ⟨qw13, bew13⟩
      have sw13 := uw13.stp h4.inM hlow h4.ge
      have frw13 := qw13.2
      replace h6 := h6.stp sw13 (frw13 b6 h6.lt ne_h4_h6.symm)
      replace hE := hE.trans sw13.below
      replace hs := hs.stp sw13
      replace hsub := sw13.sb hsub
      replace hlow := sw13.low
      replace hB := sw13.z hB
      replace h4 : MB w.heap.size _ w13 b4 _ [.int .u8 c.toNat, .string x.1, .string x.2.1, .int .i64 (x.2.2 : Int), .bool (hasB (partsS c.toNat) 84), .int .u8 0, .string ⟨#[]⟩, .int .i64 0, .slice none 0 0, .slice none 0 0] := ⟨hw13, h4.inM, h4.ge⟩
      refine l_p 1 tK rfl (q1 (c_ret (x_seqR (x_seqR ?_))))
      refine x_ret2st tK (fun j v hv => h4.cell j v hv) rfl rfl rfl rfl rfl rfl ?_
      have h4n : d4 (partsS c.toNat) r = none := by
       have hb : (hasB (partsS c.toNat) 116) = true := by simp_all
       rw [d4_eq]
       obtain ⟨q, hdq, rfl, hql⟩ := hst.open (by omega)
       have hnil : r.drop q = [] := List.drop_eq_nil_of_le (by omega)
       refine bindD_none hdq ?_
       show dH _ _ _ = none
       unfold dH; rw [hb]
       rw [hnil]; rfl
      rw [dtE_none hpe (d4_none h4n)]
      exact ⟨⟨_, .mk c.toNat x.1 x.2.1 x.2.2 (hasB (partsS c.toNat) 84) (.mk 0 ⟨#[]⟩ 0 []) [], rfl, tm_mk (ann := .mk 0 ⟨#[]⟩ 0 []) (by omega) (by first | decide | omega) (by first | decide | omega) (by unfold I64; omega) (ty_mk (by decide) (by decide) ⟨by decide, by decide⟩ sl_nil) sl_nil, fun y q h => by cases h⟩, hE⟩
     refine l_p 2 tK rfl ?_
     obtain ⟨q, hdq, rfl, hql⟩ := hst.open (by omega)
     obtain ⟨e, r2, hrd⟩ : ∃ e r2, r.drop q = e :: r2 := by
      cases h : r.drop q with
      | nil => have := congrArg List.length h; simp at this; omega
      | cons e r2 => exact ⟨e, r2, rfl⟩
     have hge : l[p + 1 + q]? = some e := by
      have := (drop_open (l := l) (p := p + 1 + q) (show l.drop (p + 1 + q) = e :: r2 by rw [← hrd, ← hdr, List.drop_drop])).1
      exact this
     refine lC (o_ixS tK hs hge rfl rfl rfl rfl rfl rfl rfl rfl rfl ?_)
     intro ebz15 eoz15 euz15 hrz15 hatz15
     replace hrz15 : euz15 = .int .u8 e.toNat := hrz15
     subst hrz15
     refine lC (o_ld tK (hatz15.cell 0 _ rfl) rfl rfl rfl rfl rfl ?_)
     refine l_p 2 tK rfl (q1 ?_)
     refine c_ifP _ rfl (fun c16 => ?_) (fun c16 => ?_)
     ·refine q0 ?_
      refine lC (o_lds tK (fun j v hv => h6.cell j v hv) rfl rfl rfl rfl rfl rfl ?_)
      refine lC (o_st tK h4.box rfl rfl rfl rfl (by intro u hu; simp [Value.cells] at hu; rcases hu with rfl | rfl | rfl | rfl | rfl | rfl | rfl | rfl | rfl | rfl <;> rfl) rfl rfl ?_)
      intro w14 hw14 qw14 bew14
      have uw14 : UpdB _ _ _ := ⟨qw14, bew14⟩
      have sw14 := uw14.stp h4.inM hlow h4.ge
      have frw14 := qw14.2
      replace h6 := h6.stp sw14 (frw14 b6 h6.lt ne_h4_h6.symm)
      replace hE := hE.trans sw14.below
      replace hs := hs.stp sw14
      replace hsub := sw14.sb hsub
      replace hlow := sw14.low
      replace hB := sw14.z hB
      replace h4 : MB w.heap.size _ w14 b4 _ [.int .u8 c.toNat, .string x.1, .string x.2.1, .int .i64 (x.2.2 : Int), .bool (hasB (partsS c.toNat) 84), .int .u8 0, .string ⟨#[]⟩, .int .i64 0, .slice none 0 0, .slice none 0 0] := ⟨hw14, h4.inM, h4.ge⟩
      refine l_p 1 tK rfl (q1 (c_ret (x_seqR (x_seqR ?_))))
      refine x_ret2st tK (fun j v hv => h4.cell j v hv) rfl rfl rfl rfl rfl rfl ?_
      have h4n : d4 (partsS c.toNat) r = none := by
       have hb : (hasB (partsS c.toNat) 116) = true := by simp_all
       rw [d4_eq]
       skip
       refine bindD_none hdq ?_
       show dH _ _ _ = none
       unfold dH; rw [hb]
       rw [hrd]; simp only [cond_true]; rw [if_pos (by omega)]
      rw [dtE_none hpe (d4_none h4n)]
      exact ⟨⟨_, .mk c.toNat x.1 x.2.1 x.2.2 (hasB (partsS c.toNat) 84) (.mk 0 ⟨#[]⟩ 0 []) [], rfl, tm_mk (ann := .mk 0 ⟨#[]⟩ 0 []) (by omega) (by first | decide | omega) (by first | decide | omega) (by unfold I64; omega) (ty_mk (by decide) (by decide) ⟨by decide, by decide⟩ sl_nil) sl_nil, fun y q h => by cases h⟩, hE⟩
     refine c_skip (x_seq (q0 (l_p 2 tK rfl ?_)))
     refine lC (o_ixS tK hs hge rfl rfl rfl rfl rfl rfl rfl rfl rfl ?_)
     intro ebz17 eoz17 euz17 hrz17 hatz17
     replace hrz17 : euz17 = .int .u8 e.toNat := hrz17
     subst hrz17
     refine lC (o_ld tK (hatz17.cell 0 _ rfl) rfl rfl rfl rfl rfl ?_)
     refine l_p 2 tK rfl ?_
     refine lC (o_st tK h6.box rfl rfl rfl rfl (by intro u hu; simp [Value.cells] at hu; subst hu; rfl) rfl rfl ?_)
     intro w15 hw15 qw15 bew15
     have uw15 : UpdB _ _ _ := ⟨qw15, bew15⟩
     have sw15 := uw15.stp h6.inM hlow h6.ge
     have frw15 := qw15.2
     replace h4 := h4.stp sw15 (frw15 b4 h4.lt ne_h4_h6)
     replace hE := hE.trans sw15.below
     replace hs := hs.stp sw15
     replace hsub := sw15.sb hsub
     replace hlow := sw15.low
     replace hB := sw15.z hB
     replace h6 : MB w.heap.size _ w15 b6 _ [.int .u8 c.toNat, .string x.1, .string x.2.1, .int .i64 (x.2.2 : Int), .bool (decide ((e.toNat : Int) = 1)), .int .u8 0, .string ⟨#[]⟩, .int .i64 0, .slice none 0 0, .slice none 0 0] := ⟨hw15, h6.inM, h6.ge⟩
     refine q1 (c_reg (l_p 1 tK rfl ?_))
     refine lC (o_ai rfl rfl rfl (by omega) rfl rfl ?_)
     refine l_p 1 tK rfl (l_nil ?_)
     have hee : StA (dH (hasB (partsS c.toNat) 116) (hasB (partsS c.toNat) 84) (r.drop q)) (decide ((e.toNat : Int) = 1)) (p + 1 + q) l.length (((p + 1 + q + 1 : Nat) : Int)) := by
      have hb : (hasB (partsS c.toNat) 116) = true := by simp_all
      rw [hb, hrd]
      unfold dH
      simp only [cond_true]
      rw [if_neg (by omega)]
      exact .inr ⟨1, by rw [u8_one], rfl, by have := congrArg List.length hrd; rw [List.length_drop, List.length_cons] at this; omega⟩
     have hst1 : StA (d4 (partsS c.toNat) r) (x.1, x.2.1, x.2.2, decide ((e.toNat : Int) = 1)) (p + 1) l.length (((p + 1 + q + 1 : Nat) : Int)) := by
      rw [d4_eq]
      exact StA.next (e := (fun _ => dH (hasB (partsS c.toNat) 116) (hasB (partsS c.toNat) 84))) (mk := (fun x y => (x.1, x.2.1, x.2.2, y))) hdq hee
     exact x_cut2 ((x.1, x.2.1, x.2.2, decide ((e.toNat : Int) = 1))) (((p + 1 + q + 1 : Nat) : Int)) (s5 rfl rfl rfl rfl rfl) ⟨hst1, ⟨hx.1, hx.2.1, hx.2.2⟩, hs, h4, h6, hlow, hE, hB⟩
    refine c_skip ?_
    have hst1 : StA (d4 (partsS c.toNat) r) (x.1, x.2.1, x.2.2, hasB (partsS c.toNat) 84) (p + 1) l.length a := by
     rw [d4_eq]
     by_cases ha0 : 0 ≤ a
     ·obtain ⟨q, hdq, rfl, hql⟩ := hst.open ha0
      refine StA.next (e := (fun _ => dH (hasB (partsS c.toNat) 116) (hasB (partsS c.toNat) 84))) (mk := (fun x y => (x.1, x.2.1, x.2.2, y))) hdq ?_
      have hb : (hasB (partsS c.toNat) 116) = false := by first | (exfalso; omega) | simp_all
      show StA (dH (hasB (partsS c.toNat) 116) (hasB (partsS c.toNat) 84) (r.drop q)) _ _ _ _
      unfold dH; rw [hb]
      exact .inr ⟨0, rfl, rfl, by omega⟩
     ·exact hst.dead ha0 _
    exact x_cut2 ((x.1, x.2.1, x.2.2, hasB (partsS c.toNat) 84)) (a) (s5 rfl rfl rfl rfl rfl) ⟨hst1, ⟨hx.1, hx.2.1, hx.2.2⟩, hs, h4, h6, hlow, hE, hB⟩
   refine l_p 3 tK rfl (q1 (c_ifF rfl (c_skip ?_)))
   have hst1 : StA (d4 (partsS c.toNat) r) (x.1, x.2.1, x.2.2, hasB (partsS c.toNat) 84) (p + 1) l.length a := by
    rw [d4_eq]
    by_cases ha0 : 0 ≤ a
    ·obtain ⟨q, hdq, rfl, hql⟩ := hst.open ha0
     refine StA.next (e := (fun _ => dH (hasB (partsS c.toNat) 116) (hasB (partsS c.toNat) 84))) (mk := (fun x y => (x.1, x.2.1, x.2.2, y))) hdq ?_
     have hb : (hasB (partsS c.toNat) 116) = false := by first | (exfalso; omega) | simp_all
     show StA (dH (hasB (partsS c.toNat) 116) (hasB (partsS c.toNat) 84) (r.drop q)) _ _ _ _
     unfold dH; rw [hb]
     exact .inr ⟨0, rfl, rfl, by omega⟩
    ·exact hst.dead ha0 _
   exact x_cut2 ((x.1, x.2.1, x.2.2, hasB (partsS c.toNat) 84)) (a) (s5 rfl rfl rfl rfl rfl) ⟨hst1, ⟨hx.1, hx.2.1, hx.2.2⟩, hs, h4, h6, hlow, hE, hB⟩
  clear hs h4 h6 hlow hE hB hst hx
  rintro x a w84 ⟨hst, hx, hs, h4, h6, hlow, hE, hB⟩
  refine c_cut3 (X := ByteArray × ByteArray × Nat × Bool × Ty) (Y := Int) (Z := Value) (fun x a akv => [(0, v), (1, .int .i64 a), (4, .pointer (some ⟨b4, 0, none⟩)), (6, .pointer (some ⟨b6, 0, none⟩)), (7, .string (partsS c.toNat))]) (fun x a akv w' => StA (d5 (partsS c.toNat) r) x (p + 1) l.length a ∧ (x.1.size ≤ 1000000 ∧ x.2.1.size ≤ 1000000 ∧ x.2.2.1 < 9223372036854775808) ∧ Sl (Rw.Add (Rw.Add M b4) b6) w' v l ∧ MB w.heap.size (Rw.Add (Rw.Add M b4) b6) w' b4 84 [.int .u8 0, .string ⟨#[]⟩, .string ⟨#[]⟩, .int .i64 0, .bool false, .int .u8 0, .string ⟨#[]⟩, .int .i64 0, .slice none 0 0, .slice none 0 0] ∧ MB w.heap.size (Rw.Add (Rw.Add M b4) b6) w' b6 84 [.int .u8 c.toNat, .string x.1, .string x.2.1, .int .i64 (x.2.2.1 : Int), .bool x.2.2.2.1, .int .u8 x.2.2.2.2.op, .string x.2.2.2.2.name, .int .i64 x.2.2.2.2.n, akv, .slice none 0 0] ∧ Low (Rw.Add (Rw.Add M b4) b6) w' ∧ Below w.heap.size w w' ∧ w.heap.size ≤ w'.heap.size ∧ Rep.R (Rw.Add (Rw.Add M b4) b6) w' (.agg #[.int .u8 x.2.2.2.2.op, .string x.2.2.2.2.name, .int .i64 x.2.2.2.2.n, akv]) x.2.2.2.2) ?_ ?_
  ·refine q0 (l_p 1 tK rfl ?_)
   refine lC (o_ld tK (h6.cell 4 _ rfl) rfl rfl rfl rfl rfl ?_)
   refine l_p 1 tK rfl ?_
   refine l_split 114 _ rfl (fun c18 => ?_) (fun c18 => ?_)
   ·refine l_p 3 tK rfl (q1 ?_)
    refine c_ifP _ rfl (fun c19 => ?_) (fun c19 => ?_)
    ·refine c_reg (l_p 2 tK rfl ?_)
     obtain ⟨q, hdq, rfl, hql⟩ := hst.open (by omega)
     have hdd : l.drop (p + 1 + q) = r.drop q := by rw [← hdr, List.drop_drop]
     have hcl := takeType_spec ((r.drop q).length + 1) l (p + 1 + q) _ _ _ hql (by rw [List.length_drop]; omega) hll hs hlow
     rw [hdd] at hcl
     refine lC (o_call fo80 rfl rfl rfl (hcl) ?_)
     rintro _ w16 ⟨⟨xk, ta, rfl, ha, hty⟩, ew16⟩
     replace h4 := h4.ext hlow hB ew16
     replace h6 := h6.ext hlow hB ew16
     replace hE := ew16.bl hE hB
     replace hs := hs.ext ew16
     replace hlow := hlow.ext ew16
     replace hB := ew16.z hB
     obtain ⟨kva, rfl, opa, nma, n64a, hka⟩ := ty_open ha
     refine l_p 4 tK rfl ?_
     refine lC (o_st tK h6.box rfl rfl rfl rfl (Rep.one ha) rfl rfl ?_)
     intro w17 hw17 qw17 bew17
     have uw17 : UpdB _ _ _ := ⟨qw17, bew17⟩
     have sw17 := uw17.stp h6.inM hlow h6.ge
     have frw17 := qw17.2
     replace h4 := h4.stp sw17 (frw17 b4 h4.lt ne_h4_h6)
     replace hE := hE.trans sw17.below
     replace hs := hs.stp sw17
     replace ha := Rep.stp ha sw17
     replace hka := hka.stp sw17
     replace hsub := sw17.sb hsub
     replace hlow := sw17.low
     replace hB := sw17.z hB
     replace h6 : MB w.heap.size _ w17 b6 _ [.int .u8 c.toNat, .string x.1, .string x.2.1, .int .i64 (x.2.2.1 : Int), .bool x.2.2.2, .int .u8 ta.op, .string ta.name, .int .i64 ta.n, kva, .slice none 0 0] := ⟨hw17, h6.inM, h6.ge⟩
     refine l_p 1 tK rfl (l_nil ?_)
     have hee : StA (dA x.2.2.2 (r.drop q)) (ta) (p + 1 + q) l.length (posD (p + 1 + q) (dkE ((r.drop q).length + 1) (r.drop q))) := by
      have hb : x.2.2.2 = true := by simp_all
      unfold dA; rw [hb]
      exact posD_kidK (Nat.lt_succ_self _) (by omega) (by omega) (fun y q2 e => hty y q2 e)
     have hst1 : StA (d5 (partsS c.toNat) r) (x.1, x.2.1, x.2.2.1, x.2.2.2, ta) (p + 1) l.length (posD (p + 1 + q) (dkE ((r.drop q).length + 1) (r.drop q))) := by
      rw [d5_eq]
      exact StA.next (e := (fun x => dA x.2.2.2)) (mk := (fun x y => (x.1, x.2.1, x.2.2.1, x.2.2.2, y))) hdq hee
     exact x_cut3 ((x.1, x.2.1, x.2.2.1, x.2.2.2, ta)) (posD (p + 1 + q) (dkE ((r.drop q).length + 1) (r.drop q))) (kva) (s5 rfl rfl rfl rfl rfl) ⟨hst1, ⟨hx.1, hx.2.1, hx.2.2⟩, hs, h4, h6, hlow, hE, hB, ha⟩
    refine c_skip ?_
    have hst1 : StA (d5 (partsS c.toNat) r) (x.1, x.2.1, x.2.2.1, x.2.2.2, (Ty.mk 0 ⟨#[]⟩ 0 [])) (p + 1) l.length a := by
     rw [d5_eq]
     by_cases ha0 : 0 ≤ a
     ·obtain ⟨q, hdq, rfl, hql⟩ := hst.open ha0
      refine StA.next (e := (fun x => dA x.2.2.2)) (mk := (fun x y => (x.1, x.2.1, x.2.2.1, x.2.2.2, y))) hdq ?_
      have hb : x.2.2.2 = false := by first | (exfalso; omega) | simp_all
      show StA (dA x.2.2.2 (r.drop q)) _ _ _ _
      unfold dA; rw [hb]
      exact .inr ⟨0, rfl, rfl, by omega⟩
     ·exact hst.dead ha0 _
    have ha : Rep.R (Rw.Add (Rw.Add M b4) b6) w84 (.agg #[.int .u8 0, .string ⟨#[]⟩, .int .i64 0, .slice none 0 0]) (Ty.mk 0 ⟨#[]⟩ 0 []) := ty_mk (by decide) (by decide) ⟨by decide, by decide⟩ sl_nil
    exact x_cut3 ((x.1, x.2.1, x.2.2.1, x.2.2.2, (Ty.mk 0 ⟨#[]⟩ 0 []))) (a) (.slice none 0 0) (s5 rfl rfl rfl rfl rfl) ⟨hst1, ⟨hx.1, hx.2.1, hx.2.2⟩, hs, h4, h6, hlow, hE, hB, ha⟩
   refine l_p 3 tK rfl (q1 (c_ifF rfl (c_skip ?_)))
   have hst1 : StA (d5 (partsS c.toNat) r) (x.1, x.2.1, x.2.2.1, x.2.2.2, (Ty.mk 0 ⟨#[]⟩ 0 [])) (p + 1) l.length a := by
    rw [d5_eq]
    by_cases ha0 : 0 ≤ a
    ·obtain ⟨q, hdq, rfl, hql⟩ := hst.open ha0
     refine StA.next (e := (fun x => dA x.2.2.2)) (mk := (fun x y => (x.1, x.2.1, x.2.2.1, x.2.2.2, y))) hdq ?_
     have hb : x.2.2.2 = false := by first | (exfalso; omega) | simp_all
     show StA (dA x.2.2.2 (r.drop q)) _ _ _ _
     unfold dA; rw [hb]
     exact .inr ⟨0, rfl, rfl, by omega⟩
    ·exact hst.dead ha0 _
   have ha : Rep.R (Rw.Add (Rw.Add M b4) b6) w84 (.agg #[.int .u8 0, .string ⟨#[]⟩, .int .i64 0, .slice none 0 0]) (Ty.mk 0 ⟨#[]⟩ 0 []) := ty_mk (by decide) (by decide) ⟨by decide, by decide⟩ sl_nil
   exact x_cut3 ((x.1, x.2.1, x.2.2.1, x.2.2.2, (Ty.mk 0 ⟨#[]⟩ 0 []))) (a) (.slice none 0 0) (s5 rfl rfl rfl rfl rfl) ⟨hst1, ⟨hx.1, hx.2.1, hx.2.2⟩, hs, h4, h6, hlow, hE, hB, ha⟩
  clear hs h4 h6 hlow hE hB hst hx
  rintro x a akv w85 ⟨hst, hx, hs, h4, h6, hlow, hE, hB, ha⟩
  refine q0 (l_p 1 tK rfl (q1 ?_))
  refine c_cut (X := Unit) (fun _u => [(0, v), (1, .int .i64 a), (4, .pointer (some ⟨b4, 0, none⟩)), (6, .pointer (some ⟨b6, 0, none⟩)), (7, .string (partsS c.toNat)), (10, .int .u64 (countE (partsS c.toNat) : Nat))]) (fun _u w' => Sl (Rw.Add (Rw.Add M b4) b6) w' v l ∧ MB w.heap.size (Rw.Add (Rw.Add M b4) b6) w' b4 84 [.int .u8 0, .string ⟨#[]⟩, .string ⟨#[]⟩, .int .i64 0, .bool false, .int .u8 0, .string ⟨#[]⟩, .int .i64 0, .slice none 0 0, .slice none 0 0] ∧ MB w.heap.size (Rw.Add (Rw.Add M b4) b6) w' b6 84 [.int .u8 c.toNat, .string x.1, .string x.2.1, .int .i64 (x.2.2.1 : Int), .bool x.2.2.2.1, .int .u8 x.2.2.2.2.op, .string x.2.2.2.2.name, .int .i64 x.2.2.2.2.n, akv, .slice none 0 0] ∧ Low (Rw.Add (Rw.Add M b4) b6) w' ∧ Below w.heap.size w w' ∧ w.heap.size ≤ w'.heap.size ∧ Rep.R (Rw.Add (Rw.Add M b4) b6) w' (.agg #[.int .u8 x.2.2.2.2.op, .string x.2.2.2.2.name, .int .i64 x.2.2.2.2.n, akv]) x.2.2.2.2) ?_ ?_
  ·refine q0 (l_p 1 tK rfl (q1 (c_blk ?_)))
   refine c_loop (X := Nat) (fun i => [(0, v), (1, .int .i64 a), (4, .pointer (some ⟨b4, 0, none⟩)), (6, .pointer (some ⟨b6, 0, none⟩)), (7, .string (partsS c.toNat)), (10, .int .u64 (countTo (partsS c.toNat) i : Nat)), (11, .int .i64 (i : Nat))]) (fun i w' => i ≤ (partsS c.toNat).size ∧ Sl (Rw.Add (Rw.Add M b4) b6) w' v l ∧ MB w.heap.size (Rw.Add (Rw.Add M b4) b6) w' b4 84 [.int .u8 0, .string ⟨#[]⟩, .string ⟨#[]⟩, .int .i64 0, .bool false, .int .u8 0, .string ⟨#[]⟩, .int .i64 0, .slice none 0 0, .slice none 0 0] ∧ MB w.heap.size (Rw.Add (Rw.Add M b4) b6) w' b6 84 [.int .u8 c.toNat, .string x.1, .string x.2.1, .int .i64 (x.2.2.1 : Int), .bool x.2.2.2.1, .int .u8 x.2.2.2.2.op, .string x.2.2.2.2.name, .int .i64 x.2.2.2.2.n, akv, .slice none 0 0] ∧ Low (Rw.Add (Rw.Add M b4) b6) w' ∧ Below w.heap.size w w' ∧ w.heap.size ≤ w'.heap.size ∧ Rep.R (Rw.Add (Rw.Add M b4) b6) w' (.agg #[.int .u8 x.2.2.2.2.op, .string x.2.2.2.2.name, .int .i64 x.2.2.2.2.n, akv]) x.2.2.2.2) (fun i => (partsS c.toNat).size - i) (0) (s7 rfl rfl rfl rfl rfl rfl rfl) ?_ ?_
   ·exact ⟨Nat.zero_le _, hs, h4, h6, hlow, hE, hB, ha⟩
   clear hs h4 h6 hlow hE hB ha
   rintro i w18 ⟨hi, hs, h4, h6, hlow, hE, hB, ha⟩
   have hct := countTo_le (partsS c.toNat) i
   refine c_seq (q0 (l_p 4 tK rfl (q1 ?_)))
   refine c_ifP _ rfl (fun c20 => ?_) (fun c20 => ?_)
   ·refine c_skip (x_seq (c_seq (c_blk (q0 (l_p 2 tK rfl ?_)))))
    have his : i < (partsS c.toNat).size := by omega
    obtain ⟨ch, hd⟩ : ∃ ch, (partsS c.toNat).data[i]? = some ch := ⟨_, Array.getElem?_eq_getElem (show i < (partsS c.toNat).data.size from his)⟩
    refine lC (o_si tK rfl rfl rfl rfl rfl hd rfl rfl ?_)
    refine l_p 1 tK rfl (q1 ?_)
    refine c_ifP _ rfl (fun c21 => ?_) (fun c21 => ?_)
    ·refine c_reg (l_p 1 tK rfl ?_)
     refine lC (o_ar rfl rfl rfl (IntWalk.u64_in _ (by omega)) rfl rfl ?_)
     refine l_p 1 tK rfl (q2 (x_seq (c_reg (l_p 1 tK rfl ?_))))
     refine lC (o_ai rfl rfl rfl (by omega) rfl rfl ?_)
     refine l_p 1 tK rfl (l_nil ?_)
     exact x_round (i + 1) (s7 rfl rfl rfl rfl rfl (get_num rfl (by rw [countTo_step hd, if_pos (UInt8.toNat_inj.1 (show ch.toNat = 101 by omega))]; omega)) (get_num rfl (by omega))) ⟨by omega, hs, h4, h6, hlow, hE, hB, ha⟩ (by omega)
    refine c_skip (x_blk (x_seq (c_reg (l_p 1 tK rfl ?_))))
    refine lC (o_ai rfl rfl rfl (by omega) rfl rfl ?_)
    refine l_p 1 tK rfl (l_nil ?_)
    exact x_round (i + 1) (s7 rfl rfl rfl rfl rfl (get_num rfl (by rw [countTo_step hd, if_neg (fun e : ch = 101 => c21 (by rw [e]; rfl))]; omega)) (get_num rfl (by omega))) ⟨by omega, hs, h4, h6, hlow, hE, hB, ha⟩ (by omega)
   refine c_exit (x_seqE (x_seqE (x_blkE ?_)))
   exact x_cut (()) (s6 rfl rfl rfl rfl rfl (get_num rfl (by rw [countTo_all (s := (partsS c.toNat)) (i := i) (by omega)]))) ⟨hs, h4, h6, hlow, hE, hB, ha⟩
  clear hs h4 h6 hlow hE hB ha
  rintro _ w89 ⟨hs, h4, h6, hlow, hE, hB, ha⟩
  refine c_cut3 (X := ByteArray × ByteArray × Nat × Bool × Ty × Nat) (Y := Int) (Z := Value) (fun x a akv => [(0, v), (1, .int .i64 a), (4, .pointer (some ⟨b4, 0, none⟩)), (6, .pointer (some ⟨b6, 0, none⟩)), (7, .string (partsS c.toNat)), (10, .int .u64 (x.2.2.2.2.2 : Int))]) (fun x a akv w' => StA (d6 c.toNat (partsS c.toNat) r) x (p + 1) l.length a ∧ (x.1.size ≤ 1000000 ∧ x.2.1.size ≤ 1000000 ∧ x.2.2.1 < 9223372036854775808) ∧ Sl (Rw.Add (Rw.Add M b4) b6) w' v l ∧ MB w.heap.size (Rw.Add (Rw.Add M b4) b6) w' b4 84 [.int .u8 0, .string ⟨#[]⟩, .string ⟨#[]⟩, .int .i64 0, .bool false, .int .u8 0, .string ⟨#[]⟩, .int .i64 0, .slice none 0 0, .slice none 0 0] ∧ MB w.heap.size (Rw.Add (Rw.Add M b4) b6) w' b6 84 [.int .u8 c.toNat, .string x.1, .string x.2.1, .int .i64 (x.2.2.1 : Int), .bool x.2.2.2.1, .int .u8 x.2.2.2.2.1.op, .string x.2.2.2.2.1.name, .int .i64 x.2.2.2.2.1.n, akv, .slice none 0 0] ∧ Low (Rw.Add (Rw.Add M b4) b6) w' ∧ Below w.heap.size w w' ∧ w.heap.size ≤ w'.heap.size ∧ Rep.R (Rw.Add (Rw.Add M b4) b6) w' (.agg #[.int .u8 x.2.2.2.2.1.op, .string x.2.2.2.2.1.name, .int .i64 x.2.2.2.2.1.n, akv]) x.2.2.2.2.1) ?_ ?_
  ·refine q0 (l_p 1 tK rfl ?_)
   refine lC (o_ld tK (h6.cell 0 _ rfl) rfl rfl rfl rfl rfl ?_)
   refine l_p 2 tK rfl ?_
   refine l_splitP 140 _ rfl (fun c22 => ?_) (fun c22 => ?_)
   ·refine l_p 3 tK rfl (q1 ?_)
    refine c_ifP _ rfl (fun c23 => ?_) (fun c23 => ?_)
    ·refine c_reg (l_p 2 tK rfl ?_)
     obtain ⟨q, hdq, rfl, hql⟩ := hst.open (by omega)
     have hdd : l.drop (p + 1 + q) = r.drop q := by rw [← hdr, List.drop_drop]
     refine lC (o_call fo74 rfl rfl rfl (takeNum_v l (p + 1 + q) hql _ _ _ hs) ?_)
     rintro _ _ ⟨rfl, rfl⟩
     rw [hdd]
     have hvn := valN_lt (r.drop q)
     refine l_p 5 tK rfl (l_nil ?_)
     have hee : StA (dC (decide ((c.toNat : Int) = 48)) (countE (partsS c.toNat)) (r.drop q)) (valN (tkN (r.drop q))) (p + 1 + q) l.length (posD (p + 1 + q) (tkN (r.drop q))) := by
      unfold dC; rw [decide_eq_true (by assumption)]
      exact stA_N (by rw [List.length_drop]; omega)
     have hst1 : StA (d6 c.toNat (partsS c.toNat) r) (x.1, x.2.1, x.2.2.1, x.2.2.2.1, x.2.2.2.2, valN (tkN (r.drop q))) (p + 1) l.length (posD (p + 1 + q) (tkN (r.drop q))) := by
      rw [d6_eq]
      exact StA.next (e := (fun _ => dC (decide ((c.toNat : Int) = 48)) (countE (partsS c.toNat)))) (mk := (fun x y => (x.1, x.2.1, x.2.2.1, x.2.2.2.1, x.2.2.2.2, y))) hdq hee
     exact x_cut3 ((x.1, x.2.1, x.2.2.1, x.2.2.2.1, x.2.2.2.2, valN (tkN (r.drop q)))) (posD (p + 1 + q) (tkN (r.drop q))) (akv) (s6 rfl rfl rfl rfl rfl (get_num rfl rfl)) ⟨hst1, ⟨hx.1, hx.2.1, hx.2.2⟩, hs, h4, h6, hlow, hE, hB, ha⟩
    refine c_skip ?_
    have hst1 : StA (d6 c.toNat (partsS c.toNat) r) (x.1, x.2.1, x.2.2.1, x.2.2.2.1, x.2.2.2.2, countE (partsS c.toNat)) (p + 1) l.length a := by
     rw [d6_eq]
     by_cases ha0 : 0 ≤ a
     ·obtain ⟨q, hdq, rfl, hql⟩ := hst.open ha0
      refine StA.next (e := (fun _ => dC (decide ((c.toNat : Int) = 48)) (countE (partsS c.toNat)))) (mk := (fun x y => (x.1, x.2.1, x.2.2.1, x.2.2.2.1, x.2.2.2.2, y))) hdq ?_
      have hb : decide ((c.toNat : Int) = 48) = false := by first | (exfalso; omega) | simp_all
      show StA (dC (decide ((c.toNat : Int) = 48)) (countE (partsS c.toNat)) (r.drop q)) _ _ _ _
      unfold dC; rw [hb]
      exact .inr ⟨0, rfl, rfl, by omega⟩
     ·exact hst.dead ha0 _
    exact x_cut3 ((x.1, x.2.1, x.2.2.1, x.2.2.2.1, x.2.2.2.2, countE (partsS c.toNat))) (a) (akv) (s6 rfl rfl rfl rfl rfl (get_num rfl rfl)) ⟨hst1, ⟨hx.1, hx.2.1, hx.2.2⟩, hs, h4, h6, hlow, hE, hB, ha⟩
   refine l_p 3 tK rfl (q1 (c_ifF rfl (c_skip ?_)))
   have hst1 : StA (d6 c.toNat (partsS c.toNat) r) (x.1, x.2.1, x.2.2.1, x.2.2.2.1, x.2.2.2.2, countE (partsS c.toNat)) (p + 1) l.length a := by
    rw [d6_eq]
    by_cases ha0 : 0 ≤ a
    ·obtain ⟨q, hdq, rfl, hql⟩ := hst.open ha0
     refine StA.next (e := (fun _ => dC (decide ((c.toNat : Int) = 48)) (countE (partsS c.toNat)))) (mk := (fun x y => (x.1, x.2.1, x.2.2.1, x.2.2.2.1, x.2.2.2.2, y))) hdq ?_
     have hb : decide ((c.toNat : Int) = 48) = false := by first | (exfalso; omega) | simp_all
     show StA (dC (decide ((c.toNat : Int) = 48)) (countE (partsS c.toNat)) (r.drop q)) _ _ _ _
     unfold dC; rw [hb]
     exact .inr ⟨0, rfl, rfl, by omega⟩
    ·exact hst.dead ha0 _
   exact x_cut3 ((x.1, x.2.1, x.2.2.1, x.2.2.2.1, x.2.2.2.2, countE (partsS c.toNat))) (a) (akv) (s6 rfl rfl rfl rfl rfl (get_num rfl rfl)) ⟨hst1, ⟨hx.1, hx.2.1, hx.2.2⟩, hs, h4, h6, hlow, hE, hB, ha⟩
  clear hs h4 h6 hlow hE hB ha hst hx
  rintro x a akv w86 ⟨hst, hx, hs, h4, h6, hlow, hE, hB, ha⟩
  refine c_seq (q0 (l_p 1 tK rfl (q1 (c_blk ?_))))
  have d_ho_h4 : ∀ x, (.slice none 0 0 : Value).ownBlock = some x → x ≠ b4 := fun x hx => by simp [Value.ownBlock] at hx
  have d_ho_h6 : ∀ x, (.slice none 0 0 : Value).ownBlock = some x → x ≠ b6 := fun x hx => by simp [Value.ownBlock] at hx
  have hk0 := stK_term (f := k) hpe hst
  refine c_loop5 (X := Nat) (Y := Int) (Z := List Tm) (U := Value) (V := Nat → Prop) (fun i a tl wv M1 => [(0, v), (1, .int .i64 a), (4, .pointer (some ⟨b4, 0, none⟩)), (6, .pointer (some ⟨b6, 0, none⟩)), (10, .int .u64 (x.2.2.2.2.2 : Int)), (12, .int .u64 (i : Nat))]) (fun i a tl wv M1 w' => i ≤ x.2.2.2.2.2 ∧ StK (dtE k) (dtE (k + 1) (c :: r)) (fun ks => Tm.mk c.toNat x.1 x.2.1 x.2.2.1 x.2.2.2.1 x.2.2.2.2.1 ks) x.2.2.2.2.2 i r tl (p + 1) l.length a ∧ tl.length = i ∧ (i ≤ l.length + 1 ∧ (0 ≤ a → (i : Int) + p + 1 ≤ a)) ∧ OwnSl 84 w.heap.size M1 w' wv tl ∧ Sl M1 w' v l ∧ MB w.heap.size M1 w' b4 84 [.int .u8 0, .string ⟨#[]⟩, .string ⟨#[]⟩, .int .i64 0, .bool false, .int .u8 0, .string ⟨#[]⟩, .int .i64 0, .slice none 0 0, .slice none 0 0] ∧ MB w.heap.size M1 w' b6 84 [.int .u8 c.toNat, .string x.1, .string x.2.1, .int .i64 (x.2.2.1 : Int), .bool x.2.2.2.1, .int .u8 x.2.2.2.2.1.op, .string x.2.2.2.2.1.name, .int .i64 x.2.2.2.2.1.n, akv, wv] ∧ (∀ x, (wv : Value).ownBlock = some x → x ≠ b4) ∧ (∀ x, (wv : Value).ownBlock = some x → x ≠ b6) ∧ Rep.R M1 w' (.agg #[.int .u8 x.2.2.2.2.1.op, .string x.2.2.2.2.1.name, .int .i64 x.2.2.2.2.1.n, akv]) x.2.2.2.2.1 ∧ Low M1 w' ∧ (∀ b, M b → M1 b) ∧ Below w.heap.size w w' ∧ w.heap.size ≤ w'.heap.size) (fun i a tl wv M1 => x.2.2.2.2.2 - i) (0) (a) ([]) (.slice none 0 0) ((Rw.Add (Rw.Add M b4) b6)) (s6 rfl rfl rfl rfl rfl rfl) ?_ ?_
  ·refine ⟨Nat.zero_le _, hk0, rfl, ⟨Nat.zero_le _, fun h => ?_⟩, own_nil, hs, h4, h6, d_ho_h4, d_ho_h6, ha, hlow, hsub, hE, hB⟩
   obtain ⟨q, _, h2, _⟩ := hst.open h
   omega
  clear hs h4 h6 ha hlow hsub hE hB hst hk0 a d_ho_h4 d_ho_h6
  rintro i a tl wv M1 w19 ⟨hi, hst, htl, hib, ho, hs, h4, h6, d_ho_h4, d_ho_h6, ha, hlow, hsub, hE, hB⟩
  refine c_seq (q0 (l_p 4 tK rfl ?_))
  refine l_splitP 153 _ rfl (fun c24 => ?_) (fun c24 => ?_)
  ·refine l_p 3 tK rfl (q1 ?_)
   refine c_ifP _ rfl (fun c25 => ?_) (fun c25 => ?_)
   ·refine c_skip (x_seq (c_seq (c_blk (q0 (l_p 2 tK rfl ?_)))))
    obtain ⟨q, rfl, hql, hfull⟩ := hst.open (by omega)
    have hi2 := hib.2 (by omega)
    have hdq : l.drop (p + 1 + q) = r.drop q := by rw [← hdr, List.drop_drop]
    have hcl := ih l (p + 1 + q) _ _ _ (by omega) (by omega) hll hs hlow
    rw [hdq] at hcl
    refine lC (o_call fo79 rfl rfl rfl (hcl) ?_)
    rintro _ w20 ⟨⟨xk, tk, rfl, hx9, hty⟩, ew20⟩
    replace ho := ho.ext hlow hB ew20
    replace h4 := h4.ext hlow hB ew20
    replace h6 := h6.ext hlow hB ew20
    replace hE := ew20.bl hE hB
    replace hs := hs.ext ew20
    replace ha := Rep.ext ha ew20
    replace hlow := hlow.ext ew20
    replace hB := ew20.z hB
    obtain ⟨akvk, kvk, rfl, opk, nmk, agk, n64k, hak, hkk⟩ := tm_open hx9
    refine l_p 3 tK rfl ?_
    refine lC (o_new tK rfl rfl rfl ?_)
    intro b13 w21 qb13 ew21 hb13
    have nb13 := nM_of hlow qb13
    refine lC (o_st tK hb13 rfl rfl rfl rfl (Rep.one hx9) rfl rfl ?_)
    intro w22 h13 uw22 bew22
    have ew22 : Ext w20 w22 := ew21.trans (bew22 _ (Nat.le_of_eq qb13.symm))
    replace ho := ho.ext hlow hB ew22
    replace h4 := h4.ext hlow hB ew22
    replace h6 := h6.ext hlow hB ew22
    replace hE := ew22.bl hE hB
    replace hs := hs.ext ew22
    replace ha := Rep.ext ha ew22
    replace hx9 := Rep.ext hx9 ew22
    replace hak := Rep.ext hak ew22
    replace hkk := hkk.ext ew22
    replace hlow := hlow.ext ew22
    replace hB := ew22.z hB
    replace h13 : Box w22 b13 84 [.int .u8 tk.op, .string tk.name, .string tk.arg, .int .i64 tk.n, .bool tk.has, .int .u8 tk.ann.op, .string tk.ann.name, .int .i64 tk.ann.n, akvk, kvk] := h13
    replace h13 := h13.at nb13
    refine l_p 1 tK rfl (q1 (q0 (l_p 1 tK rfl ?_)))
    refine lC (o_ld tK (h6.cell 9 _ rfl) rfl rfl rfl rfl rfl ?_)
    refine lC (o_lds tK (fun j v hv => h13.cell j v hv) rfl rfl rfl rfl rfl rfl ?_)
    refine lC (o_bs tK rfl rfl rfl rfl rfl rfl rfl (sz1 (Rep.size hx9)) rfl rfl rfl ?_)
    intro bw23 w23 qbw23 ew23 hbw23
    have nbw23 := nM_of hlow qbw23
    replace ho := ho.ext hlow hB ew23
    replace h4 := h4.ext hlow hB ew23
    replace h6 := h6.ext hlow hB ew23
    replace hE := ew23.bl hE hB
    replace hs := hs.ext ew23
    replace ha := Rep.ext ha ew23
    replace hx9 := Rep.ext hx9 ew23
    replace hak := Rep.ext hak ew23
    replace hkk := hkk.ext ew23
    replace h13 := h13.ext ew23
    replace hlow := hlow.ext ew23
    replace hB := ew23.z hB
    refine lC (o_app1 tK ho hbw23 nbw23 hx9 hlow hB rfl rfl rfl rfl rfl rfl rfl (by omega) (by show (_ + _) * 136 ≤ _; omega) rfl rfl ?_)
    intro vw24 w24 Mw24 hw24 sw24 frw24 blw24
    have zd_ho_h4 := d_ho_h4
    replace d_ho_h4 : ∀ x, (vw24 : Value).ownBlock = some x → x ≠ b4 := fun x hx => (blw24 x hx).elim (d_ho_h4 x) (fun h e => by have := h4.lt; omega)
    have zd_ho_h6 := d_ho_h6
    replace d_ho_h6 : ∀ x, (vw24 : Value).ownBlock = some x → x ≠ b6 := fun x hx => (blw24 x hx).elim (d_ho_h6 x) (fun h e => by have := h6.lt; omega)
    replace h4 := h4.stp sw24 (frw24 b4 h4.lt (fun e => zd_ho_h4 _ e.symm rfl))
    replace h6 := h6.stp sw24 (frw24 b6 h6.lt (fun e => zd_ho_h6 _ e.symm rfl))
    replace hE := hE.trans sw24.below
    replace hs := hs.stp sw24
    replace ha := Rep.stp ha sw24
    replace hx9 := Rep.stp hx9 sw24
    replace hak := Rep.stp hak sw24
    replace hkk := hkk.stp sw24
    replace h13 := h13.stp sw24
    replace hsub := sw24.sb hsub
    replace hlow := sw24.low
    replace hB := sw24.z hB
    replace ho := hw24
    clear hw24
    refine l_p 1 tK rfl ?_
    obtain ⟨av6, cv6, rfl, _⟩ := ho.val
    refine lC (o_st tK h6.box rfl rfl rfl rfl (by intro u hu; simp [Value.cells] at hu; subst hu; rfl) rfl rfl ?_)
    intro w25 hw25 qw25 bew25
    have uw25 : UpdB _ _ _ := ⟨qw25, bew25⟩
    have sw25 := uw25.stp h6.inM hlow h6.ge
    have frw25 := qw25.2
    replace ho := ho.stp sw25 (fun x hx => frw25 x (ho.lt x hx).2 (d_ho_h6 x hx))
    replace h4 := h4.stp sw25 (frw25 b4 h4.lt ne_h4_h6)
    replace hE := hE.trans sw25.below
    replace hs := hs.stp sw25
    replace ha := Rep.stp ha sw25
    replace hx9 := Rep.stp hx9 sw25
    replace hak := Rep.stp hak sw25
    replace hkk := hkk.stp sw25
    replace h13 := h13.stp sw25
    replace hsub := sw25.sb hsub
    replace hlow := sw25.low
    replace hB := sw25.z hB
    replace h6 : MB w.heap.size _ w25 b6 _ [.int .u8 c.toNat, .string x.1, .string x.2.1, .int .i64 (x.2.2.1 : Int), .bool x.2.2.2.1, .int .u8 x.2.2.2.2.1.op, .string x.2.2.2.2.1.name, .int .i64 x.2.2.2.2.1.n, akv, (.slice av6 (tl ++ [tk]).length cv6)] := ⟨hw25, h6.inM, h6.ge⟩
    refine q1 (c_reg (l_p 2 tK rfl (q2 (x_seq (c_reg (l_p 1 tK rfl ?_))))))
    refine lC (o_ar rfl rfl rfl (IntWalk.u64_in _ (by omega)) rfl rfl ?_)
    refine l_p 1 tK rfl (l_nil ?_)
    exact x_round5 (i + 1) (posD (p + 1 + q) (dtE k (r.drop q))) (tl ++ [tk]) ((.slice av6 (tl ++ [tk]).length cv6)) (Mw24) (s6 rfl rfl rfl rfl rfl (get_num rfl (by omega))) ⟨by omega, StK.step hfull (by omega) (fun y q2 e => ⟨hty y q2 e, (dtE_ge e).2⟩) (by omega) (by omega), by simp [htl], ⟨by omega, fun h => by rcases posD_kid (f := k) (p := p + 1) (q := q) (r := r) with h1 | h1 <;> omega⟩, ho, hs, h4, h6, d_ho_h4, d_ho_h6, ha, hlow, hsub, hE, hB⟩ (by omega)
   refine c_exit (x_seqE (x_seqE (x_blkE (x_seq (q0 ?_)))))
   refine lC (o_lds tK (fun j v hv => h6.cell j v hv) rfl rfl rfl rfl rfl rfl ?_)
   refine l_p 1 tK rfl ?_
   obtain ⟨av, cv, rfl, _⟩ := ho.val
   refine lC (o_st tK h4.box rfl rfl rfl rfl (by intro u hu; simp [Value.cells] at hu; have := Rep.one ha; simp [Value.cells] at this; rcases hu with rfl | rfl | rfl | rfl | rfl | rfl | rfl | rfl | rfl | rfl <;> first | rfl | exact this.2.2.2) rfl rfl ?_)
   intro w26 hw26 qw26 bew26
   have uw26 : UpdB _ _ _ := ⟨qw26, bew26⟩
   have sw26 := uw26.stp h4.inM hlow h4.ge
   have frw26 := qw26.2
   replace ho := ho.stp sw26 (fun x hx => frw26 x (ho.lt x hx).2 (d_ho_h4 x hx))
   replace h6 := h6.stp sw26 (frw26 b6 h6.lt ne_h4_h6.symm)
   replace hE := hE.trans sw26.below
   replace hs := hs.stp sw26
   replace ha := Rep.stp ha sw26
   replace hsub := sw26.sb hsub
   replace hlow := sw26.low
   replace hB := sw26.z hB
   replace h4 : MB w.heap.size _ w26 b4 _ [.int .u8 c.toNat, .string x.1, .string x.2.1, .int .i64 (x.2.2.1 : Int), .bool x.2.2.2.1, .int .u8 x.2.2.2.2.1.op, .string x.2.2.2.2.1.name, .int .i64 x.2.2.2.2.1.n, akv, (.slice av tl.length cv)] := ⟨hw26, h4.inM, h4.ge⟩
   refine l_p 1 tK rfl (q1 (c_ret ?_))
   refine x_ret2st tK (fun j v hv => h4.cell j v hv) rfl rfl rfl rfl rfl rfl ?_
   have hsl2 := ho.sl (by omega) hlow0 hsub
   obtain ⟨hfa, hfy⟩ := hst.fin (p0 := p) (by omega) rfl
   exact ⟨⟨_, (fun ks => Tm.mk c.toNat x.1 x.2.1 x.2.2.1 x.2.2.2.1 x.2.2.2.2.1 ks) tl, congrArg (fun z => Value.tuple #[_, .int .i64 z]) hfa, tm_mk (by omega) (by omega) (by omega) (by unfold I64; omega) (Rep.wk ha (fun b _ h => hsub b h)) hsl2, hfy⟩, hE⟩
  refine l_p 3 tK rfl (q1 (c_ifF rfl (c_exit (x_seqE (x_seqE (x_blkE (x_seq (q0 ?_))))))))
  refine lC (o_lds tK (fun j v hv => h6.cell j v hv) rfl rfl rfl rfl rfl rfl ?_)
  refine l_p 1 tK rfl ?_
  obtain ⟨av, cv, rfl, _⟩ := ho.val
  refine lC (o_st tK h4.box rfl rfl rfl rfl (by intro u hu; simp [Value.cells] at hu; have := Rep.one ha; simp [Value.cells] at this; rcases hu with rfl | rfl | rfl | rfl | rfl | rfl | rfl | rfl | rfl | rfl <;> first | rfl | exact this.2.2.2) rfl rfl ?_)
  intro w27 hw27 qw27 bew27
  have uw27 : UpdB _ _ _ := ⟨qw27, bew27⟩
  have sw27 := uw27.stp h4.inM hlow h4.ge
  have frw27 := qw27.2
  replace ho := ho.stp sw27 (fun x hx => frw27 x (ho.lt x hx).2 (d_ho_h4 x hx))
  replace h6 := h6.stp sw27 (frw27 b6 h6.lt ne_h4_h6.symm)
  replace hE := hE.trans sw27.below
  replace hs := hs.stp sw27
  replace ha := Rep.stp ha sw27
  replace hsub := sw27.sb hsub
  replace hlow := sw27.low
  replace hB := sw27.z hB
  replace h4 : MB w.heap.size _ w27 b4 _ [.int .u8 c.toNat, .string x.1, .string x.2.1, .int .i64 (x.2.2.1 : Int), .bool x.2.2.2.1, .int .u8 x.2.2.2.2.1.op, .string x.2.2.2.2.1.name, .int .i64 x.2.2.2.2.1.n, akv, (.slice av tl.length cv)] := ⟨hw27, h4.inM, h4.ge⟩
  refine l_p 1 tK rfl (q1 (c_ret ?_))
  refine x_ret2st tK (fun j v hv => h4.cell j v hv) rfl rfl rfl rfl rfl rfl ?_
  have hsl2 := ho.sl (by omega) hlow0 hsub
  obtain ⟨hfa, hfy⟩ := hst.fin (p0 := p) (by omega) rfl
  exact ⟨⟨_, (fun ks => Tm.mk c.toNat x.1 x.2.1 x.2.2.1 x.2.2.2.1 x.2.2.2.2.1 ks) tl, congrArg (fun z => Value.tuple #[_, .int .i64 z]) hfa, tm_mk (by omega) (by omega) (by omega) (by unfold I64; omega) (Rep.wk ha (fun b _ h => hsub b h)) hsl2, hfy⟩, hE⟩
end Go.Proofs.Ytohfnpmehgpphaa
