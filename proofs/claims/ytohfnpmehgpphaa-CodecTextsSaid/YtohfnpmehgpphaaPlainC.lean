/- Plain laws on canonical forms. No program in sight. -/
import Derived.Test.YtohfnpmehgpphaaPlainF
namespace Rw

/-- The canonical form; n: how deep, at most. -/
def canonN : Nat → Ty → Ty
  | 0, t => t
  | n + 1, t => bif decide (t.op = 11) then ofF ((fieldsF (spineF t).1).map fun f => ⟨f.name, canonN n f.ty⟩) (spineF t).2 else .mk t.op t.name t.n (t.kids.map (canonN n))
def canonF (t : Ty) : Ty := canonN (psz t) t

theorem spine_psz (t : Ty) : ∀ f ∈ (spineF t).1, psz f.ty < psz t := by
  induction t using Ty.ind with
  | h t ih =>
    intro f hf
    by_cases ho : t.op = 11
    · rw [spineF_eq] at hf
      split at hf
      · rename_i k r e
        have e1 : t.kids = [k.1, r.1] := by
          have := congrArg (List.map Prod.fst) e
          simpa [List.map_map, Function.comp_def] using this
        have e2 : r.2 = spineF r.1 := by
          rw [e1] at e
          simp at e
          rw [← e.2]
        rw [ho] at hf
        simp only [decide_true, cond_true] at hf
        rw [psz_eq t, e1, pszs_cons, pszs_cons]
        rcases List.mem_cons.1 hf with rfl | hf
        · simp only; omega
        · rw [e2] at hf
          have := ih r.1 (by rw [e1]; simp) f hf
          omega
      · cases hf
    · rw [spine_no ho] at hf
      cases hf
theorem fields_mem {l : List Fld} {f : Fld} (h : f ∈ fieldsF l) : f ∈ l := (fieldsF_st l).symm.mem h
theorem fields_psz {t : Ty} {f : Fld} (h : f ∈ fieldsF (spineF t).1) : psz f.ty < psz t := spine_psz t f (fields_mem h)
theorem kid_psz {t k : Ty} (h : k ∈ t.kids) : psz k < psz t := by
  have := psz_mem h
  rw [psz_eq t]; omega
theorem canonN_eq : ∀ (n m : Nat) (t : Ty), psz t ≤ n → psz t ≤ m → canonN n t = canonN m t
  | 0, _, t, h, _ => by have := psz_pos t; omega
  | _ + 1, 0, t, _, h => by have := psz_pos t; omega
  | n + 1, m + 1, t, h, k => by
    rw [canonN, canonN]
    have e1 : (fieldsF (spineF t).1).map (fun f => (⟨f.name, canonN n f.ty⟩ : Fld)) = (fieldsF (spineF t).1).map fun f => ⟨f.name, canonN m f.ty⟩ := by
      refine List.map_congr_left fun f hf => ?_
      have := fields_psz hf
      rw [canonN_eq n m f.ty (by omega) (by omega)]
    have e2 : t.kids.map (canonN n) = t.kids.map (canonN m) := by
      refine List.map_congr_left fun x hx => ?_
      have := kid_psz hx
      exact canonN_eq n m x (by omega) (by omega)
    rw [e1, e2]
def canonFld (f : Fld) : Fld := ⟨f.name, canonF f.ty⟩
theorem canonF_eq (t : Ty) : canonF t = bif decide (t.op = 11) then ofF ((fieldsF (spineF t).1).map canonFld) (spineF t).2 else .mk t.op t.name t.n (t.kids.map canonF) := by
  unfold canonF
  have hp := psz_pos t
  obtain ⟨n, hn⟩ : ∃ n, psz t = n + 1 := ⟨psz t - 1, by omega⟩
  rw [hn, canonN]
  have e1 : (fieldsF (spineF t).1).map (fun f => (⟨f.name, canonN n f.ty⟩ : Fld)) = (fieldsF (spineF t).1).map canonFld := by
    refine List.map_congr_left fun f hf => ?_
    have := fields_psz hf
    unfold canonFld canonF
    rw [canonN_eq n (psz f.ty) f.ty (by omega) (Nat.le_refl _)]
  have e2 : t.kids.map (canonN n) = t.kids.map fun x => canonN (psz x) x := by
    refine List.map_congr_left fun x hx => ?_
    have := kid_psz hx
    exact canonN_eq n (psz x) x (by omega) (Nat.le_refl _)
  rw [e1, e2]
theorem canon_row {t : Ty} (h : t.op = 11) : canonF t = ofF ((fieldsF (spineF t).1).map canonFld) (spineF t).2 := by rw [canonF_eq, h]; rfl
theorem canon_other {t : Ty} (h : t.op ≠ 11) : canonF t = .mk t.op t.name t.n (t.kids.map canonF) := by rw [canonF_eq, decide_eq_false h]; rfl

theorem shape_114 {t : Ty} {c : UInt8} (h : shapeF t c = true) (ho : t.op = 11) : shapeF t 114 = true := by
  obtain ⟨_, _, _, _, _, h5⟩ := shape_pos h
  rw [ho] at h5
  have hc : (c.toNat : Int) = 114 := by simpa using h5
  have : c = 114 := UInt8.toNat_inj.1 (by
    show c.toNat = 114
    omega)
  rw [← this]; exact h
theorem spine_shape (t : Ty) : shapeF t 114 = true → ∀ f ∈ (spineF t).1, shapeF f.ty 116 = true := by
  induction t using Ty.ind with
  | h t ih =>
    intro hs f hf
    by_cases ho : t.op = 11
    · obtain ⟨k, r, hk, h1, h2⟩ := shape_row hs ho
      rw [spine_yes ho hk] at hf
      rcases List.mem_cons.1 hf with rfl | hf
      · exact h1
      · exact ih r (by rw [hk]; simp) h2 f hf
    · rw [spine_no ho] at hf
      cases hf
theorem kid_shape {t : Ty} {c : UInt8} (h : shapeF t c = true) {i : Nat} (hi : i < t.kids.length) : ∃ d, shapeF t.kids[i] d = true := by
  obtain ⟨ks, _, hl, hall, _, _⟩ := shape_pos h
  have hi2 : i < ks.data.size := by
    have : ks.data.size = ks.size := rfl
    omega
  exact ⟨ks.data[i], hall i _ _ (List.getElem?_eq_getElem hi) (Array.getElem?_eq_getElem hi2)⟩
theorem psz_take {t : Ty} {i : Nat} (hi : i < t.kids.length) : psz t.kids[i] < psz t := kid_psz (List.getElem_mem hi)
/-- The first i have been made canonical. -/
def canTo (l : List Fld) (i : Nat) : List Fld := (l.take i).map canonFld ++ l.drop i
theorem canTo_zero (l : List Fld) : canTo l 0 = l := by simp [canTo]
theorem canTo_len (l : List Fld) (i : Nat) : (canTo l i).length = l.length := by simp [canTo]; omega
theorem canTo_get {l : List Fld} {i : Nat} (hi : i < l.length) : (canTo l i)[i]? = some l[i] := by
  unfold canTo
  rw [List.getElem?_append_right (by simp; omega), List.getElem?_drop]
  simp only [List.length_map, List.length_take]
  rw [show i + (i - min i l.length) = i by omega, List.getElem?_eq_getElem hi]
theorem canTo_set {l : List Fld} {i : Nat} (hi : i < l.length) : (canTo l i).set i (canonFld l[i]) = canTo l (i + 1) := by
  unfold canTo
  rw [take_snoc hi, List.map_append, List.drop_eq_getElem_cons hi, List.set_append_right _ _ (by simp; omega)]
  simp only [List.length_map, List.length_take]
  rw [show i - min i l.length = 0 by omega, List.set_cons_zero, List.append_assoc]
  rfl
theorem canTo_all {l : List Fld} {i : Nat} (hi : l.length ≤ i) : canTo l i = l.map canonFld := by
  unfold canTo
  rw [List.take_of_length_le hi, List.drop_eq_nil_of_le hi, List.append_nil]

def fsum (l : List Fld) : Nat := (l.map fun f => 1 + psz f.ty).sum
theorem fsum_ins (f : Fld) : ∀ l : List Fld, fsum (insF f l) = 1 + psz f.ty + fsum l
  | [] => by simp [fsum, insF]
  | x :: r => by
    unfold insF
    split
    · simp [fsum]
    · have := fsum_ins f r
      simp only [fsum, List.map_cons, List.sum_cons] at this ⊢
      omega
theorem fsum_fields (l : List Fld) : fsum (fieldsF l) = fsum l := by
  have : ∀ (l acc : List Fld), fsum (l.foldl (fun acc f => insF f acc) acc) = fsum acc + fsum l := by
    intro l
    induction l with
    | nil => intro acc; simp [fsum]
    | cons f l ih =>
      intro acc
      rw [List.foldl_cons, ih, fsum_ins]
      simp only [fsum, List.map_cons, List.sum_cons]
      omega
  have h := this l []
  simpa [fsum, fieldsF] using h
theorem row_psz (t : Ty) : psz t = fsum (spineF t).1 + psz (spineF t).2 := by
  induction t using Ty.ind with
  | h t ih =>
    by_cases ho : t.op = 11
    · rcases e : t.kids with _ | ⟨k, _ | ⟨r, _ | ⟨x, l⟩⟩⟩
      · rw [spineF_eq, e]; simp [fsum]
      · rw [spineF_eq, e]; simp [fsum]
      · rw [spine_yes ho e]
        have := ih r (by rw [e]; simp)
        rw [psz_eq t, e, pszs_cons, pszs_cons, pszs_nil]
        simp only [fsum, List.map_cons, List.sum_cons] at this ⊢
        omega
      · rw [spineF_eq, e]; simp [fsum]
    · rw [spine_no ho]; simp [fsum]
theorem psz_of (l : List Fld) (e : Ty) : psz (ofF l e) = fsum l + psz e := by
  induction l with
  | nil => simp [ofF, fsum]
  | cons f l ih =>
    rw [ofF_cons, psz_eq]
    simp only [Ty.kids, pszs_cons, pszs_nil, ih]
    simp only [fsum, List.map_cons, List.sum_cons]
    omega
theorem pszs_map {g : Ty → Ty} : ∀ {l : List Ty}, (∀ x ∈ l, psz (g x) = psz x) → pszs (l.map g) = pszs l
  | [], _ => rfl
  | x :: l, h => by
    rw [List.map_cons, pszs_cons, pszs_cons, h x List.mem_cons_self, pszs_map fun y hy => h y (List.mem_cons_of_mem _ hy)]
theorem psz_canon : ∀ (n : Nat) (t : Ty), psz t ≤ n → psz (canonF t) = psz t
  | 0, t, h => by have := psz_pos t; omega
  | n + 1, t, h => by
    by_cases ho : t.op = 11
    · rw [canon_row ho, psz_of, row_psz t]
      congr 1
      rw [← fsum_fields (spineF t).1]
      unfold fsum
      rw [List.map_map]
      congr 1
      refine List.map_congr_left fun f hf => ?_
      have := fields_psz hf
      show 1 + psz (canonF f.ty) = _
      rw [psz_canon n f.ty (by omega)]
    · rw [canon_other ho, psz_eq, psz_eq t]
      congr 1
      exact pszs_map fun x hx => psz_canon n x (by have := kid_psz hx; omega)
theorem canon_small {t : Ty} {N : Nat} (h : psz t ≤ N) : ∀ x ∈ (fieldsF (spineF t).1).map canonFld, psz x.ty ≤ N := fun x hx => by
  obtain ⟨f, hf, rfl⟩ := List.mem_map.1 hx
  have := fields_psz hf
  show psz (canonF f.ty) ≤ N
  rw [psz_canon _ _ (Nat.le_refl _)]; omega
theorem spine_small {t : Ty} {N : Nat} (h : psz t ≤ N) : psz (spineF t).2 ≤ N := by have := row_psz t; omega
end Rw
