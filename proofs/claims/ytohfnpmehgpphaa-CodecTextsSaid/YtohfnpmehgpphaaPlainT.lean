/- Plain laws on the language's types: parts, likeness. No program in sight. -/
import Derived.Test.YtohfnpmehgpphaaTy
namespace Rw

theorem cl_true {p : Prop} (h : p) : @decide p (Classical.propDecidable p) = true := @decide_eq_true p (Classical.propDecidable p) h
theorem cl_false {p : Prop} (h : ¬ p) : @decide p (Classical.propDecidable p) = false := @decide_eq_false p (Classical.propDecidable p) h
theorem cl_of {p : Prop} (h : @decide p (Classical.propDecidable p) = true) : p := @of_decide_eq_true p (Classical.propDecidable p) h
theorem cl_not {p : Prop} (h : @decide p (Classical.propDecidable p) = false) : ¬ p := @of_decide_eq_false p (Classical.propDecidable p) h

/-- A type's parts, itself first. -/
def partsL : Ty → List Ty
  | .mk o s n l => .mk o s n l :: l.flatMap partsL
theorem partsL_eq (t : Ty) : partsL t = t :: t.kids.flatMap partsL := by
  cases t; rw [partsL]; rfl
/-- How many parts. -/
def psz (t : Ty) : Nat := (partsL t).length
def pszs (l : List Ty) : Nat := (l.flatMap partsL).length
theorem psz_eq (t : Ty) : psz t = pszs t.kids + 1 := by
  unfold psz pszs; rw [partsL_eq]; simp
theorem pszs_cons (t : Ty) (l : List Ty) : pszs (t :: l) = psz t + pszs l := by simp [pszs, psz]
theorem pszs_nil : pszs [] = 0 := rfl
theorem pszs_append (l r : List Ty) : pszs (l ++ r) = pszs l + pszs r := by simp [pszs]
theorem psz_mem {t : Ty} : ∀ {l : List Ty}, t ∈ l → psz t ≤ pszs l
  | x :: l, h => by
    rw [pszs_cons]
    rcases List.mem_cons.1 h with rfl | h
    · omega
    · have := psz_mem h; omega
theorem psz_get {l : List Ty} {i : Nat} (h : i < l.length) : psz l[i] ≤ pszs l := psz_mem (List.getElem_mem h)
theorem psz_pos (t : Ty) : 0 < psz t := by rw [psz_eq]; omega
theorem len_psz : ∀ l : List Ty, l.length ≤ pszs l
  | [] => Nat.le_refl _
  | t :: l => by have := len_psz l; have := psz_pos t; rw [pszs_cons, List.length_cons]; omega
theorem take_step {l : List Ty} {i : Nat} (h : i < l.length) : (l.take (i + 1)).flatMap partsL = (l.take i).flatMap partsL ++ partsL l[i] := by
  rw [List.take_succ_eq_append_getElem h, List.flatMap_append]; simp only [List.flatMap_cons, List.flatMap_nil, List.append_nil]
theorem take_psz (l : List Ty) (i : Nat) : pszs (l.take i) ≤ pszs l := by
  have : pszs (l.take i ++ l.drop i) = pszs l := by rw [List.take_append_drop]
  rw [pszs_append] at this
  omega

/-- Part by part alike: equal. -/
theorem ty_eta (t : Ty) : t = .mk t.op t.name t.n t.kids := by cases t; rfl
end Rw
