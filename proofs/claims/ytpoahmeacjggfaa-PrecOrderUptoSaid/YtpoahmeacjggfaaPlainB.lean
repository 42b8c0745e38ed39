/- Plain laws on types loosened by bytes. No program in sight. -/
import Derived.Test.YtpoahmeacjggfaaPlainC
namespace Rw

/-- Is the first byte odd? -/
def oddH : List UInt8 → Bool
  | [] => false
  | c :: _ => decide (((c.toNat % 2 : Nat) : Int) = 1)
def leafF (o : Int) : Ty := if 8 ≤ o then .mk 9 ⟨#[]⟩ 0 [] else .mk 3 ⟨#[]⟩ 0 []
/-- One after the other, each with so many bytes. -/
def loosL : List (Nat × (List UInt8 → Ty)) → List UInt8 → List Ty
  | [], _ => []
  | (k, g) :: r, b => g b :: loosL r (b.drop k)
/-- A type loosened by bytes. -/
def loosF : Ty → List UInt8 → Ty
  | .mk o s n l => fun b => bif oddH b then leafF o else .mk o s n (loosL (l.map fun x => (psz x, loosF x)) (b.drop 1))
def loosK (l : List Ty) (b : List UInt8) : List Ty := loosL (l.map fun x => (psz x, loosF x)) b
theorem loosF_eq (t : Ty) (b : List UInt8) : loosF t b = bif oddH b then leafF t.op else .mk t.op t.name t.n (loosK t.kids (b.drop 1)) := by
  cases t; rw [loosF]; rfl
theorem loos_odd {t : Ty} {b : List UInt8} (h : oddH b = true) : loosF t b = leafF t.op := by rw [loosF_eq, h]; rfl
theorem loos_even {t : Ty} {b : List UInt8} (h : oddH b = false) : loosF t b = .mk t.op t.name t.n (loosK t.kids (b.drop 1)) := by rw [loosF_eq, h]; rfl
theorem loosK_nil (b : List UInt8) : loosK [] b = [] := rfl
theorem loosK_cons (t : Ty) (l : List Ty) (b : List UInt8) : loosK (t :: l) b = loosF t b :: loosK l (b.drop (psz t)) := rfl
theorem loosK_len : ∀ (l : List Ty) (b : List UInt8), (loosK l b).length = l.length
  | [], _ => rfl
  | t :: l, b => by rw [loosK_cons, List.length_cons, List.length_cons, loosK_len l]
theorem loosK_get : ∀ (l : List Ty) (b : List UInt8) (i : Nat) (hi : i < l.length), (loosK l b)[i]? = some (loosF l[i] (b.drop (pszs (l.take i))))
  | [], _, i, hi => by simp at hi
  | t :: l, b, 0, _ => by rw [loosK_cons]; simp [pszs]
  | t :: l, b, i + 1, hi => by
    rw [loosK_cons, List.getElem?_cons_succ, loosK_get l _ i (by simpa using hi), List.take_succ_cons, pszs_cons, List.drop_drop]
    rfl
theorem loosK_at {l : List Ty} {b : List UInt8} {i : Nat} (hi : i < l.length) : (loosK l b)[i]'(by rw [loosK_len]; exact hi) = loosF l[i] (b.drop (pszs (l.take i))) := by
  have h := loosK_get l b i hi
  rw [List.getElem?_eq_getElem (by rw [loosK_len]; exact hi)] at h
  exact Option.some.inj h
theorem take_loosK {l : List Ty} {b : List UInt8} {i : Nat} (hi : i < l.length) : (loosK l b).take (i + 1) = (loosK l b).take i ++ [loosF l[i] (b.drop (pszs (l.take i)))] := by
  rw [List.take_succ_eq_append_getElem (by rw [loosK_len]; exact hi), loosK_at hi]
theorem pszs_take {l : List Ty} {i : Nat} (hi : i < l.length) : pszs (l.take (i + 1)) = pszs (l.take i) + psz l[i] := by
  rw [List.take_succ_eq_append_getElem hi, pszs_append, pszs_cons]; rfl
theorem odd_head {b : List UInt8} {c : UInt8} (h : b[0]? = some c) : oddH b = decide (((c.toNat % 2 : Nat) : Int) = 1) := by
  cases b with
  | nil => simp at h
  | cons d r => simp at h; subst h; rfl
theorem odd_nil {b : List UInt8} (h : b.length = 0) : oddH b = false := by rw [List.eq_nil_of_length_eq_zero h]; rfl
/-- Loosen: of what is right. -/
def LoosF (t : Ty) (b : List UInt8) : Ty := bif rightB t || rowB t then loosF (canonF t) b else .mk 0 ⟨#[]⟩ 0 []
end Rw
