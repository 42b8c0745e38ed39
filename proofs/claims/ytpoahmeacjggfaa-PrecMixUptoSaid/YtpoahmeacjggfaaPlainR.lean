/- The example of the chapter on relations. No program in sight. -/
import Derived.Test.YtpoahmeacjggfaaPlainQ
namespace Rw
def tyDyn : Ty := .mk 9 ⟨#[]⟩ 0 []
def tyQ : Ty := .mk 3 ⟨#[]⟩ 0 []
def exRA : Ty := .mk 11 ⟨#[97]⟩ 0 [tyB, .mk 11 ⟨#[98]⟩ 0 [tyA, tyNone]]
def exRB : Ty := .mk 11 ⟨#[97]⟩ 0 [tyQ, tyDyn]
def exA : Ty := .mk 5 ⟨#[]⟩ 0 [exRA]
def exB : Ty := .mk 5 ⟨#[]⟩ 0 [exRB]
def exC : Ty := .mk 5 ⟨#[]⟩ 0 [tyDyn]
theorem exA_psz : psz exA ≤ 2000000 := by simp [psz_eq, pszs_cons, pszs_nil, exA, exRA, tyB, tyA, tyNone, Ty.kids]
theorem exB_psz : psz exB ≤ 2000000 := by simp [psz_eq, pszs_cons, pszs_nil, exB, exRB, tyQ, tyDyn, Ty.kids]
theorem exC_psz : psz exC ≤ 2000000 := by simp [psz_eq, pszs_cons, pszs_nil, exC, tyDyn, Ty.kids]
theorem exA_right : rightB exA = true := by
  simp [rightB, onceB, partsL_eq, shapeF_eq, exA, exRA, tyB, tyA, tyNone, Ty.kids, Ty.op, Ty.name, Ty.n, kidsOf, headOk, all2]
  decide
theorem exB_right : rightB exB = true := by
  simp [rightB, onceB, partsL_eq, shapeF_eq, exB, exRB, tyQ, tyDyn, Ty.kids, Ty.op, Ty.name, Ty.n, kidsOf, headOk, all2]
  decide
theorem exC_right : rightB exC = true := by
  simp [rightB, onceB, partsL_eq, shapeF_eq, exC, tyDyn, Ty.kids, Ty.op, Ty.name, Ty.n, kidsOf, headOk, all2]
theorem ex_row {t k : Ty} (h : rightB t = true) (ho : t.op = 5) (hk : t.kids = [k]) : rowB k = true := by
  obtain ⟨k2, e, h2⟩ := rec_kids h (.inl ho)
  rw [hk] at e
  cases e
  exact h2
theorem exRA_flat : flatF exRA = ([⟨⟨#[97]⟩, tyB⟩, ⟨⟨#[98]⟩, tyA⟩], tyNone) := by
  rw [flat_yes (ex_row exA_right rfl rfl), spine_yes (k := tyB) (r := .mk 11 ⟨#[98]⟩ 0 [tyA, tyNone]) rfl rfl, spine_yes (k := tyA) (r := tyNone) rfl rfl, spine_no (by decide)]
  rfl
theorem exRB_flat : flatF exRB = ([⟨⟨#[97]⟩, tyQ⟩], tyDyn) := by
  rw [flat_yes (ex_row exB_right rfl rfl), spine_yes (k := tyQ) (r := tyDyn) rfl rfl, spine_no (by decide)]
  rfl
theorem exRC_flat : flatF tyDyn = ([], tyDyn) := by
  rw [flat_yes (ex_row exC_right rfl rfl), spine_no (by decide)]
  rfl
theorem ex_asked {less : Bool} {a b k r : Ty} (ha : rightB a = true) (hb : rightB b = true) (oa : a.op = 5) (ob : b.op = 5) (na : a.kids = [k]) (nb : b.kids = [r]) : askedF less a b = rowsF less k r := by
  have e1 : dynF less a b = false := by unfold dynF; rw [oa, ob]; cases less <;> rfl
  have e2 : a.n = b.n := by rw [right_n ha (by omega), right_n hb (by omega)]
  rw [askedF, right_row ha, ha, hb]
  show holdsF less a b = _
  rw [holdsF_eq, e1, decide_eq_true (show a.op = b.op by omega), decide_eq_true e2, decide_eq_false (show ¬ a.op = 4 by omega), decide_eq_true oa, na, nb]
  rfl
theorem exAB : askedF true exA exB = true := by
  rw [ex_asked exA_right exB_right rfl rfl rfl rfl, rowsF, rowsN, exRA_flat, exRB_flat]
  have h : holdsF true tyB tyQ = true := by rw [holdsF_eq]; rfl
  show ((holdsF true tyB tyQ && true) && _) = true
  rw [h]; rfl
theorem exBA : askedF true exB exA = false := by
  rw [ex_asked exB_right exA_right rfl rfl rfl rfl, rowsF, rowsN, exRA_flat, exRB_flat]
  have h : holdsF true tyQ tyB = false := by rw [holdsF_eq]; rfl
  show ((holdsF true tyQ tyB && true) && _) = false
  rw [h]; rfl
theorem exCA : askedF false exC exA = true := by
  rw [ex_asked exC_right exA_right rfl rfl rfl rfl, rowsF, rowsN, exRA_flat, exRC_flat]
  rfl
end Rw
