/- Plain laws on places. No program in sight. -/
import Derived.Test.YtohfnpmehgpphaaPl
namespace Rw

/-- How many fields have a lesser name. -/
def atBase (l : List Fld) (name : ByteArray) : Nat := (l.filter fun f => decide (cmpN f.name name < 0)).length
theorem atBase_le (l : List Fld) (name : ByteArray) : atBase l name ≤ l.length := List.length_filter_le _ _
theorem atBase_at : ∀ {l : List Fld} {name : ByteArray} {i : Nat}, i ≤ l.length → (∀ (k : Nat) (x : Fld), k < i → l[k]? = some x → cmpN x.name name < 0) → (∀ (k : Nat) (x : Fld), i ≤ k → l[k]? = some x → ¬ cmpN x.name name < 0) → atBase l name = i
  | [], _, i, h, _, _ => by simp at h; subst h; rfl
  | x :: l, name, 0, _, _, h2 => by
    have h0 := h2 0 x (Nat.le_refl _) rfl
    have ih := atBase_at (l := l) (name := name) (i := 0) (Nat.zero_le _) (fun k y hk => absurd hk (Nat.not_lt_zero _)) (fun k y _ hy => h2 (k + 1) y (Nat.zero_le _) (by simpa using hy))
    unfold atBase at ih ⊢
    rw [List.filter_cons_of_neg (by simpa using h0)]
    exact ih
  | x :: l, name, i + 1, hi, h1, h2 => by
    have h0 := h1 0 x (by omega) rfl
    have ih := atBase_at (l := l) (name := name) (i := i) (by simpa using hi) (fun k y hk hy => h1 (k + 1) y (by omega) (by simpa using hy)) (fun k y hk hy => h2 (k + 1) y (by omega) (by simpa using hy))
    unfold atBase at ih ⊢
    rw [List.filter_cons_of_pos (by simpa using h0), List.length_cons, ih]
/-- What the search has found. -/
structure SchB (l : List Fld) (name : ByteArray) (i j : Nat) : Prop where
  lo : ∀ (k : Nat) (x : Fld), k < i → l[k]? = some x → cmpN x.name name < 0
  hi : ∀ (k : Nat) (x : Fld), j ≤ k → l[k]? = some x → ¬ cmpN x.name name < 0
theorem SchB.start (l : List Fld) (name : ByteArray) : SchB l name 0 l.length := ⟨fun k x h => by omega, fun k x h hx => by have := (List.getElem?_eq_some_iff.1 hx).1; omega⟩
theorem SchB.up {l : List Fld} {name : ByteArray} {i j h : Nat} (s : SchB l name i j) (hs : Srt l) (hl : h < l.length) (hlt : cmpN l[h].name name < 0) : SchB l name (h + 1) j :=
  ⟨fun k x hk hx => by
    by_cases e : k = h
    · subst e; rw [List.getElem?_eq_getElem hl] at hx; cases hx; exact hlt
    · have hk2 := (List.getElem?_eq_some_iff.1 hx).1
      have hle := List.pairwise_iff_getElem.1 hs k h hk2 hl (by omega)
      rw [List.getElem?_eq_getElem hk2] at hx; cases hx
      exact cmpN_lt_of_le_lt hle hlt, s.hi⟩
theorem SchB.down {l : List Fld} {name : ByteArray} {i j h : Nat} (s : SchB l name i j) (hs : Srt l) (hl : h < l.length) (hge : ¬ cmpN l[h].name name < 0) : SchB l name i h :=
  ⟨s.lo, fun k x hk hx => by
    by_cases e : k = h
    · subst e; rw [List.getElem?_eq_getElem hl] at hx; cases hx; exact hge
    · have hk2 := (List.getElem?_eq_some_iff.1 hx).1
      have hle := List.pairwise_iff_getElem.1 hs h k hl hk2 (by omega)
      rw [List.getElem?_eq_getElem hk2] at hx; cases hx
      intro hlt
      exact hge (cmpN_lt_of_le_lt hle hlt)⟩
theorem SchB.base {l : List Fld} {name : ByteArray} {i : Nat} (s : SchB l name i i) (hi : i ≤ l.length) : atBase l name = i := atBase_at hi s.lo s.hi

def plZ : Pl := ⟨0, 0, ⟨#[]⟩⟩
/-- The place of a name among sorted fields, and a tail. -/
def atP (l : List Fld) (e : Ty) (name : ByteArray) : Pl := ⟨atBase l name, bif decide (e.op = 10) then e.n else -1, bif decide (e.op = 10) then name else ⟨#[]⟩⟩
def atF (t : Ty) (name : ByteArray) : Pl × Int := bif rowB t && isWordB name then (atP (flatF t).1 (flatF t).2 name, 0) else (plZ, 1)

/-- Evidence of a place's variable and name? -/
def evM (p : Pl) (e : Ev) : Bool := decide (e.var = p.var) && decide (e.name = p.name)
/-- What a place comes to; the code. -/
def resF (p : Pl) (l : List Ev) : Int × Int := bif decide (p.var < 0) then (p.base, 0) else match l.find? (evM p) with
  | some e => (p.base + e.n, 0)
  | none => (0, 8)
theorem resF_neg {p : Pl} {l : List Ev} (h : p.var < 0) : resF p l = (p.base, 0) := by rw [resF, decide_eq_true h]; rfl
theorem find_at {p : Pl} : ∀ {l : List Ev} {i : Nat} (hi : i < l.length), evM p l[i] = true → (∀ (k : Nat) (x : Ev), k < i → l[k]? = some x → evM p x = false) → l.find? (evM p) = some l[i]
  | x :: l, 0, _, h, _ => by simp only [List.getElem_cons_zero] at h ⊢; rw [List.find?_cons, h]
  | x :: l, i + 1, hi, h, hn => by
    have h0 := hn 0 x (by omega) rfl
    rw [List.find?_cons, h0]
    exact find_at (l := l) (i := i) (by simpa using hi) (by simpa using h) (fun k y hk hy => hn (k + 1) y (by omega) (by simpa using hy))
theorem resF_at {p : Pl} {l : List Ev} {i : Nat} (hv : ¬ p.var < 0) (hi : i < l.length) (h : evM p l[i] = true) (hn : ∀ (k : Nat) (x : Ev), k < i → l[k]? = some x → evM p x = false) : resF p l = (p.base + l[i].n, 0) := by
  rw [resF, decide_eq_false hv, find_at hi h hn]; rfl
theorem resF_none {p : Pl} {l : List Ev} (hv : ¬ p.var < 0) (hn : ∀ (k : Nat) (x : Ev), k < l.length → l[k]? = some x → evM p x = false) : resF p l = (0, 8) := by
  have : l.find? (evM p) = none := by
    rw [List.find?_eq_none]
    intro x hx
    obtain ⟨k, hk, rfl⟩ := List.getElem_of_mem hx
    rw [hn k _ hk (List.getElem?_eq_getElem hk)]; simp
  rw [resF, decide_eq_false hv, this]; rfl
theorem evM_step {p : Pl} {l : List Ev} {i : Nat} (hi : i < l.length) (h : ∀ (k : Nat) (x : Ev), k < i → l[k]? = some x → evM p x = false) (hx : evM p l[i] = false) : ∀ (k : Nat) (x : Ev), k < i + 1 → l[k]? = some x → evM p x = false := fun k x hk hkx => by
  by_cases e : k = i
  · subst e; rw [List.getElem?_eq_getElem hi] at hkx; cases hkx; exact hx
  · exact h k x (by omega) hkx
theorem resF_code (p : Pl) (l : List Ev) : (resF p l).2 = 0 ∨ (resF p l).2 = 8 := by
  unfold resF
  by_cases h : p.var < 0
  · rw [decide_eq_true h]; exact .inl rfl
  · rw [decide_eq_false h]
    cases l.find? (evM p) with
    | some e => exact .inl rfl
    | none => exact .inr rfl
theorem pl_eq_iff {a b a' b' : Int} {s s' : ByteArray} : [Go.Lit.int .i64 a, .int .i64 b, .string s.data.toList] = [.int .i64 a', .int .i64 b', .string s'.data.toList] ↔ (⟨a, b, s⟩ : Pl) = ⟨a', b', s'⟩ := by
  constructor
  · intro h
    simp only [List.cons.injEq, Go.Lit.int.injEq, Go.Lit.string.injEq, and_true, true_and] at h
    obtain ⟨h1, h2, h3⟩ := h
    have : s = s' := by
      cases s; cases s'
      simp only [ByteArray.mk.injEq]
      exact Array.toList_inj.1 h3
    rw [h1, h2, this]
  · intro h
    cases h
    rfl
def tyRow2 : Ty := .mk 11 ⟨#[98]⟩ 0 [.mk 1 ⟨#[]⟩ 0 [], .mk 10 ⟨#[]⟩ 7 []]
theorem psz_row2 : psz tyRow2 ≤ 2000000 := by simp [psz_eq, pszs_cons, pszs_nil, tyRow2, Ty.kids]
theorem rowB_row2 : rowB tyRow2 = true := by
  simp [rowB, onceB, partsL_eq, shapeF_eq, tyRow2, Ty.kids, Ty.op, Ty.name, Ty.n, kidsOf, headOk, all2]
  decide
theorem at_row2 : atF tyRow2 ⟨#[99]⟩ = (⟨1, 7, ⟨#[99]⟩⟩, 0) := by
  have h : spineF tyRow2 = ([⟨⟨#[98]⟩, .mk 1 ⟨#[]⟩ 0 []⟩], .mk 10 ⟨#[]⟩ 7 []) := by
    rw [spine_yes (k := .mk 1 ⟨#[]⟩ 0 []) (r := .mk 10 ⟨#[]⟩ 7 []) rfl rfl, spine_no (by decide)]
    rfl
  have hw : isWordB ⟨#[99]⟩ = true := by decide
  rw [atF, rowB_row2, hw, flatF, rowB_row2, h]
  rfl
/-- Numbers that may be added. -/
def Near (n : Int) : Prop := -1099511627776 ≤ n ∧ n ≤ 1099511627776
end Rw
