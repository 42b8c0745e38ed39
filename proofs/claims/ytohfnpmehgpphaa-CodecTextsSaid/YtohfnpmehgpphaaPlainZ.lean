/- Plain laws on sorting in place. No program in sight. -/
import Derived.Test.YtohfnpmehgpphaaPlainY
namespace Rw

/-- In order, from place a to place b. -/
def SrtOn (l : List Fld) (a b : Nat) : Prop := ∀ (p q : Nat) (x y : Fld), a ≤ p → p < q → q < b → l[p]? = some x → l[q]? = some y → leN x.name y.name
/-- From place a to place b put otherwise, but name by name as it was; the rest as it was. -/
structure Rng (l k : List Fld) (a b : Nat) : Prop where
  len : k.length = l.length
  out : ∀ j, (j < a ∨ b ≤ j) → k[j]? = l[j]?
  st : StP l k
theorem Rng.refl (l : List Fld) (a b : Nat) : Rng l l a b := ⟨rfl, fun _ _ => rfl, StP.refl l⟩
theorem Rng.trans {l k m : List Fld} {a b : Nat} (h : Rng l k a b) (g : Rng k m a b) : Rng l m a b :=
  ⟨g.len.trans h.len, fun j hj => (g.out j hj).trans (h.out j hj), h.st.trans g.st⟩
theorem Rng.wider {l k : List Fld} {a b a' b' : Nat} (h : Rng l k a b) (ha : a' ≤ a) (hb : b ≤ b') : Rng l k a' b' := ⟨h.len, fun j hj => h.out j (by omega), h.st⟩

theorem two_at {l : List Fld} {j : Nat} (hj : j + 1 < l.length) : l = l.take j ++ ([l[j], l[j + 1]] ++ l.drop (j + 2)) := by
  conv => lhs; rw [← List.take_append_drop j l]
  rw [List.drop_eq_getElem_cons (show j < l.length by omega), List.drop_eq_getElem_cons hj]
  rfl
/-- Two neighbours change places. -/
theorem swap_eq {l : List Fld} {j : Nat} (hj : j + 1 < l.length) : (l.set (j + 1) l[j]).set j l[j + 1] = l.take j ++ ([l[j + 1], l[j]] ++ l.drop (j + 2)) := by
  apply List.ext_getElem?
  intro i
  rw [List.getElem?_set, List.getElem?_set]
  have ht : (l.take j).length = j := by simp; omega
  by_cases h1 : i < j
  · rw [List.getElem?_append_left (by omega), List.getElem?_take]
    simp [h1, show ¬ j = i by omega, show ¬ j + 1 = i by omega]
  · rw [List.getElem?_append_right (by omega), ht]
    by_cases h2 : i = j
    · subst h2; simp [show i < l.length by omega]
    · by_cases h3 : i = j + 1
      · subst h3; simp [show ¬ j = j + 1 by omega, hj]
      · rw [if_neg (by omega), if_neg (by omega), List.getElem?_append_right (by simp; omega), List.getElem?_drop]
        congr 1
        simp
        omega
theorem swap_rng {l : List Fld} {j : Nat} (hj : j + 1 < l.length) (hn : l[j].name ≠ l[j + 1].name) {a b : Nat} (ha : a ≤ j) (hb : j + 1 < b) : Rng l ((l.set (j + 1) l[j]).set j l[j + 1]) a b := by
  refine ⟨by simp, fun i hi => ?_, ?_⟩
  · rw [List.getElem?_set, List.getElem?_set]
    simp [show ¬ j = i by omega, show ¬ j + 1 = i by omega]
  · rw [swap_eq hj]
    conv => lhs; rw [two_at hj]
    exact (StP.refl _).app ((StP.swap hn).app (StP.refl _))

/-- One is on its way forward: from a to i all but number j are in order, and it is ahead of those behind it. -/
structure InsI (l : List Fld) (a i j : Nat) : Prop where
  rest : ∀ (p q : Nat) (x y : Fld), a ≤ p → p < q → q ≤ i → p ≠ j → q ≠ j → l[p]? = some x → l[q]? = some y → leN x.name y.name
  self : ∀ (q : Nat) (x y : Fld), j < q → q ≤ i → l[j]? = some x → l[q]? = some y → leN x.name y.name
theorem ins_start {l : List Fld} {a i : Nat} (h : SrtOn l a i) : InsI l a i i :=
  ⟨fun p q x y hp hpq hq _ hqi hx hy => h p q x y hp hpq (by omega) hx hy, fun q x y h1 h2 => absurd h1 (by omega)⟩
theorem ins_front {l : List Fld} {a i : Nat} (h : InsI l a i a) : SrtOn l a (i + 1) := fun p q x y hp hpq hq hx hy => by
  by_cases e : p = a
  · subst e; exact h.self q x y hpq (by omega) hx hy
  · exact h.rest p q x y hp hpq (by omega) e (by omega) hx hy
theorem ins_stop {l : List Fld} {a i j : Nat} (h : InsI l a i (j + 1)) (ha : a ≤ j) (hi : j + 1 ≤ i) (hj : j + 1 < l.length) (hle : leN l[j].name l[j + 1].name) : SrtOn l a (i + 1) := fun p q x y hp hpq hq hx hy => by
  by_cases e : p = j + 1
  · subst e; exact h.self q x y hpq (by omega) hx hy
  · by_cases e2 : q = j + 1
    · subst e2
      rw [List.getElem?_eq_getElem hj] at hy
      cases hy
      by_cases e3 : p = j
      · subst e3
        rw [List.getElem?_eq_getElem (by omega)] at hx
        cases hx; exact hle
      · exact leN_trans (h.rest p j x l[j] hp (by omega) (by omega) e (by omega) hx (List.getElem?_eq_getElem (by omega))) hle
    · exact h.rest p q x y hp hpq (by omega) e e2 hx hy
theorem swap_get {l : List Fld} {j : Nat} (hj : j + 1 < l.length) (p : Nat) : ((l.set (j + 1) l[j]).set j l[j + 1])[p]? = if p = j then some l[j + 1] else if p = j + 1 then some l[j] else l[p]? := by
  rw [List.getElem?_set, List.getElem?_set]
  by_cases h1 : p = j
  · subst h1; simp [show p < l.length by omega]
  · by_cases h2 : p = j + 1
    · subst h2; simp [hj]
    · simp [h1, h2, show ¬ j = p by omega, show ¬ j + 1 = p by omega]
theorem ins_step {l : List Fld} {a i j : Nat} (h : InsI l a i (j + 1)) (ha : a ≤ j) (hi : j + 1 ≤ i) (hj : j + 1 < l.length) (hlt : cmpN l[j + 1].name l[j].name < 0) : InsI ((l.set (j + 1) l[j]).set j l[j + 1]) a i j := by
  have hjj : l[j]? = some l[j] := List.getElem?_eq_getElem (by omega)
  have hj1 : l[j + 1]? = some l[j + 1] := List.getElem?_eq_getElem hj
  refine ⟨fun p q x y hp hpq hq hpj hqj hx hy => ?_, fun q x y hq hqi hx hy => ?_⟩
  · rw [swap_get hj] at hx hy
    rw [if_neg hpj] at hx
    rw [if_neg hqj] at hy
    by_cases e : p = j + 1
    · rw [if_pos e] at hx
      rw [if_neg (by omega)] at hy
      cases hx
      exact h.rest j q _ y (by omega) (by omega) hq (by omega) (by omega) hjj hy
    · rw [if_neg e] at hx
      by_cases e2 : q = j + 1
      · rw [if_pos e2] at hy
        cases hy
        exact h.rest p j x _ hp (by omega) (by omega) e (by omega) hx hjj
      · rw [if_neg e2] at hy
        exact h.rest p q x y hp hpq hq e e2 hx hy
  · rw [swap_get hj] at hx hy
    rw [if_pos rfl] at hx
    rw [if_neg (by omega)] at hy
    cases hx
    by_cases e : q = j + 1
    · rw [if_pos e] at hy
      cases hy
      exact leN_of_lt hlt
    · rw [if_neg e] at hy
      exact h.self q _ y (by omega) hqi hj1 hy
end Rw
