/- Plain laws on graphs, part four: the order. No program in sight. -/
import Derived.Test.YtcledfefgbbgeaaPlainI
namespace Rw

/-- Is it a node that isn't in yet? -/
def waits (needs : List (List Int)) (inn : List Bool) (x : Int) : Bool := isNode needs x && !(inn[x.toNat]?.getD true)
/-- Could it come next? -/
def cand (needs : List (List Int)) (inn : List Bool) (i : Nat) : Bool := !(inn[i]?.getD true) && !((needs[i]?.getD []).any (waits needs inn))
def nextOf (needs : List (List Int)) (inn : List Bool) : Option Nat := (List.range needs.length).find? (cand needs inn)
/-- What is in, and in which order, behind so many steps. -/
def ordS (needs : List (List Int)) : Nat → List Bool × List Int
  | 0 => (List.replicate needs.length false, [])
  | t + 1 => match nextOf needs (ordS needs t).1 with
    | some i => ((ordS needs t).1.set i true, (ordS needs t).2 ++ [(i : Int)])
    | none => ordS needs t
def orderL (needs : List (List Int)) : List Int := (ordS needs needs.length).2

theorem ordS_len (needs : List (List Int)) : ∀ t, (ordS needs t).1.length = needs.length
  | 0 => by simp [ordS]
  | t + 1 => by
    have := ordS_len needs t
    unfold ordS
    split <;> simp [this]
theorem ordS_out (needs : List (List Int)) : ∀ t, (ordS needs t).2.length ≤ t
  | 0 => by simp [ordS]
  | t + 1 => by
    have := ordS_out needs t
    unfold ordS
    split
    · simp; omega
    · omega

theorem next_first {needs : List (List Int)} {inn : List Bool} {i : Nat} (hi : i < needs.length) (h : cand needs inn i = true) (hno : ∀ j, j < i → cand needs inn j = false) : nextOf needs inn = some i := by
  unfold nextOf
  rw [List.find?_eq_some_iff_getElem]
  refine ⟨h, i, by simpa using hi, by simp, fun j hj => ?_⟩
  simp [hno j hj]
theorem next_none {needs : List (List Int)} {inn : List Bool} (hno : ∀ j, j < needs.length → cand needs inn j = false) : nextOf needs inn = none := by
  unfold nextOf
  rw [List.find?_eq_none]
  intro j hj
  rw [hno j (List.mem_range.1 hj)]; simp
theorem ordS_some {needs : List (List Int)} {t i : Nat} (h : nextOf needs (ordS needs t).1 = some i) : ordS needs (t + 1) = ((ordS needs t).1.set i true, (ordS needs t).2 ++ [(i : Int)]) := by
  conv => lhs; unfold ordS
  rw [h]
theorem ordS_none {needs : List (List Int)} {t : Nat} (h : nextOf needs (ordS needs t).1 = none) : ordS needs (t + 1) = ordS needs t := by
  conv => lhs; unfold ordS
  rw [h]
theorem ordS_stop {needs : List (List Int)} {t : Nat} (h : nextOf needs (ordS needs t).1 = none) : ∀ k, ordS needs (t + k) = ordS needs t
  | 0 => rfl
  | k + 1 => by
    have ih := ordS_stop h k
    have : nextOf needs (ordS needs (t + k)).1 = none := by rw [ih]; exact h
    rw [show t + (k + 1) = t + k + 1 by omega, ordS_none this, ih]

theorem nextOf_spec {needs : List (List Int)} {inn : List Bool} {i : Nat} (h : nextOf needs inn = some i) : i < needs.length ∧ cand needs inn i = true ∧ ∀ j, j < i → cand needs inn j = false := by
  unfold nextOf at h
  rw [List.find?_eq_some_iff_getElem] at h
  obtain ⟨h1, j, hj, hj2, h3⟩ := h
  simp at hj hj2
  subst hj2
  exact ⟨hj, h1, fun k hk => by simpa using h3 k hk⟩

/-- Each step that isn't the last puts one in. -/
theorem ordS_cnt {needs : List (List Int)} : ∀ {t : Nat}, (∀ s, s < t → nextOf needs (ordS needs s).1 ≠ none) → t ≤ cnt (ordS needs t).1
  | 0, _ => Nat.zero_le _
  | t + 1, h => by
    have ih := ordS_cnt (t := t) (fun s hs => h s (by omega))
    cases hn : nextOf needs (ordS needs t).1 with
    | none => exact absurd hn (h t (by omega))
    | some i =>
      rw [ordS_some hn]
      obtain ⟨hi, hc, _⟩ := nextOf_spec hn
      have hil : i < (ordS needs t).1.length := by rw [ordS_len]; exact hi
      have hf : (ordS needs t).1[i] = false := by
        unfold cand at hc
        rw [List.getElem?_eq_getElem hil] at hc
        simp at hc
        exact hc.1
      have : cnt ((ordS needs t).1.set i true) = cnt (ordS needs t).1 + 1 := by
        unfold cnt
        rw [List.count_set hil, hf]
        simp
      simp only [this]
      omega
theorem ordS_t_le {needs : List (List Int)} {t : Nat} (h : ∀ s, s < t → nextOf needs (ordS needs s).1 ≠ none) : t ≤ needs.length := by
  have := ordS_cnt h
  have := cnt_le (ordS needs t).1
  rw [ordS_len] at this
  omega
theorem orderL_stop {needs : List (List Int)} {t : Nat} (hpast : ∀ s, s < t → nextOf needs (ordS needs s).1 ≠ none) (h : nextOf needs (ordS needs t).1 = none) : (ordS needs t).2 = orderL needs := by
  have hle := ordS_t_le hpast
  have := ordS_stop h (needs.length - t)
  rw [show t + (needs.length - t) = needs.length by omega] at this
  rw [orderL, this]

/-! ## Small ones for the walks -/

/-- The first place of what is asked for; -1: none. -/
def idxOf {α : Type} (p : α → Bool) (l : List α) : Int := match l.findIdx? p with
  | some i => (i : Int)
  | none => -1
theorem idxOf_found {α : Type} {l : List α} {p : α → Bool} {k : Nat} (hk : k < l.length) (h : p l[k] = true) (hno : ∀ (j : Nat) x, j < k → l[j]? = some x → p x = false) : idxOf p l = (k : Int) := by
  have : l.findIdx? p = some k := by
    rw [List.findIdx?_eq_some_iff_getElem]
    refine ⟨hk, h, fun j hj => ?_⟩
    have := hno j l[j] hj (List.getElem?_eq_getElem (by omega))
    simp [this]
  simp [idxOf, this]
theorem idxOf_none {α : Type} {l : List α} {p : α → Bool} {k : Nat} (hk : l.length ≤ k) (hno : ∀ (j : Nat) x, j < k → l[j]? = some x → p x = false) : idxOf p l = -1 := by
  have : l.findIdx? p = none := by
    rw [List.findIdx?_eq_none_iff]
    intro x hx
    obtain ⟨j, hj, rfl⟩ := List.getElem_of_mem hx
    exact hno j l[j] (by omega) (List.getElem?_eq_getElem hj)
  simp [idxOf, this]
theorem idx_step {α : Type} {l : List α} {p : α → Bool} {k : Nat} (hno : ∀ (j : Nat) x, j < k → l[j]? = some x → p x = false) (hk : k < l.length) (h : p l[k] = false) : ∀ (j : Nat) x, j < k + 1 → l[j]? = some x → p x = false := by
  intro j x hj hx
  by_cases e : j = k
  · subst e; rw [List.getElem?_eq_getElem hk] at hx; cases hx; exact h
  · exact hno j x (by omega) hx
theorem idxOf_any {α : Type} {l : List α} {p : α → Bool} : decide ((0 : Int) ≤ idxOf p l) = l.any p := by
  unfold idxOf
  cases h : l.findIdx? p with
  | some i =>
    have h1 := h
    rw [List.findIdx?_eq_some_iff_getElem] at h1
    obtain ⟨hi, h2, _⟩ := h1
    have : l.any p = true := List.any_eq_true.2 ⟨l[i], List.getElem_mem hi, h2⟩
    simp [this]
  | none =>
    rw [List.findIdx?_eq_none_iff] at h
    have : l.any p = false := List.any_eq_false.2 (fun x hx => by rw [h x hx]; simp)
    simp [this]
theorem cand_step {needs : List (List Int)} {inn : List Bool} {i : Nat} (hno : ∀ j, j < i → cand needs inn j = false) (h : cand needs inn i = false) : ∀ j, j < i + 1 → cand needs inn j = false := by
  intro j hj
  by_cases e : j = i
  · subst e; exact h
  · exact hno j (by omega)
theorem past_step {needs : List (List Int)} {t i : Nat} (h : ∀ s, s < t → nextOf needs (ordS needs s).1 ≠ none) (hn : nextOf needs (ordS needs t).1 = some i) : ∀ s, s < t + 1 → nextOf needs (ordS needs s).1 ≠ none := by
  intro s hs
  by_cases e : s = t
  · subst e; rw [hn]; simp
  · exact h s (by omega)
theorem any_step {l : List Int} {p : Nat} {q : Int → Bool} (hp : p < l.length) : (l.take (p + 1)).any q = ((l.take p).any q || q l[p]) := by
  rw [List.take_succ_eq_append_getElem hp, List.any_append]; simp only [List.any_cons, List.any_nil, Bool.or_false]
end Rw
