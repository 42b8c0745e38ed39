/- Plain laws on lists of numbers. No program in sight. -/
namespace Rw

/-- The first place of a number in a list; -1: none. -/
def atOf (l : List Int) (n : Int) : Int := match l.findIdx? (fun x => decide (x = n)) with
  | some i => (i : Int)
  | none => -1

theorem atOf_found {l : List Int} {n : Int} {k : Nat} (hk : k < l.length) (h : l[k] = n) (hno : ∀ j, j < k → l[j]? ≠ some n) : atOf l n = (k : Int) := by
  have : l.findIdx? (fun x => decide (x = n)) = some k := by
    rw [List.findIdx?_eq_some_iff_getElem]
    refine ⟨hk, by simpa using h, fun j hj => ?_⟩
    have := hno j hj
    rw [List.getElem?_eq_getElem (by omega)] at this
    simpa using this
  simp [atOf, this]

theorem atOf_none {l : List Int} {n : Int} {k : Nat} (hk : l.length ≤ k) (hno : ∀ j, j < k → l[j]? ≠ some n) : atOf l n = -1 := by
  have : l.findIdx? (fun x => decide (x = n)) = none := by
    rw [List.findIdx?_eq_none_iff]
    intro x hx
    obtain ⟨j, hj, rfl⟩ := List.getElem_of_mem hx
    have := hno j (by omega)
    rw [List.getElem?_eq_getElem hj] at this
    simpa using this
  simp [atOf, this]

theorem step_no {l : List Int} {n : Int} {k : Nat} (hno : ∀ j, j < k → l[j]? ≠ some n) (hk : k < l.length) (h : ¬ l[k] = n) : ∀ j, j < k + 1 → l[j]? ≠ some n := by
  intro j hj
  by_cases e : j = k
  · subst e; rw [List.getElem?_eq_getElem hk]; simpa using h
  · exact hno j (by omega)

theorem inOf_at {l : List Int} {n : Int} : decide ((0 : Int) ≤ atOf l n) = decide (n ∈ l) := by
  unfold atOf
  cases h : l.findIdx? (fun x => decide (x = n)) with
  | some i =>
    have h1 := h
    rw [List.findIdx?_eq_some_iff_getElem] at h1
    obtain ⟨hi, h2, _⟩ := h1
    have : n ∈ l := by
      have h3 : l[i] = n := by simpa using h2
      rw [← h3]; exact List.getElem_mem hi
    simp [this]
  | none =>
    rw [List.findIdx?_eq_none_iff] at h
    have : n ∉ l := fun hm => by have := h n hm; simp at this
    simp [this]

theorem len_ne {α : Type} [DecidableEq α] {a b : List α} (h : ¬ (a.length : Int) = (b.length : Int)) : decide (a = b) = false := by
  have : a ≠ b := fun e => h (by rw [e])
  simp [this]

theorem take_succ_eq {α : Type} {a b : List α} {k : Nat} (ha : k < a.length) (hb : k < b.length) (h : a.take k = b.take k) (he : a[k] = b[k]) : a.take (k + 1) = b.take (k + 1) := by
  rw [List.take_succ_eq_append_getElem ha, List.take_succ_eq_append_getElem hb, h, he]

theorem take_ne {α : Type} [DecidableEq α] {a b : List α} {k : Nat} (ha : k < a.length) (hb : k < b.length) (he : ¬ a[k] = b[k]) : decide (a = b) = false := by
  have : a ≠ b := fun e => by subst e; exact he rfl
  simp [this]

theorem take_all {α : Type} [DecidableEq α] {a b : List α} {k : Nat} (hk : a.length ≤ k) (hl : (a.length : Int) = (b.length : Int)) (h : a.take k = b.take k) : decide (a = b) = true := by
  rw [List.take_of_length_le hk, List.take_of_length_le (by omega)] at h
  simp [h]

end Rw
