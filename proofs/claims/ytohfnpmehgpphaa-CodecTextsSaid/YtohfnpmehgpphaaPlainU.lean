/- Plain laws on words. No program in sight. -/
import Derived.Test.YtohfnpmehgpphaaTy
namespace Rw

def smallB (c : UInt8) : Bool := decide (97 ≤ c.toNat ∧ c.toNat ≤ 122)
def digitB (c : UInt8) : Bool := decide (48 ≤ c.toNat ∧ c.toNat ≤ 57)
/-- May the byte at a place stand in a word? -/
def wordAt (s : ByteArray) (i : Nat) : Bool := match s.data[i]? with
  | some c => smallB c || (decide (i ≠ 0) && (digitB c || decide (c.toNat = 95)))
  | none => true
def wordlyB (s : ByteArray) : Bool := decide (s.size ≠ 0) && (List.range s.size).all (wordAt s)
def ownW : List ByteArray := [⟨#[102, 117, 110]⟩, ⟨#[114, 101, 99]⟩, ⟨#[108, 101, 116]⟩, ⟨#[105, 110]⟩, ⟨#[105, 102]⟩, ⟨#[116, 104, 101, 110]⟩, ⟨#[101, 108, 115, 101]⟩, ⟨#[99, 97, 115, 101]⟩, ⟨#[111, 102]⟩, ⟨#[101, 110, 100]⟩, ⟨#[116, 114, 117, 101]⟩, ⟨#[102, 97, 108, 115, 101]⟩, ⟨#[100, 101, 102]⟩, ⟨#[73, 110, 116]⟩, ⟨#[66, 111, 111, 108]⟩]
def ownB (s : ByteArray) : Bool := ownW.any fun x => decide (s = x)
def isWordB (s : ByteArray) : Bool := decide (s.size ≤ 32) && wordlyB s && !ownB s
/-- The document's kinds of bytes. -/
def kindN (c : UInt8) : Int := if 97 ≤ c.toNat ∧ c.toNat ≤ 122 then 1 else if 65 ≤ c.toNat ∧ c.toNat ≤ 90 then 2 else if 48 ≤ c.toNat ∧ c.toNat ≤ 57 then 3 else if c.toNat = 95 then 4 else 0

theorem size_data (s : ByteArray) : s.data.size = s.size := rfl
theorem word_no {s : ByteArray} {i : Nat} (hi : i < s.size) (h : wordAt s i = false) : wordlyB s = false := by
  unfold wordlyB
  have : (List.range s.size).all (wordAt s) = false := by
    rw [List.all_eq_false]
    exact ⟨i, List.mem_range.2 hi, by simp [h]⟩
  simp [this]
theorem word_all {s : ByteArray} {i : Nat} (hi : s.size ≤ i) (h : ∀ j, j < i → wordAt s j = true) : wordlyB s = decide (s.size ≠ 0) := by
  unfold wordlyB
  have : (List.range s.size).all (wordAt s) = true := by
    rw [List.all_eq_true]
    intro j hj
    exact h j (by have := List.mem_range.1 hj; omega)
  simp [this]
theorem word_step {s : ByteArray} {i : Nat} (h : ∀ j, j < i → wordAt s j = true) (hi : wordAt s i = true) : ∀ j, j < i + 1 → wordAt s j = true := by
  intro j hj
  by_cases e : j = i
  · subst e; exact hi
  · exact h j (by omega)
theorem size_zero {s : ByteArray} : s.size = 0 ↔ s = ⟨#[]⟩ := by
  cases s with | mk a =>
  constructor
  · intro h
    have : a.size = 0 := h
    rw [Array.eq_empty_of_size_eq_zero this]
  · intro h; rw [h]; rfl

theorem word_kind {s : ByteArray} {i : Nat} {c : UInt8} (h : s.data[i]? = some c) : wordAt s i = (decide (kindN c ≠ 0) && decide (kindN c ≠ 2) && (decide (i ≠ 0) || decide (kindN c = 1))) := by
  unfold wordAt
  rw [h]
  rw [Bool.eq_iff_iff]
  simp only [smallB, digitB, Bool.or_eq_true, Bool.and_eq_true, decide_eq_true_eq]
  unfold kindN
  (repeat' split) <;> omega
theorem any_no {α : Type} {l : List α} {p : α → Bool} {k : Nat} (hk : l.length ≤ k) (hno : ∀ (j : Nat) x, j < k → l[j]? = some x → p x = false) : l.any p = false := by
  rw [List.any_eq_false]
  intro x hx
  obtain ⟨j, hj, rfl⟩ := List.getElem_of_mem hx
  rw [hno j l[j] (by omega) (List.getElem?_eq_getElem hj)]
  simp
theorem idx_step {α : Type} {l : List α} {p : α → Bool} {k : Nat} (hno : ∀ (j : Nat) x, j < k → l[j]? = some x → p x = false) (hk : k < l.length) (h : p l[k] = false) : ∀ (j : Nat) x, j < k + 1 → l[j]? = some x → p x = false := by
  intro j x hj hx
  by_cases e : j = k
  · subst e; rw [List.getElem?_eq_getElem hk] at hx; cases hx; exact h
  · exact hno j x (by omega) hx
end Rw
