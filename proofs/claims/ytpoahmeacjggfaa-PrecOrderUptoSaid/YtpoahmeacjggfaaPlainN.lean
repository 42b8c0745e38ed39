/- Plain laws on how many fields of a name there are. No program in sight. -/
import Derived.Test.YtpoahmeacjggfaaPlainF
namespace Rw

/-- How many fields of a name. -/
def cntN (l : List Fld) (s : ByteArray) : Nat := (l.filter fun f => decide (f.name = s)).length
/-- How many fields of lesser names. -/
def lessN (l : List Fld) (s : ByteArray) : Nat := (l.filter fun f => decide (cmpN f.name s < 0)).length
theorem cntN_le (l : List Fld) (s : ByteArray) : cntN l s ≤ l.length := List.length_filter_le _ _
theorem lessN_le (l : List Fld) (s : ByteArray) : lessN l s ≤ l.length := List.length_filter_le _ _
theorem cntN_app (l k : List Fld) (s : ByteArray) : cntN (l ++ k) s = cntN l s + cntN k s := by unfold cntN; rw [List.filter_append, List.length_append]
theorem lessN_app (l k : List Fld) (s : ByteArray) : lessN (l ++ k) s = lessN l s + lessN k s := by unfold lessN; rw [List.filter_append, List.length_append]
theorem cntN_yes {f : Fld} {s : ByteArray} (h : f.name = s) : cntN [f] s = 1 := by simp [cntN, h]
theorem cntN_no {f : Fld} {s : ByteArray} (h : f.name ≠ s) : cntN [f] s = 0 := by simp [cntN, h]
theorem lessN_yes {f : Fld} {s : ByteArray} (h : cmpN f.name s < 0) : lessN [f] s = 1 := by simp [lessN, h]
theorem lessN_no {f : Fld} {s : ByteArray} (h : ¬ cmpN f.name s < 0) : lessN [f] s = 0 := by simp [lessN]; omega
theorem cntN_takeY {l : List Fld} {i : Nat} {s : ByteArray} (hi : i < l.length) (h : l[i].name = s) : cntN (l.take (i + 1)) s = cntN (l.take i) s + 1 := by rw [take_snoc hi, cntN_app, cntN_yes h]
theorem cntN_takeN {l : List Fld} {i : Nat} {s : ByteArray} (hi : i < l.length) (h : l[i].name ≠ s) : cntN (l.take (i + 1)) s = cntN (l.take i) s := by rw [take_snoc hi, cntN_app, cntN_no h]; rfl
theorem lessN_takeY {l : List Fld} {i : Nat} {s : ByteArray} (hi : i < l.length) (h : cmpN l[i].name s < 0) : lessN (l.take (i + 1)) s = lessN (l.take i) s + 1 := by rw [take_snoc hi, lessN_app, lessN_yes h]
theorem lessN_takeN {l : List Fld} {i : Nat} {s : ByteArray} (hi : i < l.length) (h : ¬ cmpN l[i].name s < 0) : lessN (l.take (i + 1)) s = lessN (l.take i) s := by rw [take_snoc hi, lessN_app, lessN_no h]; rfl
theorem cntN_take_le (l : List Fld) (i : Nat) (s : ByteArray) : cntN (l.take i) s ≤ i := Nat.le_trans (cntN_le _ _) (by rw [List.length_take]; omega)
theorem lessN_take_le (l : List Fld) (i : Nat) (s : ByteArray) : lessN (l.take i) s ≤ i := Nat.le_trans (lessN_le _ _) (by rw [List.length_take]; omega)
theorem cntN_zero {l : List Fld} {s : ByteArray} (h : ∀ f ∈ l, f.name ≠ s) : cntN l s = 0 := by
  unfold cntN
  rw [List.filter_eq_nil_iff.2 (fun f hf => by simpa using h f hf)]; rfl
theorem lessN_zero {l : List Fld} {s : ByteArray} (h : ∀ f ∈ l, ¬ cmpN f.name s < 0) : lessN l s = 0 := by
  unfold lessN
  rw [List.filter_eq_nil_iff.2 (fun f hf => by simpa using h f hf)]; rfl
theorem lt_not_le {a b : ByteArray} (h : cmpN a b < 0) : ¬ leN b a := fun k => k h
theorem lt_ne {a b : ByteArray} (h : cmpN a b < 0) : a ≠ b := fun e => by subst e; rw [cmpN_eq.2 rfl] at h; omega
/-- Among sorted fields those of one name stand side by side, behind the lesser ones. -/
theorem srt_run : ∀ {l : List Fld}, Srt l → ∀ (s : ByteArray) (k : Nat) (h : k < l.length), (l[k].name = s ↔ lessN l s ≤ k ∧ k < lessN l s + cntN l s)
  | [], _, _, _, h => absurd h (Nat.not_lt_zero _)
  | x :: l, hs, s, k, h => by
    obtain ⟨h1, h2⟩ := List.pairwise_cons.1 hs
    have ih := srt_run h2 s
    have e1 : cntN (x :: l) s = cntN [x] s + cntN l s := cntN_app [x] l s
    have e2 : lessN (x :: l) s = lessN [x] s + lessN l s := lessN_app [x] l s
    by_cases hx : x.name = s
    · have n0 : ∀ f ∈ l, ¬ cmpN f.name s < 0 := fun f hf => by have := h1 f hf; rw [hx] at this; exact this
      have z := lessN_zero n0
      rw [cntN_yes hx] at e1
      rw [lessN_no (fun hlt => lt_ne hlt hx)] at e2
      cases k with
      | zero => simp only [List.getElem_cons_zero, hx, true_iff]; omega
      | succ k =>
        have := ih k (by simpa using h)
        simp only [List.getElem_cons_succ]
        rw [this]; omega
    · by_cases hlt : cmpN x.name s < 0
      · rw [cntN_no hx] at e1
        rw [lessN_yes hlt] at e2
        cases k with
        | zero => simp only [List.getElem_cons_zero]; exact ⟨fun e => absurd e hx, fun e => by omega⟩
        | succ k =>
          have := ih k (by simpa using h)
          simp only [List.getElem_cons_succ]
          rw [this]; omega
      · have hle : leN s x.name := hlt
        have ne : ∀ f ∈ l, f.name ≠ s := fun f hf e => by
          have := h1 f hf
          rw [e] at this
          exact hx (leN_antisymm this hle)
        have z := cntN_zero ne
        rw [cntN_no hx] at e1
        constructor
        · intro e
          cases k with
          | zero => exact absurd e hx
          | succ k => exact absurd e (ne _ (List.getElem_mem _))
        · intro e; omega
/-- How many of a field's name lie ahead of it. -/
theorem cnt_next {l : List Fld} {i : Nat} (hi : i + 1 < l.length) (h : l[i].name = l[i + 1].name) : cntN (l.take (i + 1)) l[i + 1].name = cntN (l.take i) l[i].name + 1 := by
  rw [← h, cntN_takeY (by omega) rfl]
theorem cnt_first {l : List Fld} (hs : Srt l) {i : Nat} (hi : i + 1 < l.length) (h : l[i].name ≠ l[i + 1].name) : cntN (l.take (i + 1)) l[i + 1].name = 0 := by
  refine cntN_zero fun f hf e => ?_
  obtain ⟨k, hk, rfl⟩ := List.getElem_of_mem hf
  rw [List.length_take] at hk
  rw [List.getElem_take] at e
  have hp := List.pairwise_iff_getElem.1 hs
  have a : leN l[k].name l[i].name := by
    by_cases e2 : k = i
    · subst e2; exact leN_refl _
    · exact hp k i (by omega) (by omega) (by omega)
  have b : leN l[i].name l[i + 1].name := hp i (i + 1) (by omega) hi (by omega)
  rw [e] at a
  exact h (leN_antisymm b a)
theorem cnt_next2 {l : List Fld} {i : Nat} (h0 : 0 < i) (hi : i < l.length) (h : (l[i - 1]'(by omega)).name = l[i].name) : cntN (l.take i) l[i].name = cntN (l.take (i - 1)) (l[i - 1]'(by omega)).name + 1 := by
  obtain ⟨k, rfl⟩ : ∃ k, i = k + 1 := ⟨i - 1, by omega⟩
  exact cnt_next hi h
theorem cnt_first2 {l : List Fld} (hs : Srt l) {i : Nat} (h0 : 0 < i) (hi : i < l.length) (h : (l[i - 1]'(by omega)).name ≠ l[i].name) : cntN (l.take i) l[i].name = 0 := by
  obtain ⟨k, rfl⟩ : ∃ k, i = k + 1 := ⟨i - 1, by omega⟩
  exact cnt_first hs hi h
/-- The n-th field of a name. -/
theorem nth_iff {l : List Fld} (hs : Srt l) (s : ByteArray) (n : Nat) : n < cntN l s ↔ ∃ h : lessN l s + n < l.length, l[lessN l s + n].name = s := by
  constructor
  · intro h
    have hle : lessN l s + cntN l s ≤ l.length := by
      clear h
      unfold lessN cntN
      induction l with
      | nil => simp
      | cons x l ih =>
        have := ih (List.pairwise_cons.1 hs).2
        simp only [List.filter_cons, List.length_cons]
        by_cases hx : x.name = s
        · have : ¬ cmpN x.name s < 0 := fun hlt => lt_ne hlt hx
          simp [hx, cmpN_eq.2 rfl] at this ⊢
          omega
        · by_cases hlt : cmpN x.name s < 0 <;> simp [hx, hlt] <;> omega
    exact ⟨by omega, (srt_run hs s _ (by omega)).2 ⟨by omega, by omega⟩⟩
  · rintro ⟨h, e⟩
    have := (srt_run hs s _ h).1 e
    omega
end Rw
