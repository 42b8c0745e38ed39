/- Plain laws on sorting, stable: by a key's order. No program in sight. -/
import Derived.Test.YtohfnpmehgpphaaPlainX
import Derived.Lib.Bytealg
namespace Rw

abbrev cmpN (a b : ByteArray) : Int := Go.Lib.compareBytes a.data.toList b.data.toList

theorem cmpB_refl : ∀ a : List UInt8, Go.Lib.compareBytes a a = 0
  | [] => rfl
  | x :: a => by
    have : ¬ x < x := by simp
    rw [Go.Lib.compareBytes, if_neg this, if_neg this]; exact cmpB_refl a
theorem cmpB_flip : ∀ a b : List UInt8, Go.Lib.compareBytes b a = - Go.Lib.compareBytes a b
  | [], [] => rfl
  | [], _ :: _ => rfl
  | _ :: _, [] => rfl
  | x :: a, y :: b => by
    simp only [Go.Lib.compareBytes]
    by_cases h : x < y
    · have h2 : ¬ y < x := UInt8.lt_asymm h
      simp [h, h2]
    · by_cases h2 : y < x
      · simp [h, h2]
      · simp [h, h2, cmpB_flip a b]
theorem cmpB_eq : ∀ {a b : List UInt8}, Go.Lib.compareBytes a b = 0 → a = b
  | [], [], _ => rfl
  | [], _ :: _, h => by simp [Go.Lib.compareBytes] at h
  | _ :: _, [], h => by simp [Go.Lib.compareBytes] at h
  | x :: a, y :: b, h => by
    simp only [Go.Lib.compareBytes] at h
    by_cases h1 : x < y
    · simp [h1] at h
    · by_cases h2 : y < x
      · simp [h1, h2] at h
      · simp [h1, h2] at h
        have : x = y := UInt8.le_antisymm (UInt8.not_lt.1 h2) (UInt8.not_lt.1 h1)
        rw [this, cmpB_eq h]
theorem cmpB_trans : ∀ {a b c : List UInt8}, Go.Lib.compareBytes a b < 0 → Go.Lib.compareBytes b c < 0 → Go.Lib.compareBytes a c < 0
  | [], [], _, h, _ => by simp [Go.Lib.compareBytes] at h
  | _ :: _, [], _, h, _ => by simp [Go.Lib.compareBytes] at h
  | [], _ :: _, [], _, k => by simp [Go.Lib.compareBytes] at k
  | [], _ :: _, _ :: _, _, _ => by simp [Go.Lib.compareBytes]
  | _ :: _, _ :: _, [], _, k => by simp [Go.Lib.compareBytes] at k
  | x :: a, y :: b, z :: c, h, k => by
    simp only [Go.Lib.compareBytes] at h k ⊢
    by_cases h1 : x < y
    · by_cases k1 : y < z
      · simp [UInt8.lt_trans h1 k1]
      · by_cases k2 : z < y
        · simp [k1, k2] at k
        · have : y = z := UInt8.le_antisymm (UInt8.not_lt.1 k2) (UInt8.not_lt.1 k1)
          subst this; simp [h1]
    · by_cases h2 : y < x
      · simp [h1, h2] at h
      · have : x = y := UInt8.le_antisymm (UInt8.not_lt.1 h2) (UInt8.not_lt.1 h1)
        subst this
        simp [h1] at h
        by_cases k1 : x < z
        · simp [k1]
        · by_cases k2 : z < x
          · simp [k1, k2] at k
          · simp [k1, k2] at k ⊢
            exact cmpB_trans h k
theorem cmpN_eq {a b : ByteArray} : cmpN a b = 0 ↔ a = b := by
  constructor
  · intro h
    have := cmpB_eq h
    cases a; cases b
    simp only [ByteArray.mk.injEq]
    exact Array.toList_inj.1 this
  · rintro rfl; exact cmpB_refl _

theorem cmpN_flip (a b : ByteArray) : cmpN b a = - cmpN a b := cmpB_flip _ _
/-- a doesn't belong behind b. -/
def leN (a b : ByteArray) : Prop := ¬ cmpN b a < 0
theorem leN_refl (a : ByteArray) : leN a a := by unfold leN; rw [cmpN_eq.2 rfl]; simp
theorem leN_trans {a b c : ByteArray} (h : leN a b) (k : leN b c) : leN a c := by
  unfold leN at *
  intro hca
  by_cases e : a = b
  · subst e; exact k hca
  · have hab : cmpN a b < 0 := by
      have h1 : cmpN a b ≠ 0 := fun e' => e (cmpN_eq.1 e')
      have h2 := cmpN_flip a b
      omega
    exact k (cmpB_trans hca hab)
theorem leN_antisymm {a b : ByteArray} (h : leN a b) (k : leN b a) : a = b := by
  unfold leN at *
  have h2 := cmpN_flip a b
  exact cmpN_eq.1 (by omega)
theorem leN_total (a b : ByteArray) : leN a b ∨ leN b a := by
  unfold leN
  have h2 := cmpN_flip a b
  omega
theorem leN_of_lt {a b : ByteArray} (h : cmpN a b < 0) : leN a b := by
  unfold leN
  have h2 := cmpN_flip a b
  omega

/-- In order. -/
def Srt (l : List Fld) : Prop := l.Pairwise fun x y => leN x.name y.name
/-- The same, name by name, in the same order. -/
def StP (l k : List Fld) : Prop := ∀ s : ByteArray, l.filter (fun f => decide (f.name = s)) = k.filter (fun f => decide (f.name = s))
theorem StP.refl (l : List Fld) : StP l l := fun _ => rfl
theorem StP.trans {a b c : List Fld} (h : StP a b) (k : StP b c) : StP a c := fun s => (h s).trans (k s)
theorem StP.symm {a b : List Fld} (h : StP a b) : StP b a := fun s => (h s).symm
theorem StP.app {a b c d : List Fld} (h : StP a b) (k : StP c d) : StP (a ++ c) (b ++ d) := fun s => by rw [List.filter_append, List.filter_append, h s, k s]
theorem StP.swap {x y : Fld} (h : x.name ≠ y.name) : StP [x, y] [y, x] := fun s => by
  by_cases hx : x.name = s <;> by_cases hy : y.name = s
  · exact absurd (hx.trans hy.symm) h
  · simp [List.filter_cons, hx, hy]
  · simp [List.filter_cons, hx, hy]
  · simp [List.filter_cons, hx, hy]
theorem StP.mem {a b : List Fld} (h : StP a b) {x : Fld} (hx : x ∈ a) : x ∈ b := by
  have : x ∈ a.filter (fun f => decide (f.name = x.name)) := List.mem_filter.2 ⟨hx, by simp⟩
  rw [h x.name] at this
  exact (List.mem_filter.1 this).1
/-- One way only to put them in order so. -/
theorem srt_uniq : ∀ {a b : List Fld}, Srt a → Srt b → StP a b → a = b
  | [], [], _, _, _ => rfl
  | [], y :: b, _, _, h => by have := h.symm.mem (List.mem_cons_self (a := y)); cases this
  | x :: a, [], _, _, h => by have := h.mem (List.mem_cons_self (a := x)); cases this
  | x :: a, y :: b, ha, hb, h => by
    have ha' := List.pairwise_cons.1 ha
    have hb' := List.pairwise_cons.1 hb
    have h1 : leN x.name y.name := by
      rcases List.mem_cons.1 (h.symm.mem (List.mem_cons_self (a := y))) with e | hm
      · rw [e]; exact leN_refl _
      · exact ha'.1 y hm
    have h2 : leN y.name x.name := by
      rcases List.mem_cons.1 (h.mem (List.mem_cons_self (a := x))) with e | hm
      · rw [e]; exact leN_refl _
      · exact hb'.1 x hm
    have hn := leN_antisymm h1 h2
    have hs := h x.name
    rw [List.filter_cons_of_pos (by simp), List.filter_cons_of_pos (by simp [hn])] at hs
    have hxy : x = y := (List.cons.inj hs).1
    subst hxy
    rw [srt_uniq ha'.2 hb'.2 (fun s => by
      have := h s
      by_cases e : x.name = s
      · rw [List.filter_cons_of_pos (by simp [e]), List.filter_cons_of_pos (by simp [e])] at this
        exact (List.cons.inj this).2
      · rwa [List.filter_cons_of_neg (by simp [e]), List.filter_cons_of_neg (by simp [e])] at this)]
end Rw
