/- Rules for walking a Go function's code, part six: a slice of slices that are all appended to. No program in sight. -/
import Derived.Test.YtcledfefgbbgeaaMem
namespace Rw
open Go Go.RowKit

/-- A slice value as it is. -/
structure Raw where
  v : Value
instance : Rep Raw where
  sz := 1
  R := fun _ _ v x => v = x.v ∧ ∃ a l c, v = .slice a l c
  pos := by decide
  size := by rintro M w v x ⟨_, a, l, c, rfl⟩; rfl
  one := by rintro M w v x ⟨_, a, l, c, rfl⟩ u hu; simp [Value.cells] at hu; subst hu; rfl
  upd := fun h _ => h
  wk := fun h _ => h

theorem OAt.raw {w : World} {b o : Nat} {v : Value} (h : OAt w b o v.cells.toList) (hs : ∃ a l c, v = .slice a l c) : OAt w b o [v] := by
  obtain ⟨a, l, c, rfl⟩ := hs; exact h

/-- The rows of a slice of slices vt: each of the call's own, no two in one block. -/
structure MRows {α : Type} [Rep α] (e B : Nat) (M : Nat → Prop) (w : World) (vt : Value) (vs : List Raw) (rows : List (List α)) : Prop where
  len : vs.length = rows.length
  row : ∀ (i : Nat) (x : Raw) (r : List α), vs[i]? = some x → rows[i]? = some r → OwnSl e B M w x.v r
  dis : ∀ (i j : Nat) (x y : Raw) (b : Nat), i ≠ j → vs[i]? = some x → vs[j]? = some y → x.v.ownBlock = some b → y.v.ownBlock ≠ some b
  top : ∀ (i : Nat) (x : Raw) (b : Nat), vs[i]? = some x → x.v.ownBlock = some b → vt.ownBlock ≠ some b

section
variable {α : Type} [Rep α] {e B : Nat} {M M' : Nat → Prop} {w w' : World} {vt : Value} {vs : List Raw} {rows : List (List α)}

theorem rows_start (n : Nat) : MRows e B M w vt (List.replicate n ⟨.slice none 0 0⟩) (List.replicate n ([] : List α)) := by
  have key : ∀ {i : Nat} {x : Raw}, (List.replicate n (⟨.slice none 0 0⟩ : Raw))[i]? = some x → x = ⟨.slice none 0 0⟩ := by
    intro i x hx
    rw [List.getElem?_replicate] at hx
    split at hx
    · simpa using hx.symm
    · cases hx
  refine ⟨by simp, fun i x r hx hr => ?_, fun i j x y b _ hx hy hb => ?_, fun i x b hx hb => ?_⟩
  · rw [key hx]
    rw [List.getElem?_replicate] at hr
    split at hr
    · simp at hr; subst hr; exact own_nil
    · cases hr
  · rw [key hx] at hb; simp [Value.ownBlock] at hb
  · rw [key hx] at hb; simp [Value.ownBlock] at hb

theorem MRows.get (h : MRows e B M w vt vs rows) {i : Nat} {x : Raw} (hx : vs[i]? = some x) : ∃ r, rows[i]? = some r ∧ OwnSl e B M w x.v r := by
  have hi : i < rows.length := by rw [← h.len]; exact (List.getElem?_eq_some_iff.1 hx).1
  exact ⟨rows[i], List.getElem?_eq_getElem hi, h.row i x _ hx (List.getElem?_eq_getElem hi)⟩

theorem MRows.lt (h : MRows e B M w vt vs rows) {i : Nat} {x : Raw} {b : Nat} (hx : vs[i]? = some x) (hb : x.v.ownBlock = some b) : B ≤ b ∧ b < w.heap.size := by
  obtain ⟨r, _, hr⟩ := h.get hx
  exact hr.lt b hb

theorem MRows.stp (h : MRows e B M w vt vs rows) (s : Stp B M M' w w') (hb : ∀ (i : Nat) (x : Raw) (b : Nat), vs[i]? = some x → x.v.ownBlock = some b → w'.heap[b]? = w.heap[b]?) : MRows e B M' w' vt vs rows :=
  ⟨h.len, fun i x r hx hr => (h.row i x r hx hr).stp s (fun b hxb => hb i x b hx hxb), h.dis, h.top⟩
theorem MRows.ext (h : MRows e B M w vt vs rows) (hl : Low M w) (hB : B ≤ w.heap.size) (x : Ext w w') : MRows e B M w' vt vs rows :=
  ⟨h.len, fun i y r hy hr => (h.row i y r hy hr).ext hl hB x, h.dis, h.top⟩

/-- One row has been appended to. -/
theorem MRows.app (h : MRows e B M w vt vs rows) {j : Nat} {x : Raw} (hx : vs[j]? = some x) (s : Stp B M M' w w') (fr : ∀ b, b < w.heap.size → some b ≠ x.v.ownBlock → w'.heap[b]? = w.heap[b]?)
    {v' : Value} {r' : List α} (bl : ∀ b, v'.ownBlock = some b → x.v.ownBlock = some b ∨ w.heap.size ≤ b) (hn : OwnSl e B M' w' v' r') (hvt : ∀ b, vt.ownBlock = some b → b < w.heap.size) : MRows e B M' w' vt (vs.set j ⟨v'⟩) (rows.set j r') := by
  have hj : j < vs.length := (List.getElem?_eq_some_iff.1 hx).1
  have hjr : j < rows.length := by rw [← h.len]; exact hj
  refine ⟨by simp [h.len], fun i y r hy hr => ?_, fun i k y z b hik hy hz hb => ?_, fun i y b hy hb => ?_⟩
  · rw [List.getElem?_set] at hy hr
    by_cases e : j = i
    · subst e
      simp [hj] at hy; simp [hjr] at hr
      subst hy; subst hr
      exact hn
    · simp only [e, if_false] at hy hr
      exact (h.row i y r hy hr).stp s (fun b hb => fr b (h.lt hy hb).2 (fun e' => h.dis i j y x b (Ne.symm e) hy hx hb e'.symm))
  · rw [List.getElem?_set] at hy hz
    by_cases e1 : j = i
    · subst e1
      simp [hj] at hy
      subst hy
      simp only [hik, if_false] at hz
      rcases bl b hb with hb' | hb'
      · exact h.dis j k x z b hik hx hz hb'
      · intro hzb; have := (h.lt hz hzb).2; omega
    · simp only [e1, if_false] at hy
      by_cases e2 : j = k
      · subst e2
        simp [hj] at hz
        subst hz
        intro hzb
        rcases bl b hzb with hb' | hb'
        · exact h.dis i j y x b hik hy hx hb hb'
        · have := (h.lt hy hb).2; omega
      · simp only [e2, if_false] at hz
        exact h.dis i k y z b hik hy hz hb
  · rw [List.getElem?_set] at hy
    by_cases e1 : j = i
    · subst e1
      simp [hj] at hy
      subst hy
      intro hvb
      rcases bl b hb with hb' | hb'
      · exact h.top j x b hx hb' hvb
      · have := hvt b hvb; omega
    · simp only [e1, if_false] at hy
      exact h.top i y b hy hb

/-- Nobody writes them any more. -/
theorem MRows.sl {e2 : Nat} (h : MRows e B M w vt vs rows) (ht : OwnSl e2 B M w vt vs) (hl : rows.length < 140737488355328) (hr : ∀ r ∈ rows, r.length < 140737488355328) {M0 : Nat → Prop} (h0 : ∀ b, M0 b → b < B) (hsub : ∀ b, M0 b → M b) : Sl M0 w vt rows := by
  obtain ⟨a, c, hv, hlt, hc, he⟩ := ht.sl (by rw [h.len]; exact hl) h0 hsub
  refine ⟨a, c, by rw [hv, h.len], hl, by rw [← h.len]; exact hc, ?_⟩
  rcases he with he | ⟨b, off, ha, hel⟩
  · left
    have := h.len
    rw [he] at this
    exact List.eq_nil_of_length_eq_zero this.symm
  · right
    refine ⟨b, off, ha, fun i r hir => ?_⟩
    have hi : i < vs.length := by rw [h.len]; exact (List.getElem?_eq_some_iff.1 hir).1
    obtain ⟨u, ⟨hu, _⟩, hat⟩ := hel i vs[i] (List.getElem?_eq_getElem hi)
    exact ⟨u, by rw [hu]; exact (h.row i _ r (List.getElem?_eq_getElem hi) hir).sl (hr r (List.mem_of_getElem? hir)) h0 hsub, hat⟩
end
end Rw
