/- Plain laws on graphs, part three: the graph turned round. No program in sight. -/
import Derived.Test.YtcledfefgbbgeaaPlainH
namespace Rw
open Classical

/-- The graph turned round under way: the needs of the first k nodes have been gone through. -/
structure Back (needs : List (List Int)) (k : Nat) (rows : List (List Int)) : Prop where
  len : rows.length = needs.length
  row : ∀ (v : Nat) (r : List Int), rows[v]? = some r → r.length ≤ k * 1000000 ∧ ∀ x, x ∈ r ↔ ∃ u : Nat, x = (u : Int) ∧ u < k ∧ Edge needs u v

/-- And of the k-th one's needs s the first p have been. -/
structure BackIn (needs : List (List Int)) (k : Nat) (s : List Int) (p : Nat) (rows : List (List Int)) : Prop where
  len : rows.length = needs.length
  need : needs[k]? = some s
  le : p ≤ s.length
  row : ∀ (v : Nat) (r : List Int), rows[v]? = some r → r.length ≤ k * 1000000 + p ∧ ∀ x, x ∈ r ↔ ((∃ u : Nat, x = (u : Int) ∧ u < k ∧ Edge needs u v) ∨ (x = (k : Int) ∧ ∃ q, q < p ∧ s[q]? = some (v : Int)))

theorem back_start (needs : List (List Int)) : Back needs 0 (List.replicate needs.length []) :=
  ⟨by simp, fun v r hr => by
    rw [List.getElem?_replicate] at hr
    split at hr
    · cases hr; exact ⟨by rw [Nat.zero_mul]; exact Nat.le_refl _, fun x => ⟨fun h => (by cases h), fun ⟨u, _, hu, _⟩ => absurd hu (Nat.not_lt_zero _)⟩⟩
    · cases hr⟩
theorem back_in {needs : List (List Int)} {k : Nat} {rows : List (List Int)} {s : List Int} (h : Back needs k rows) (hs : needs[k]? = some s) : BackIn needs k s 0 rows :=
  ⟨h.len, hs, Nat.zero_le _, fun v r hr => ⟨Nat.le_add_right_of_le (h.row v r hr).1, fun x => by
    rw [(h.row v r hr).2 x]
    constructor
    · exact .inl
    · rintro (h1 | ⟨_, q, hq, _⟩)
      · exact h1
      · exact absurd hq (Nat.not_lt_zero _)⟩⟩
theorem back_skip {needs : List (List Int)} {k p : Nat} {rows : List (List Int)} {s : List Int} (h : BackIn needs k s p rows) (hp : p < s.length) (hno : isNode needs s[p] = false) : BackIn needs k s (p + 1) rows :=
  ⟨h.len, h.need, by omega, fun v r hr => ⟨by have := (h.row v r hr).1; omega, fun x => by
    rw [(h.row v r hr).2 x]
    constructor
    · rintro (h1 | ⟨h1, q, hq, hq2⟩)
      · exact .inl h1
      · exact .inr ⟨h1, q, by omega, hq2⟩
    · rintro (h1 | ⟨h1, q, hq, hq2⟩)
      · exact .inl h1
      · by_cases e : q = p
        · subst e
          rw [List.getElem?_eq_getElem hp] at hq2
          have hv : v < needs.length := by rw [← h.len]; exact (List.getElem?_eq_some_iff.1 hr).1
          exact absurd hno (isNode_of (by simpa using hq2) hv)
        · exact .inr ⟨h1, q, by omega, hq2⟩⟩⟩
theorem back_mark {needs : List (List Int)} {k p v : Nat} {rows : List (List Int)} {s : List Int} (h : BackIn needs k s p rows) (hp : p < s.length) (hv : s[p] = (v : Int)) (hvr : v < rows.length) : BackIn needs k s (p + 1) (rows.set v (rows[v] ++ [(k : Int)])) := by
  refine ⟨by rw [List.length_set]; exact h.len, h.need, by omega, fun y r hr => ?_⟩
  rw [List.getElem?_set] at hr
  by_cases e : v = y
  · subst e
    simp [hvr] at hr
    subst hr
    have h0 := h.row v _ (List.getElem?_eq_getElem hvr)
    refine ⟨by have := h0.1; rw [List.length_append]; simp; omega, fun x => ?_⟩
    rw [List.mem_append, h0.2 x, List.mem_singleton]
    constructor
    · rintro ((h1 | ⟨h1, q, hq, hq2⟩) | rfl)
      · exact .inl h1
      · exact .inr ⟨h1, q, by omega, hq2⟩
      · exact .inr ⟨rfl, p, by omega, by rw [List.getElem?_eq_getElem hp, hv]⟩
    · rintro (h1 | ⟨rfl, _⟩)
      · exact .inl (.inl h1)
      · exact .inr rfl
  · simp only [e, if_false] at hr
    have h0 := h.row y r hr
    refine ⟨by have := h0.1; omega, fun x => ?_⟩
    rw [h0.2 x]
    constructor
    · rintro (h1 | ⟨h1, q, hq, hq2⟩)
      · exact .inl h1
      · exact .inr ⟨h1, q, by omega, hq2⟩
    · rintro (h1 | ⟨h1, q, hq, hq2⟩)
      · exact .inl h1
      · by_cases e2 : q = p
        · subst e2
          rw [List.getElem?_eq_getElem hp, hv] at hq2
          simp at hq2
          omega
        · exact .inr ⟨h1, q, by omega, hq2⟩
theorem back_next {needs : List (List Int)} {k p : Nat} {rows : List (List Int)} {s : List Int} (h : BackIn needs k s p rows) (hp : s.length ≤ p) (hs : s.length ≤ 1000000) : Back needs (k + 1) rows := by
  refine ⟨h.len, fun v r hr => ?_⟩
  have h0 := h.row v r hr
  have hle := h.le
  refine ⟨by have := h0.1; omega, fun x => ?_⟩
  have hv : v < needs.length := by rw [← h.len]; exact (List.getElem?_eq_some_iff.1 hr).1
  rw [h0.2 x]
  constructor
  · rintro (⟨u, hu, hk, he⟩ | ⟨h1, q, hq, hq2⟩)
    · exact ⟨u, hu, by omega, he⟩
    · exact ⟨k, h1, by omega, s, h.need, List.mem_of_getElem? hq2, hv⟩
  · rintro ⟨u, hu, hk, he⟩
    by_cases e : u = k
    · subst e
      obtain ⟨s', hs', hm, _⟩ := he
      rw [h.need] at hs'
      cases hs'
      obtain ⟨q, hq, hq2⟩ := List.getElem_of_mem hm
      exact .inr ⟨hu, q, by omega, by rw [List.getElem?_eq_getElem hq, hq2]⟩
    · exact .inl ⟨u, hu, by omega, he⟩

theorem back_edge {needs rows : List (List Int)} {k : Nat} (h : Back needs k rows) (hk : needs.length ≤ k) {u v : Nat} : Edge rows v u ↔ Edge needs u v := by
  constructor
  · rintro ⟨r, hr, hm, _⟩
    obtain ⟨x, hx, _, he⟩ := ((h.row v r hr).2 _).1 hm
    have : u = x := by omega
    subst this; exact he
  · intro he
    have hv : v < rows.length := by rw [h.len]; exact he.choose_spec.2.2
    refine ⟨rows[v], List.getElem?_eq_getElem hv, ((h.row v _ (List.getElem?_eq_getElem hv)).2 _).2 ⟨u, rfl, by have := he.lt; omega, he⟩, by rw [h.len]; exact he.lt⟩

theorem Rch.head {needs : List (List Int)} {u v x : Nat} (e : Edge needs u v) (h : Rch needs v x) : Rch needs u x := (Rch.one e).trans h

theorem back_rch {needs rows : List (List Int)} {k : Nat} (h : Back needs k rows) (hk : needs.length ≤ k) {u v : Nat} : Rch rows v u ↔ Rch needs u v := by
  constructor
  · intro hr
    induction hr with
    | one e => exact .one ((back_edge h hk).1 e)
    | more _ e ih => exact Rch.head ((back_edge h hk).1 e) ih
  · intro hr
    induction hr with
    | one e => exact .one ((back_edge h hk).2 e)
    | more _ e ih => exact Rch.head ((back_edge h hk).2 e) ih

theorem back_marked {needs rows : List (List Int)} {k : Nat} (h : Back needs k rows) (hk : needs.length ≤ k) (i : Nat) : markedL (reachM rows i) = pickUpto (fun j => decide (Rch needs j i)) needs.length := by
  rw [reach_marked, h.len]
  congr 1
  funext j
  exact decide_eq_decide.2 (back_rch h hk)
end Rw
