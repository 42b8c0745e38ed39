/- Plain laws on graphs: what a walk along a graph's needs meets. No program in sight. -/
import Derived.Test.YtcledfefgbbgeaaPlainA
namespace Rw
open Classical

/-- May it be a node? -/
def isNode (needs : List (List Int)) (i : Int) : Bool := decide (0 ≤ i ∧ i < (needs.length : Int))

theorem isNode_nat {needs : List (List Int)} {i : Int} (h : isNode needs i = true) : ∃ v : Nat, i = (v : Int) ∧ v < needs.length := by
  have h' : 0 ≤ i ∧ i < (needs.length : Int) := of_decide_eq_true h
  exact ⟨i.toNat, by omega, by omega⟩
theorem isNode_of {needs : List (List Int)} {i : Int} {v : Nat} (h : i = (v : Int)) (hv : v < needs.length) : ¬ isNode needs i = false := by
  have : isNode needs i = true := decide_eq_true ⟨by omega, by omega⟩
  simp [this]

/-- The places of marks, before k. -/
def markedUpto (l : List Bool) (k : Nat) : List Int := ((List.range k).filter fun j => l[j]? == some true).map fun (j : Nat) => (j : Int)
def markedL (l : List Bool) : List Int := markedUpto l l.length

theorem markedUpto_yes {l : List Bool} {k : Nat} (hk : k < l.length) (h : l[k] = true) : markedUpto l (k + 1) = markedUpto l k ++ [(k : Int)] := by
  simp [markedUpto, List.range_succ, List.filter_append, hk, h]
theorem markedUpto_no {l : List Bool} {k : Nat} (hk : k < l.length) (h : l[k] = false) : markedUpto l (k + 1) = markedUpto l k := by
  simp [markedUpto, List.range_succ, List.filter_append, hk, h]
theorem markedUpto_length (l : List Bool) (k : Nat) : (markedUpto l k).length ≤ k := by
  unfold markedUpto
  rw [List.length_map]
  exact Nat.le_trans (List.length_filter_le _ _) (by simp)
theorem markedUpto_all {l : List Bool} {k : Nat} (h1 : k ≤ l.length) (h2 : l.length ≤ k) : markedUpto l k = markedL l := by
  rw [markedL, Nat.le_antisymm h1 h2]

/-- u needs v. -/
def Edge (needs : List (List Int)) (u v : Nat) : Prop := ∃ l, needs[u]? = some l ∧ (v : Int) ∈ l ∧ v < needs.length

/-- u reaches v. -/
inductive Rch (needs : List (List Int)) : Nat → Nat → Prop
  | one {u v : Nat} (h : Edge needs u v) : Rch needs u v
  | more {u v x : Nat} (h : Rch needs u v) (e : Edge needs v x) : Rch needs u x

theorem Rch.lt {needs : List (List Int)} {u v : Nat} (h : Rch needs u v) : v < needs.length := by
  cases h with
  | one h => exact h.choose_spec.2.2
  | more _ e => exact e.choose_spec.2.2
theorem Edge.lt {needs : List (List Int)} {u v : Nat} (h : Edge needs u v) : u < needs.length := by
  obtain ⟨l, h1, _⟩ := h
  exact (List.getElem?_eq_some_iff.1 h1).1
theorem Rch.lt' {needs : List (List Int)} {u v : Nat} (h : Rch needs u v) : u < needs.length := by
  induction h with
  | one h => exact h.lt
  | more _ _ ih => exact ih
theorem Rch.trans {needs : List (List Int)} {u v x : Nat} (h : Rch needs u v) (k : Rch needs v x) : Rch needs u x := by
  induction k with
  | one e => exact .more h e
  | more _ e ih => exact .more ih e

/-- What a node reaches, as marks. -/
noncomputable def reachM (needs : List (List Int)) (i : Nat) : List Bool := (List.range needs.length).map fun k => decide (Rch needs i k)

/-- A walk from i under way: l what has been met, i first; m the marks; the needs of the first k of l have been gone through. -/
structure Bfs (needs : List (List Int)) (i k : Nat) (l : List Int) (m : List Bool) : Prop where
  len : m.length = needs.length
  lt : i < needs.length
  head : ∃ r, l = (i : Int) :: r ∧ r.Nodup ∧ ∀ x, x ∈ r ↔ ∃ j : Nat, x = (j : Int) ∧ m[j]? = some true
  le : k ≤ l.length
  sound : ∀ j, m[j]? = some true → Rch needs i j
  done : ∀ (p : Nat) (u : Nat), p < k → l[p]? = some (u : Int) → ∀ v, Edge needs u v → m[v]? = some true

/-- And of the next one's needs s the first p have been. -/
structure BfsIn (needs : List (List Int)) (i k : Nat) (u : Nat) (s : List Int) (p : Nat) (l : List Int) (m : List Bool) : Prop where
  base : Bfs needs i k l m
  here : l[k]? = some (u : Int)
  need : needs[u]? = some s
  le : p ≤ s.length
  part : ∀ j, j < p → ∀ v : Nat, s[j]? = some (v : Int) → v < needs.length → m[v]? = some true

theorem rep_false {n j : Nat} : ¬ (List.replicate n false)[j]? = some true := by
  rw [List.getElem?_replicate]
  split <;> simp
theorem bfs_start {needs : List (List Int)} {i : Nat} (hi : i < needs.length) : Bfs needs i 0 [(i : Int)] (List.replicate needs.length false) := by
  refine ⟨by simp, hi, ⟨[], rfl, List.nodup_nil, fun x => ?_⟩, Nat.zero_le _, fun j h => absurd h rep_false, fun p u hp => absurd hp (Nat.not_lt_zero _)⟩
  constructor
  · intro h; cases h
  · rintro ⟨j, _, h⟩; exact absurd h rep_false

/-- What has been met is a node. -/
theorem Bfs.node {needs : List (List Int)} {i k : Nat} {l : List Int} {m : List Bool} (h : Bfs needs i k l m) {p : Nat} {x : Int} (hx : l[p]? = some x) : ∃ u : Nat, x = (u : Int) ∧ u < needs.length := by
  obtain ⟨r, rfl, _, hr⟩ := h.head
  cases p with
  | zero => simp at hx; exact ⟨i, hx.symm, h.lt⟩
  | succ p =>
    have : x ∈ r := List.mem_of_getElem? (by simpa using hx)
    obtain ⟨j, rfl, hj⟩ := (hr x).1 this
    exact ⟨j, rfl, (h.sound j hj).lt⟩

theorem bfs_in {needs : List (List Int)} {i k : Nat} {l : List Int} {m : List Bool} (h : Bfs needs i k l m) {u : Nat} {s : List Int} (hu : l[k]? = some (u : Int)) (hs : needs[u]? = some s) : BfsIn needs i k u s 0 l m :=
  ⟨h, hu, hs, Nat.zero_le _, fun j hj => absurd hj (Nat.not_lt_zero _)⟩

/-- The next need is no node, or has been met. -/
theorem bfs_skip {needs : List (List Int)} {i k u p : Nat} {s l : List Int} {m : List Bool} (h : BfsIn needs i k u s p l m) (hp : p < s.length) (hno : ∀ v : Nat, s[p] = (v : Int) → v < needs.length → m[v]? = some true) : BfsIn needs i k u s (p + 1) l m :=
  ⟨h.base, h.here, h.need, by omega, fun j hj v hv hlt => by
    by_cases e : j = p
    · subst e
      rw [List.getElem?_eq_getElem hp] at hv
      exact hno v (by simpa using hv) hlt
    · exact h.part j (by omega) v hv hlt⟩

theorem bfs_old {needs : List (List Int)} {i k u p v : Nat} {s l : List Int} {m : List Bool} (h : BfsIn needs i k u s p l m) (hp : p < s.length) (hv : s[p] = (v : Int)) (hm : m[v]? = some true) : BfsIn needs i k u s (p + 1) l m :=
  bfs_skip h hp (fun v' hv' _ => by
    have : v' = v := by omega
    subst this; exact hm)

theorem getElem?_set_of {m : List Bool} {v j : Nat} (hv : v < m.length) : (m.set v true)[j]? = some true ↔ (j = v ∨ m[j]? = some true) := by
  rw [List.getElem?_set]
  by_cases h : v = j
  · subst h; simp [hv]
  · simp only [h, if_false]
    constructor
    · exact fun e => .inr e
    · rintro (e | e)
      · exact absurd e.symm h
      · exact e

/-- It is new. -/
theorem bfs_new {needs : List (List Int)} {i k u p v : Nat} {s l : List Int} {m : List Bool} (h : BfsIn needs i k u s p l m) (hp : p < s.length) (hv : s[p] = (v : Int)) (hlt : v < needs.length) (hm : ¬ m[v]? = some true) :
    BfsIn needs i k u s (p + 1) (l ++ [(v : Int)]) (m.set v true) := by
  have hvl : v < m.length := by rw [h.base.len]; exact hlt
  have hedge : Edge needs u v := ⟨s, h.need, by rw [← hv]; exact List.getElem_mem hp, hlt⟩
  have hru : u = i ∨ m[u]? = some true := by
    obtain ⟨r, hr1, _, hr⟩ := h.base.head
    have hh := h.here
    rw [hr1] at hh
    cases k with
    | zero => simp at hh; exact .inl (by omega)
    | succ k =>
      have : (u : Int) ∈ r := List.mem_of_getElem? (by simpa using hh)
      obtain ⟨j, hj, hj2⟩ := (hr _).1 this
      have : u = j := by omega
      exact .inr (this ▸ hj2)
  have hreach : Rch needs i v := by
    rcases hru with rfl | hu
    · exact .one hedge
    · exact .more (h.base.sound u hu) hedge
  refine ⟨⟨by rw [List.length_set]; exact h.base.len, h.base.lt, ?_, ?_, ?_, ?_⟩, ?_, h.need, by omega, ?_⟩
  · obtain ⟨r, rfl, hnd, hr⟩ := h.base.head
    refine ⟨r ++ [(v : Int)], rfl, ?_, fun x => ?_⟩
    · rw [List.nodup_append]
      refine ⟨hnd, by simp, fun a ha b hb => ?_⟩
      simp at hb
      subst hb
      rintro rfl
      obtain ⟨j, hj, hj2⟩ := (hr _).1 ha
      have : v = j := by omega
      exact hm (this ▸ hj2)
    · rw [List.mem_append, hr]
      simp only [List.mem_singleton]
      constructor
      · rintro (⟨j, rfl, hj⟩ | rfl)
        · exact ⟨j, rfl, (getElem?_set_of hvl).2 (.inr hj)⟩
        · exact ⟨v, rfl, (getElem?_set_of hvl).2 (.inl rfl)⟩
      · rintro ⟨j, rfl, hj⟩
        rcases (getElem?_set_of hvl).1 hj with rfl | hj
        · exact .inr rfl
        · exact .inl ⟨j, rfl, hj⟩
  · have := h.base.le; rw [List.length_append]; omega
  · intro j hj
    rcases (getElem?_set_of hvl).1 hj with rfl | hj
    · exact hreach
    · exact h.base.sound j hj
  · intro q x hq hx y he
    refine (getElem?_set_of hvl).2 (.inr (h.base.done q x hq ?_ y he))
    rw [List.getElem?_append_left (by have := h.base.le; omega)] at hx
    exact hx
  · rw [List.getElem?_append_left (List.getElem?_eq_some_iff.1 h.here).1]; exact h.here
  · intro j hj x hx hxl
    refine (getElem?_set_of hvl).2 ?_
    by_cases e : j = p
    · subst e
      rw [List.getElem?_eq_getElem hp, hv] at hx
      simp at hx
      exact .inl (by omega)
    · exact .inr (h.part j (by omega) x hx hxl)

/-- The needs of one more have been gone through. -/
theorem bfs_next {needs : List (List Int)} {i k u p : Nat} {s l : List Int} {m : List Bool} (h : BfsIn needs i k u s p l m) (hp : s.length ≤ p) : Bfs needs i (k + 1) l m := by
  refine ⟨h.base.len, h.base.lt, h.base.head, (List.getElem?_eq_some_iff.1 h.here).1, h.base.sound, fun q x hq hx v he => ?_⟩
  by_cases e : q = k
  · subst e
    have hh := h.here
    rw [hx] at hh
    have : x = u := by simp at hh; omega
    subst this
    obtain ⟨s', hs', hm, hlt⟩ := he
    rw [h.need] at hs'
    cases hs'
    obtain ⟨j, hj, hj2⟩ := List.getElem_of_mem hm
    exact h.part j (by omega) v (by rw [List.getElem?_eq_getElem hj, hj2]) hlt
  · exact h.base.done q x (by omega) hx v he

theorem bfs_length {needs : List (List Int)} {i k : Nat} {l : List Int} {m : List Bool} (h : Bfs needs i k l m) : l.length ≤ needs.length + 1 := by
  obtain ⟨r, rfl, hnd, hr⟩ := h.head
  have hsub : r ⊆ (List.range needs.length).map fun (j : Nat) => (j : Int) := fun x hx => by
    obtain ⟨j, rfl, hj⟩ := (hr x).1 hx
    exact List.mem_map.2 ⟨j, List.mem_range.2 (h.sound j hj).lt, rfl⟩
  have := hnd.length_le_of_subset hsub
  simp at this ⊢
  omega

/-- All have been gone through: the marks are what i reaches. -/
theorem bfs_end {needs : List (List Int)} {i k : Nat} {l : List Int} {m : List Bool} (h : Bfs needs i k l m) (hk : l.length ≤ k) : m = reachM needs i := by
  have all : ∀ u : Nat, (u = i ∨ m[u]? = some true) → ∀ v, Edge needs u v → m[v]? = some true := by
    intro u hu v he
    obtain ⟨r, rfl, _, hr⟩ := h.head
    rcases hu with rfl | hu
    · exact h.done 0 u (by simp at hk; omega) rfl v he
    · have : (u : Int) ∈ r := (hr _).2 ⟨u, rfl, hu⟩
      obtain ⟨p, hp, hp2⟩ := List.getElem_of_mem this
      refine h.done (p + 1) u (by simp at hk; omega) ?_ v he
      simp [hp, hp2]
  have complete : ∀ v, Rch needs i v → m[v]? = some true := by
    intro v hv
    induction hv with
    | one e => exact all i (.inl rfl) _ e
    | more _ e ih => exact all _ (.inr ih) _ e
  apply List.ext_getElem?
  intro j
  rcases Nat.lt_or_ge j needs.length with hj | hj
  · have e2 : (reachM needs i)[j]? = some (decide (Rch needs i j)) := by simp [reachM, hj]
    rw [e2, List.getElem?_eq_getElem (by rw [h.len]; exact hj)]
    congr 1
    by_cases hr : Rch needs i j
    · have := complete j hr
      rw [List.getElem?_eq_getElem (by rw [h.len]; exact hj)] at this
      simpa [hr] using this
    · simp only [hr, decide_false]
      cases hb : m[j]'(by rw [h.len]; exact hj) with
      | false => rfl
      | true => exact absurd (h.sound j (by rw [List.getElem?_eq_getElem (by rw [h.len]; exact hj), hb])) hr
  · rw [List.getElem?_eq_none (by rw [h.len]; exact hj), List.getElem?_eq_none (by simp [reachM]; exact hj)]

end Rw
