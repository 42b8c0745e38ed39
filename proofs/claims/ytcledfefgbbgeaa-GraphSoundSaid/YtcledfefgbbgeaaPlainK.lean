/- Plain laws on graphs, part five: what is in the order, and where. No program in sight. -/
import Derived.Test.YtcledfefgbbgeaaPlainJ
namespace Rw
open Classical

/-- On a circle, or reaches one. -/
def Bad (needs : List (List Int)) (i : Nat) : Prop := Rch needs i i ∨ ∃ k, Rch needs i k ∧ Rch needs k k

/-- What is in, and where, under way. -/
structure OrdOk (needs : List (List Int)) (inn : List Bool) (out : List Int) : Prop where
  len : inn.length = needs.length
  mem : ∀ j : Nat, inn[j]? = some true ↔ (j : Int) ∈ out
  node : ∀ x ∈ out, ∃ j : Nat, x = (j : Int) ∧ j < needs.length
  nodup : out.Nodup
  before : ∀ (p u v : Nat), out[p]? = some (u : Int) → Edge needs u v → ∃ q, q < p ∧ out[q]? = some (v : Int)

theorem waits_of {needs : List (List Int)} {inn : List Bool} {v : Nat} (hv : v < needs.length) (hl : inn.length = needs.length) : waits needs inn (v : Int) = true ↔ ¬ inn[v]? = some true := by
  have h1 : isNode needs (v : Int) = true := decide_eq_true ⟨by omega, by omega⟩
  have h2 : v < inn.length := by omega
  unfold waits
  rw [h1]
  simp [List.getElem?_eq_getElem h2]
theorem cand_of {needs : List (List Int)} {inn : List Bool} {i : Nat} (hl : inn.length = needs.length) (hi : i < needs.length) : cand needs inn i = true ↔ ¬ inn[i]? = some true ∧ ∀ v, Edge needs i v → inn[v]? = some true := by
  have h2 : i < inn.length := by omega
  unfold cand
  rw [Bool.and_eq_true]
  constructor
  · rintro ⟨h, k⟩
    refine ⟨fun e => by rw [e] at h; simp at h, fun v he => ?_⟩
    obtain ⟨l, hl', hm, hv⟩ := he
    rw [hl'] at k
    apply byContradiction
    intro hne
    have : (l.any (waits needs inn)) = true := List.any_eq_true.2 ⟨_, hm, (waits_of hv hl).2 hne⟩
    simp [this] at k
  · rintro ⟨h, k⟩
    constructor
    · rw [List.getElem?_eq_getElem h2] at h ⊢
      simpa using h
    · rw [List.getElem?_eq_getElem hi]
      simp only [Option.getD_some]
      have : needs[i].any (waits needs inn) = false := by
        rw [List.any_eq_false]
        intro x hx hw
        have hn : isNode needs x = true := by
          unfold waits at hw
          rw [Bool.and_eq_true] at hw
          exact hw.1
        obtain ⟨v, rfl, hv⟩ := isNode_nat hn
        exact (waits_of hv hl).1 hw (k v ⟨needs[i], List.getElem?_eq_getElem hi, hx, hv⟩)
      simp [this]

theorem ord_ok (needs : List (List Int)) : ∀ t, OrdOk needs (ordS needs t).1 (ordS needs t).2
  | 0 => by
    refine ⟨by simp [ordS], fun j => ?_, fun x hx => by simp [ordS] at hx, by simp [ordS], fun p u v h => by simp [ordS] at h⟩
    constructor
    · intro h; exact absurd h rep_false
    · intro h; simp [ordS] at h
  | t + 1 => by
    have ih := ord_ok needs t
    cases hn : nextOf needs (ordS needs t).1 with
    | none => rw [ordS_none hn]; exact ih
    | some i =>
      obtain ⟨hi, hc, _⟩ := nextOf_spec hn
      obtain ⟨hni, hall⟩ := (cand_of ih.len hi).1 hc
      rw [ordS_some hn]
      have hil : i < (ordS needs t).1.length := by rw [ih.len]; exact hi
      refine ⟨by simp [ih.len], fun j => ?_, fun x hx => ?_, ?_, fun p u v hp he => ?_⟩
      · show ((ordS needs t).1.set i true)[j]? = some true ↔ _
        rw [getElem?_set_of hil, List.mem_append, ih.mem j, List.mem_singleton]
        constructor
        · rintro (rfl | h)
          · exact .inr rfl
          · exact .inl h
        · rintro (h | h)
          · exact .inr h
          · exact .inl (by omega)
      · rcases List.mem_append.1 hx with h | h
        · exact ih.node x h
        · exact ⟨i, by simpa using h, hi⟩
      · show ((ordS needs t).2 ++ [(i : Int)]).Nodup
        rw [List.nodup_append]
        refine ⟨ih.nodup, by simp, fun a ha b hb => ?_⟩
        simp at hb
        subst hb
        rintro rfl
        exact hni ((ih.mem i).2 ha)
      · by_cases hpl : p < (ordS needs t).2.length
        · rw [List.getElem?_append_left hpl] at hp
          obtain ⟨q, hq, hq2⟩ := ih.before p u v hp he
          exact ⟨q, hq, by rw [List.getElem?_append_left (by omega)]; exact hq2⟩
        · have hpe : p = (ordS needs t).2.length := by
            have := (List.getElem?_eq_some_iff.1 hp).1
            simp at this
            omega
          subst hpe
          have hui : u = i := by
            rw [List.getElem?_append_right (Nat.le_refl _)] at hp
            simp at hp
            omega
          subst hui
          have hm := (ih.mem v).1 (hall v he)
          obtain ⟨q, hq, hq2⟩ := List.getElem_of_mem hm
          exact ⟨q, hq, by rw [List.getElem?_append_left hq, List.getElem?_eq_getElem hq, hq2]⟩

/-- At the end nothing more can come. -/
theorem ord_stop (needs : List (List Int)) : nextOf needs (ordS needs needs.length).1 = none := by
  apply byContradiction
  intro hne
  have hpast : ∀ s, s < needs.length + 1 → nextOf needs (ordS needs s).1 ≠ none := by
    intro s hs hn
    have := ordS_stop hn (needs.length - s)
    rw [show s + (needs.length - s) = needs.length by omega] at this
    rw [this] at hne
    exact hne hn
  have := ordS_t_le hpast
  omega

theorem order_ok (needs : List (List Int)) : OrdOk needs (ordS needs needs.length).1 (orderL needs) := ord_ok needs needs.length

theorem order_before {needs : List (List Int)} {p u v : Nat} (hp : (orderL needs)[p]? = some (u : Int)) (h : Rch needs u v) : ∃ q, q < p ∧ (orderL needs)[q]? = some (v : Int) := by
  induction h with
  | one e => exact (order_ok needs).before p _ _ hp e
  | more _ e ih =>
    obtain ⟨q, hq, hq2⟩ := ih
    obtain ⟨r, hr, hr2⟩ := (order_ok needs).before q _ _ hq2 e
    exact ⟨r, by omega, hr2⟩

theorem nodup_at {l : List Int} (hd : l.Nodup) {p q : Nat} {x : Int} (hp : l[p]? = some x) (hq : l[q]? = some x) : p = q := by
  have h1 := List.getElem?_eq_some_iff.1 hp
  have h2 := List.getElem?_eq_some_iff.1 hq
  obtain ⟨a1, a2⟩ := h1
  obtain ⟨b1, b2⟩ := h2
  exact (List.getElem_inj hd).1 (a2.trans b2.symm)

/-- What is in isn't bad. -/
theorem order_sound {needs : List (List Int)} {i : Nat} (h : (i : Int) ∈ orderL needs) : ¬ Bad needs i := by
  obtain ⟨p, hp, hp2⟩ := List.getElem_of_mem h
  have hpi : (orderL needs)[p]? = some (i : Int) := by rw [List.getElem?_eq_getElem hp, hp2]
  have self : ∀ {q k : Nat}, (orderL needs)[q]? = some (k : Int) → ¬ Rch needs k k := by
    intro q k hq hr
    obtain ⟨r, hr1, hr2⟩ := order_before hq hr
    have := nodup_at (order_ok needs).nodup hq hr2
    omega
  rintro (h | ⟨k, h1, h2⟩)
  · exact self hpi h
  · obtain ⟨q, _, hq⟩ := order_before hpi h1
    exact self hq h2

theorem reach_cnt {needs : List (List Int)} {u v : Nat} (e : Edge needs u v) (hv : ¬ Rch needs v v) : cnt (reachM needs v) < cnt (reachM needs u) := by
  have hlt : v < needs.length := e.choose_spec.2.2
  have get : ∀ (i k : Nat), (reachM needs i)[k]? = some true ↔ k < needs.length ∧ Rch needs i k := by
    intro i k
    unfold reachM
    rw [range_map_get]
    by_cases hk : k < needs.length <;> simp [hk]
  rcases cnt_lt (a := reachM needs v) (b := reachM needs u) (by rw [reachM_length, reachM_length]) (fun k hk => by
    obtain ⟨h1, h2⟩ := (get v k).1 hk
    exact (get u k).2 ⟨h1, Rch.head e h2⟩) with he | h
  · have h1 : (reachM needs u)[v]? = some true := (get u v).2 ⟨hlt, .one e⟩
    rw [← he] at h1
    exact absurd ((get v v).1 h1).2 hv
  · exact h

theorem order_step {needs : List (List Int)} (i : Nat) (hi : i < needs.length) (_hb : ¬ Bad needs i) (hall : ∀ v, Edge needs i v → (v : Int) ∈ orderL needs) : (i : Int) ∈ orderL needs := by
  apply byContradiction
  intro hne
  have hok := order_ok needs
  have hc : cand needs (ordS needs needs.length).1 i = true :=
    (cand_of hok.len hi).2 ⟨fun h => hne ((hok.mem i).1 h), fun v e => (hok.mem v).2 (hall v e)⟩
  have hstop := ord_stop needs
  unfold nextOf at hstop
  rw [List.find?_eq_none] at hstop
  exact hstop i (List.mem_range.2 hi) hc
/-- What isn't bad is in. -/
theorem order_full {needs : List (List Int)} : ∀ (c i : Nat), cnt (reachM needs i) ≤ c → i < needs.length → ¬ Bad needs i → (i : Int) ∈ orderL needs := by
  intro c
  induction c with
  | zero =>
    intro i hc hi hb
    exact order_step i hi hb (fun v e => by
      have hv : ¬ Rch needs v v := fun h => hb (.inr ⟨v, .one e, h⟩)
      have := reach_cnt e hv
      omega)
  | succ c ih =>
    intro i hc hi hb
    exact order_step i hi hb (fun v e => by
      have hv : ¬ Rch needs v v := fun h => hb (.inr ⟨v, .one e, h⟩)
      have h1 := reach_cnt e hv
      refine ih v (by omega) e.choose_spec.2.2 ?_
      rintro (h | ⟨k, h, h2⟩)
      · exact hv h
      · exact hb (.inr ⟨k, Rch.head e h, h2⟩))

theorem mem_order {needs : List (List Int)} {i : Nat} (hi : i < needs.length) : (i : Int) ∈ orderL needs ↔ ¬ Bad needs i :=
  ⟨order_sound, order_full _ i (Nat.le_refl _) hi⟩

theorem mem_pick {p : Nat → Bool} {k : Nat} {x : Int} : x ∈ pickUpto p k ↔ ∃ j : Nat, x = (j : Int) ∧ j < k ∧ p j = true := by
  unfold pickUpto
  rw [List.mem_map]
  constructor
  · rintro ⟨j, hj, rfl⟩
    rw [List.mem_filter, List.mem_range] at hj
    exact ⟨j, rfl, hj.1, hj.2⟩
  · rintro ⟨j, rfl, h1, h2⟩
    exact ⟨j, by rw [List.mem_filter, List.mem_range]; exact ⟨h1, h2⟩, rfl⟩
theorem mem_reach {needs : List (List Int)} {i : Nat} {x : Int} : x ∈ reachL needs (i : Int) ↔ ∃ j : Nat, x = (j : Int) ∧ Rch needs i j := by
  unfold reachL
  by_cases h : isNode needs (i : Int) = true
  · rw [if_pos h, mem_pick]
    constructor
    · rintro ⟨j, rfl, _, h2⟩; exact ⟨j, rfl, of_decide_eq_true h2⟩
    · rintro ⟨j, rfl, h2⟩; exact ⟨j, rfl, h2.lt, decide_eq_true h2⟩
  · rw [if_neg h]
    constructor
    · intro h; cases h
    · rintro ⟨j, _, h2⟩
      have := h2.lt'
      exact absurd (decide_eq_true (p := (0 : Int) ≤ (i : Int) ∧ (i : Int) < (needs.length : Int)) ⟨by omega, by omega⟩) h
theorem mem_behind {needs : List (List Int)} {i : Nat} {x : Int} : x ∈ behindL needs (i : Int) ↔ ∃ j : Nat, x = (j : Int) ∧ Rch needs j i := by
  unfold behindL
  by_cases h : isNode needs (i : Int) = true
  · rw [if_pos h, mem_pick]
    constructor
    · rintro ⟨j, rfl, _, h2⟩; exact ⟨j, rfl, of_decide_eq_true h2⟩
    · rintro ⟨j, rfl, h2⟩; exact ⟨j, rfl, h2.lt', decide_eq_true h2⟩
  · rw [if_neg h]
    constructor
    · intro h; cases h
    · rintro ⟨j, _, h2⟩
      have := h2.lt
      exact absurd (decide_eq_true (p := (0 : Int) ≤ (i : Int) ∧ (i : Int) < (needs.length : Int)) ⟨by omega, by omega⟩) h
theorem mem_circles {needs : List (List Int)} {i : Nat} : (i : Int) ∈ circlesL needs ↔ Rch needs i i := by
  unfold circlesL
  rw [mem_pick]
  constructor
  · rintro ⟨j, hj, _, h2⟩
    have : i = j := by omega
    subst this; exact of_decide_eq_true h2
  · intro h; exact ⟨i, rfl, h.lt, decide_eq_true h⟩

theorem reach_len (needs : List (List Int)) (i : Int) : (reachL needs i).length ≤ needs.length := by
  unfold reachL
  split
  · exact pick_length _ _
  · exact Nat.zero_le _
theorem order_len (needs : List (List Int)) : (orderL needs).length ≤ needs.length := ordS_out needs needs.length

/-! ## One need more -/

/-- Each node needs what it needed. -/
def Grew (needs more : List (List Int)) : Prop := needs.length = more.length ∧ ∀ (i : Nat) (l : List Int), needs[i]? = some l → ∃ l', more[i]? = some l' ∧ ∀ x ∈ l, x ∈ l'
theorem Grew.edge {needs more : List (List Int)} (h : Grew needs more) {u v : Nat} (e : Edge needs u v) : Edge more u v := by
  obtain ⟨l, hl, hm, hv⟩ := e
  obtain ⟨l', hl', hs⟩ := h.2 u l hl
  exact ⟨l', hl', hs _ hm, by rw [← h.1]; exact hv⟩
theorem Grew.rch {needs more : List (List Int)} (h : Grew needs more) {u v : Nat} (e : Rch needs u v) : Rch more u v := by
  induction e with
  | one e => exact .one (h.edge e)
  | more _ e ih => exact .more ih (h.edge e)
theorem Grew.bad {needs more : List (List Int)} (h : Grew needs more) {u : Nat} (e : Bad needs u) : Bad more u := by
  rcases e with e | ⟨k, e1, e2⟩
  · exact .inl (h.rch e)
  · exact .inr ⟨k, h.rch e1, h.rch e2⟩
theorem Grew.order {needs more : List (List Int)} (h : Grew needs more) {j : Nat} (hj : j < needs.length) (hm : (j : Int) ∈ orderL more) : (j : Int) ∈ orderL needs :=
  (mem_order hj).2 (fun hb => order_sound hm (h.bad hb))

/-- The graph with k needed by i besides, so far. -/
def grown (needs : List (List Int)) (i k : Int) (j : Nat) : List (List Int) := ((List.range j).map fun (m : Nat) => ((needs[m]?).getD []) ++ if (m : Int) = i then [k] else [])
theorem grown_succ {needs : List (List Int)} {i k : Int} {j : Nat} (hj : j < needs.length) : grown needs i k (j + 1) = grown needs i k j ++ [needs[j] ++ if (j : Int) = i then [k] else []] := by
  simp [grown, List.range_succ, hj]
theorem grown_length (needs : List (List Int)) (i k : Int) (j : Nat) : (grown needs i k j).length = j := by simp [grown]
theorem grown_grew (needs : List (List Int)) (i k : Int) : Grew needs (grown needs i k needs.length) := by
  refine ⟨by rw [grown_length], fun m l hl => ?_⟩
  have hm := (List.getElem?_eq_some_iff.1 hl).1
  refine ⟨l ++ if (m : Int) = i then [k] else [], ?_, fun x hx => List.mem_append_left _ hx⟩
  unfold grown
  rw [range_map_get, if_pos hm, hl]
  rfl

/-! ## The places -/
theorem at_neg {l : List Int} {n : Int} : atOf l n < 0 ↔ n ∉ l := by
  have := @inOf_at l n
  by_cases h : n ∈ l
  · simp [h] at this; constructor
    · intro h2; omega
    · intro h2; exact absurd h h2
  · simp [h] at this; exact ⟨fun _ => h, fun _ => by omega⟩
theorem at_place {l : List Int} {n : Int} (h : n ∈ l) : ∃ p : Nat, atOf l n = (p : Int) ∧ l[p]? = some n := by
  unfold atOf
  cases hf : l.findIdx? (fun x => decide (x = n)) with
  | some p =>
    rw [List.findIdx?_eq_some_iff_getElem] at hf
    obtain ⟨hp, h2, _⟩ := hf
    exact ⟨p, rfl, by rw [List.getElem?_eq_getElem hp]; simpa using h2⟩
  | none =>
    rw [List.findIdx?_eq_none_iff] at hf
    have := hf n h
    simp at this
/-- All that one reaches stands ahead of it. -/
theorem at_before {needs : List (List Int)} {i j : Nat} (hi : (i : Int) ∈ orderL needs) (h : Rch needs i j) : 0 ≤ atOf (orderL needs) (j : Int) ∧ atOf (orderL needs) (j : Int) < atOf (orderL needs) (i : Int) := by
  obtain ⟨p, hp, hp2⟩ := at_place hi
  obtain ⟨q, hq, hq2⟩ := order_before hp2 h
  obtain ⟨r, hr, hr2⟩ := at_place (List.mem_of_getElem? hq2)
  have := nodup_at (order_ok needs).nodup hq2 hr2
  rw [hr, hp]
  omega
end Rw
