/- Plain laws on graphs, part two: the document's rounds, lists of those that are picked. No program in sight. -/
import Derived.Test.YtcledfefgbbgeaaPlainG
namespace Rw
open Classical

/-- Those below k that are picked, rising. -/
def pickUpto (p : Nat → Bool) (k : Nat) : List Int := ((List.range k).filter p).map fun (j : Nat) => (j : Int)
theorem pick_yes {p : Nat → Bool} {k : Nat} (h : p k = true) : pickUpto p (k + 1) = pickUpto p k ++ [(k : Int)] := by
  simp [pickUpto, List.range_succ, List.filter_append, h]
theorem pick_no {p : Nat → Bool} {k : Nat} (h : p k = false) : pickUpto p (k + 1) = pickUpto p k := by
  simp [pickUpto, List.range_succ, List.filter_append, h]
theorem pick_length (p : Nat → Bool) (k : Nat) : (pickUpto p k).length ≤ k := by
  unfold pickUpto
  rw [List.length_map]
  exact Nat.le_trans (List.length_filter_le _ _) (by simp)

theorem range_map_get {α : Type} (f : Nat → α) (n v : Nat) : ((List.range n).map f)[v]? = if v < n then some (f v) else none := by
  by_cases h : v < n <;> simp [h]

theorem marked_pick {n : Nat} (p : Nat → Bool) : markedL ((List.range n).map p) = pickUpto p n := by
  unfold markedL markedUpto pickUpto
  simp only [List.length_map, List.length_range]
  congr 1
  apply List.filter_congr
  intro j hj
  have := List.mem_range.1 hj
  simp [this]

/-- What a node reaches; what reaches one; the nodes on circles. -/
noncomputable def reachL (needs : List (List Int)) (i : Int) : List Int := if isNode needs i = true then pickUpto (fun k => decide (Rch needs i.toNat k)) needs.length else []
noncomputable def behindL (needs : List (List Int)) (i : Int) : List Int := if isNode needs i = true then pickUpto (fun k => decide (Rch needs k i.toNat)) needs.length else []
noncomputable def circlesL (needs : List (List Int)) : List Int := pickUpto (fun k => decide (Rch needs k k)) needs.length

theorem reachM_get {needs : List (List Int)} {i k : Nat} (hk : k < (reachM needs i).length) : (reachM needs i)[k] = decide (Rch needs i k) := by
  simp [reachM]
theorem reachM_length (needs : List (List Int)) (i : Nat) : (reachM needs i).length = needs.length := by simp [reachM]
theorem reach_marked (needs : List (List Int)) (i : Nat) : markedL (reachM needs i) = pickUpto (fun k => decide (Rch needs i k)) needs.length := by
  unfold reachM; exact marked_pick _

/-! ## The rounds -/

/-- Is a node one need further than a mark? -/
def NextP (needs : List (List Int)) (now : List Bool) (v : Nat) : Prop := ∃ u, now[u]? = some true ∧ Edge needs u v
noncomputable def nextW (needs : List (List Int)) (now : List Bool) : List Bool := (List.range needs.length).map fun v => decide (NextP needs now v)
noncomputable def stepW (needs : List (List Int)) (now : List Bool) : List Bool := (List.range needs.length).map fun v => decide (now[v]? = some true ∨ NextP needs now v)
noncomputable def rounds (needs : List (List Int)) (i : Nat) : Nat → List Bool
  | 0 => (List.replicate needs.length false).set i true
  | t + 1 => stepW needs (rounds needs i t)

theorem rounds_length (needs : List (List Int)) (i t : Nat) : (rounds needs i t).length = needs.length := by
  cases t <;> simp [rounds, stepW]

theorem stepW_get {needs : List (List Int)} {now : List Bool} {v : Nat} : (stepW needs now)[v]? = some true ↔ v < needs.length ∧ (now[v]? = some true ∨ NextP needs now v) := by
  unfold stepW
  rw [range_map_get]
  split <;> simp [*]
theorem nextW_get {needs : List (List Int)} {now : List Bool} {v : Nat} : (nextW needs now)[v]? = some true ↔ v < needs.length ∧ NextP needs now v := by
  unfold nextW
  rw [range_map_get]
  split <;> simp [*]
theorem start_get {n i v : Nat} : ((List.replicate n false).set i true)[v]? = some true ↔ v = i ∧ i < n := by
  rw [List.getElem?_set]
  by_cases h : i = v
  · subst h; simp
  · simp only [h, if_false]
    constructor
    · intro h'; exact absurd h' rep_false
    · rintro ⟨rfl, _⟩; exact absurd rfl h

/-- Marks only come. -/
theorem rounds_mono {needs : List (List Int)} {i t v : Nat} (h : (rounds needs i t)[v]? = some true) : (rounds needs i (t + 1))[v]? = some true := by
  have hv : v < needs.length := by rw [← rounds_length needs i t]; exact (List.getElem?_eq_some_iff.1 h).1
  exact stepW_get.2 ⟨hv, .inl h⟩
theorem rounds_mono' {needs : List (List Int)} {i v : Nat} : ∀ {t s : Nat}, t ≤ s → (rounds needs i t)[v]? = some true → (rounds needs i s)[v]? = some true := by
  intro t s h
  induction h with
  | refl => exact id
  | step _ ih => exact fun h => rounds_mono (ih h)

theorem rounds_sound {needs : List (List Int)} {i : Nat} : ∀ {t v : Nat}, (rounds needs i t)[v]? = some true → v = i ∨ Rch needs i v
  | 0, v, h => .inl (start_get.1 h).1
  | t + 1, v, h => by
    rcases (stepW_get.1 h).2 with h | ⟨u, hu, e⟩
    · exact rounds_sound h
    · rcases rounds_sound hu with rfl | hr
      · exact .inr (.one e)
      · exact .inr (.more hr e)

/-- How many marks there are. -/
def cnt (l : List Bool) : Nat := l.count true
theorem cnt_le (l : List Bool) : cnt l ≤ l.length := List.count_le_length
theorem cnt_lt : ∀ {a b : List Bool}, a.length = b.length → (∀ v : Nat, a[v]? = some true → b[v]? = some true) → a = b ∨ cnt a < cnt b
  | [], [], _, _ => .inl rfl
  | x :: a, y :: b, hl, h => by
    have h0 := h 0
    have h1 : ∀ v, a[v]? = some true → b[v]? = some true := fun v hv => by simpa using h (v + 1) (by simpa using hv)
    rcases cnt_lt (by simpa using hl) h1 with rfl | hlt
    · cases x <;> cases y <;> simp [cnt] at *
    · cases x <;> cases y <;> simp [cnt] at * <;> omega
  | [], _ :: _, hl, _ => by simp at hl
  | _ :: _, [], hl, _ => by simp at hl

theorem rounds_stable {needs : List (List Int)} {i s : Nat} (h : rounds needs i (s + 1) = rounds needs i s) : ∀ k, rounds needs i (s + k) = rounds needs i s
  | 0 => rfl
  | k + 1 => by
    have ih := rounds_stable h k
    show stepW needs (rounds needs i (s + k)) = _
    rw [ih]
    exact h

theorem rounds_grow {needs : List (List Int)} {i : Nat} (hi : i < needs.length) : ∀ t, (∃ s, s < t ∧ rounds needs i (s + 1) = rounds needs i s) ∨ t + 1 ≤ cnt (rounds needs i t)
  | 0 => .inr (by
    have : true ∈ rounds needs i 0 := List.mem_of_getElem? (start_get.2 ⟨rfl, hi⟩)
    exact List.count_pos_iff.2 this)
  | t + 1 => by
    rcases rounds_grow hi t with ⟨s, h1, h2⟩ | h
    · exact .inl ⟨s, by omega, h2⟩
    · rcases cnt_lt (a := rounds needs i t) (b := rounds needs i (t + 1)) (by rw [rounds_length, rounds_length]) (fun v hv => rounds_mono hv) with he | hlt
      · exact .inl ⟨t, by omega, he.symm⟩
      · exact .inr (by omega)

/-- Behind as many rounds as there are nodes, less one, no mark comes any more. -/
theorem rounds_all {needs : List (List Int)} {i : Nat} (hi : i < needs.length) {t v : Nat} (h : (rounds needs i t)[v]? = some true) : (rounds needs i (needs.length - 1))[v]? = some true := by
  have hlast : ∃ s, s ≤ needs.length - 1 ∧ rounds needs i (s + 1) = rounds needs i s := by
    rcases rounds_grow hi needs.length with ⟨s, h1, h2⟩ | h
    · exact ⟨s, by omega, h2⟩
    · have := cnt_le (rounds needs i needs.length)
      rw [rounds_length] at this
      omega
  obtain ⟨s, hs, hst⟩ := hlast
  rcases Nat.lt_or_ge t (needs.length - 1) with ht | ht
  · exact rounds_mono' (Nat.le_of_lt ht) h
  · have e1 := rounds_stable hst (t - s)
    have e2 := rounds_stable hst (needs.length - 1 - s)
    rw [show s + (t - s) = t by omega] at e1
    rw [show s + (needs.length - 1 - s) = needs.length - 1 by omega] at e2
    rw [e2, ← e1]; exact h

/-- What is reached is met in some round. -/
theorem rounds_reach {needs : List (List Int)} {i k : Nat} (hi : i < needs.length) (h : Rch needs i k) : NextP needs (rounds needs i (needs.length - 1)) k := by
  have key : ∀ {k}, Rch needs i k → ∃ u, (u = i ∨ Rch needs i u) ∧ Edge needs u k ∧ ∃ t, (rounds needs i t)[u]? = some true := by
    intro k h
    induction h with
    | one e => exact ⟨i, .inl rfl, e, 0, start_get.2 ⟨rfl, hi⟩⟩
    | more h e ih =>
      rename_i v x
      obtain ⟨u, hu, hue, t, ht⟩ := ih
      exact ⟨v, .inr h, e, t + 1, stepW_get.2 ⟨hue.choose_spec.2.2, .inr ⟨u, ht, hue⟩⟩⟩
  obtain ⟨u, _, e, t, ht⟩ := key h
  exact ⟨u, rounds_all hi ht, e⟩

/-- One round's next marks under way: the needs of the first j nodes have been gone through. -/
structure Nxt (needs : List (List Int)) (now : List Bool) (j : Nat) (next : List Bool) : Prop where
  len : next.length = needs.length
  sound : ∀ v, next[v]? = some true → NextP needs now v
  comp : ∀ u, u < j → now[u]? = some true → ∀ v, Edge needs u v → next[v]? = some true

/-- And of the j-th one's needs s the first p have been. -/
structure NxtIn (needs : List (List Int)) (now : List Bool) (j : Nat) (s : List Int) (p : Nat) (next : List Bool) : Prop where
  base : Nxt needs now j next
  need : needs[j]? = some s
  le : p ≤ s.length
  part : ∀ q, q < p → ∀ v : Nat, s[q]? = some (v : Int) → v < needs.length → next[v]? = some true

theorem nxt_start (needs : List (List Int)) (now : List Bool) : Nxt needs now 0 (List.replicate needs.length false) :=
  ⟨by simp, fun _ h => absurd h rep_false, fun u hu => absurd hu (Nat.not_lt_zero _)⟩
theorem nxt_in {needs : List (List Int)} {now next : List Bool} {j : Nat} {s : List Int} (h : Nxt needs now j next) (hs : needs[j]? = some s) : NxtIn needs now j s 0 next :=
  ⟨h, hs, Nat.zero_le _, fun q hq => absurd hq (Nat.not_lt_zero _)⟩
theorem nxt_skip {needs : List (List Int)} {now next : List Bool} {j p : Nat} {s : List Int} (h : NxtIn needs now j s p next) (hp : p < s.length) (hno : isNode needs s[p] = false) : NxtIn needs now j s (p + 1) next :=
  ⟨h.base, h.need, by omega, fun q hq v hv hlt => by
    by_cases e : q = p
    · subst e
      rw [List.getElem?_eq_getElem hp] at hv
      exact absurd hno (isNode_of (by simpa using hv) hlt)
    · exact h.part q (by omega) v hv hlt⟩
theorem nxt_mark {needs : List (List Int)} {now next : List Bool} {j p v : Nat} {s : List Int} (h : NxtIn needs now j s p next) (hj : now[j]? = some true) (hp : p < s.length) (hv : s[p] = (v : Int)) (hlt : v < needs.length) : NxtIn needs now j s (p + 1) (next.set v true) := by
  have hvl : v < next.length := by rw [h.base.len]; exact hlt
  refine ⟨⟨by rw [List.length_set]; exact h.base.len, fun x hx => ?_, fun u hu hn x e => (getElem?_set_of hvl).2 (.inr (h.base.comp u hu hn x e))⟩, h.need, by omega, fun q hq x hx hxl => ?_⟩
  · rcases (getElem?_set_of hvl).1 hx with rfl | hx
    · exact ⟨j, hj, s, h.need, by rw [← hv]; exact List.getElem_mem hp, hlt⟩
    · exact h.base.sound x hx
  · refine (getElem?_set_of hvl).2 ?_
    by_cases e : q = p
    · subst e
      rw [List.getElem?_eq_getElem hp, hv] at hx
      simp at hx
      exact .inl (by omega)
    · exact .inr (h.part q (by omega) x hx hxl)
theorem nxt_next {needs : List (List Int)} {now next : List Bool} {j p : Nat} {s : List Int} (h : NxtIn needs now j s p next) (hp : ¬ (now[j]? = some true ∧ p < s.length)) : Nxt needs now (j + 1) next :=
  ⟨h.base.len, h.base.sound, fun u hu hn v e => by
    by_cases hj : u = j
    · subst hj
      obtain ⟨s', hs', hm, hlt⟩ := e
      rw [h.need] at hs'
      cases hs'
      obtain ⟨q, hq, hq2⟩ := List.getElem_of_mem hm
      have hge : s.length ≤ p := by
        rcases Nat.lt_or_ge p s.length with h' | h'
        · exact absurd ⟨hn, h'⟩ hp
        · exact h'
      exact h.part q (by omega) v (by rw [List.getElem?_eq_getElem hq, hq2]) hlt
    · exact h.base.comp u (by omega) hn v e⟩
theorem nxt_end {needs : List (List Int)} {now next : List Bool} {j : Nat} (h : Nxt needs now j next) (hj : needs.length ≤ j) : next = nextW needs now := by
  apply List.ext_getElem?
  intro v
  rcases Nat.lt_or_ge v needs.length with hv | hv
  · have hvl : v < next.length := by rw [h.len]; exact hv
    unfold nextW
    rw [range_map_get, if_pos hv, List.getElem?_eq_getElem hvl]
    congr 1
    by_cases hn : NextP needs now v
    · obtain ⟨u, hu, e⟩ := hn
      have := h.comp u (by have := e.lt; omega) hu v e
      rw [List.getElem?_eq_getElem hvl] at this
      have h1 : NextP needs now v := ⟨u, hu, e⟩
      simpa [h1] using this
    · simp only [hn, decide_false]
      cases hb : next[v] with
      | false => rfl
      | true => exact absurd (h.sound v (by rw [List.getElem?_eq_getElem hvl, hb])) hn
  · rw [List.getElem?_eq_none (by rw [h.len]; exact hv)]
    unfold nextW
    rw [range_map_get, if_neg (by omega)]

/-- Marks put together under way. -/
def orUpto (now next : List Bool) (j : Nat) : List Bool := (List.range now.length).map fun v => now[v]! || (decide (v < j) && next[v]!)
theorem or_start (now next : List Bool) : orUpto now next 0 = now := by
  apply List.ext_getElem?
  intro v
  unfold orUpto
  rw [range_map_get]
  by_cases h : v < now.length <;> simp [h]
theorem or_step {now next : List Bool} {j : Nat} (hj : j < now.length) (hj2 : j < next.length) : (orUpto now next j).set j (now[j] || next[j]) = orUpto now next (j + 1) := by
  apply List.ext_getElem?
  intro v
  unfold orUpto
  rw [List.getElem?_set, range_map_get, range_map_get]
  by_cases h : j = v
  · subst h; simp [hj, hj2]
  · simp only [h, if_false]
    by_cases hv : v < now.length
    · simp only [hv, if_true]
      congr 2
      by_cases h2 : v < j
      · simp [h2, Nat.lt_succ_of_lt h2]
      · have : ¬ v < j + 1 := by omega
        simp [h2, this]
    · simp [hv]
theorem or_get {now next : List Bool} {j : Nat} (hj : j < now.length) (h : j < (orUpto now next j).length) : (orUpto now next j)[j] = now[j] := by
  simp [orUpto, hj]
theorem or_length (now next : List Bool) (j : Nat) : (orUpto now next j).length = now.length := by simp [orUpto]
theorem or_end {needs : List (List Int)} {now : List Bool} (h : now.length = needs.length) {j : Nat} (hj : needs.length ≤ j) : orUpto now (nextW needs now) j = stepW needs now := by
  apply List.ext_getElem?
  intro v
  unfold orUpto stepW
  rw [range_map_get, range_map_get, h]
  by_cases hv : v < needs.length
  · have h2 : v < j := by omega
    have hvn : v < now.length := by omega
    simp only [hv, if_true, h2, decide_true, Bool.true_and]
    congr 1
    have e1 : now[v]! = now[v] := by simp [hvn]
    have e2 : (nextW needs now)[v]! = decide (NextP needs now v) := by
      simp [nextW, hv]
    rw [e1, e2, List.getElem?_eq_getElem hvn]
    cases now[v] <;> simp
  · simp [hv]

theorem reach_found {needs : List (List Int)} {i k t : Nat} {now : List Bool} (hk : k < (nextW needs now).length) (h : (nextW needs now)[k] = true) (hn : now = rounds needs i t) : decide (Rch needs i k) = true := by
  have : NextP needs now k := (nextW_get.1 (by rw [List.getElem?_eq_getElem hk, h])).2
  obtain ⟨u, hu, e⟩ := this
  rw [hn] at hu
  rcases rounds_sound hu with rfl | hr
  · exact decide_eq_true (.one e)
  · exact decide_eq_true (.more hr e)
theorem not_found {needs : List (List Int)} {i k t : Nat} (hno : ∀ s, s < t → ¬ NextP needs (rounds needs i s) k) (hk : k < (nextW needs (rounds needs i t)).length) (h : (nextW needs (rounds needs i t))[k] = false) :
    ∀ s, s < t + 1 → ¬ NextP needs (rounds needs i s) k := by
  intro s hs
  by_cases e : s = t
  · subst e
    intro hp
    have hkn : k < needs.length := by simpa [nextW] using hk
    have := nextW_get.2 ⟨hkn, hp⟩
    rw [List.getElem?_eq_getElem hk, h] at this
    simp at this
  · exact hno s (by omega)
theorem reach_no {needs : List (List Int)} {i k : Nat} (hi : i < needs.length) (h : ¬ NextP needs (rounds needs i (needs.length - 1)) k) : decide (Rch needs i k) = false :=
  decide_eq_false (fun hr => h (rounds_reach hi hr))

/-! ## few -/

def edges (needs : List (List Int)) : Nat → Int
  | 0 => 0
  | k + 1 => edges needs k + ((needs[k]?.getD []).length : Int)
theorem edges_step {needs : List (List Int)} {k : Nat} (hk : k < needs.length) : edges needs (k + 1) = edges needs k + (needs[k].length : Int) := by
  simp [edges, hk]
theorem edges_bd {needs : List (List Int)} (hl : ∀ l ∈ needs, l.length < 140737488355328) : ∀ k, k ≤ needs.length → 0 ≤ edges needs k ∧ edges needs k ≤ (k : Int) * 140737488355328
  | 0, _ => by simp [edges]
  | k + 1, h => by
    have ih := edges_bd hl k (by omega)
    have h1 := hl needs[k] (List.getElem_mem (by omega))
    rw [edges_step (by omega)]
    omega
theorem edges_mono {needs : List (List Int)} (hl : ∀ l ∈ needs, l.length < 140737488355328) {j : Nat} : ∀ k, k ≤ needs.length → j < k → (hj : j < needs.length) → (needs[j].length : Int) ≤ edges needs k
  | 0, _, h, _ => absurd h (Nat.not_lt_zero _)
  | k + 1, h, hjk, hj => by
    rw [edges_step (by omega)]
    have h0 := (edges_bd hl k (by omega)).1
    by_cases e : j = k
    · subst e; omega
    · have := edges_mono hl k (by omega) (by omega) hj; omega
theorem edges_few {needs : List (List Int)} (hl : ∀ l ∈ needs, l.length < 140737488355328) {k : Nat} {e : Int} (hk : k = needs.length) (he : e = edges needs k) (h : e ≤ 100) : ∀ l ∈ needs, l.length ≤ 100 := by
  intro l hm
  obtain ⟨j, hj, rfl⟩ := List.getElem_of_mem hm
  have := edges_mono hl k (by omega) (by omega) hj
  omega

theorem pick_node {needs : List (List Int)} {i : Int} {p : Nat → Bool} (h : 0 < needs.length → isNode needs i = true) : (if isNode needs i = true then pickUpto p needs.length else []) = pickUpto p needs.length := by
  split
  · rfl
  · rename_i hn
    have : needs.length = 0 := by
      rcases Nat.eq_zero_or_pos needs.length with h0 | h0
      · exact h0
      · exact absurd (h h0) hn
    rw [this]; rfl
end Rw
