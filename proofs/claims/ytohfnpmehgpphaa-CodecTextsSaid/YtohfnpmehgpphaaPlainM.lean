/- Plain laws on merging in place. No program in sight. -/
import Derived.Test.YtohfnpmehgpphaaPlainZ
namespace Rw

/-! ## One thing moved forward, or back, to its place among those in order -/

/-- It stands at place k and goes up: behind it up to i are lesser ones. -/
structure RunF (l : List Fld) (a k i b : Nat) : Prop where
  rest : ∀ (p q : Nat) (x y : Fld), a ≤ p → p < q → q < b → p ≠ k → q ≠ k → l[p]? = some x → l[q]? = some y → leN x.name y.name
  lo : ∀ (p : Nat) (x y : Fld), a ≤ p → p < k → l[p]? = some x → l[k]? = some y → leN x.name y.name
  mid : ∀ (q : Nat) (x y : Fld), k < q → q < i → l[k]? = some x → l[q]? = some y → cmpN y.name x.name < 0
  hi : ∀ (q : Nat) (x y : Fld), k < q → i ≤ q → q < b → l[k]? = some x → l[q]? = some y → leN x.name y.name

theorem cmpN_lt_of_le_lt {a b c : ByteArray} (h : leN a b) (k : cmpN b c < 0) : cmpN a c < 0 := by
  by_cases e : a = b
  · subst e; exact k
  · unfold leN at h
    have h1 : cmpN a b ≠ 0 := fun e' => e (cmpN_eq.1 e')
    have h2 := cmpN_flip a b
    exact cmpB_trans (b := b.data.toList) (by show cmpN a b < 0; omega) k
theorem cmpN_lt_of_lt_le {a b c : ByteArray} (h : cmpN a b < 0) (k : leN b c) : cmpN a c < 0 := by
  by_cases e : b = c
  · subst e; exact h
  · unfold leN at k
    have h1 : cmpN b c ≠ 0 := fun e' => e (cmpN_eq.1 e')
    have h2 := cmpN_flip b c
    exact cmpB_trans (b := b.data.toList) h (by show cmpN b c < 0; omega)
theorem leN_of_nlt {a b : ByteArray} (h : ¬ cmpN b a < 0) : leN a b := h

theorem runF_start {l : List Fld} {a b i : Nat} (hs : SrtOn l (a + 1) b) (hb : b ≤ l.length) (hab : a < b) (hi : a + 1 ≤ i) (hib : i ≤ b)
    (hl : ∀ x y, a + 1 < i → l[i - 1]? = some x → l[a]? = some y → cmpN x.name y.name < 0)
    (hr : ∀ x y, i < b → l[i]? = some x → l[a]? = some y → leN y.name x.name) : RunF l a a i b := by
  refine ⟨fun p q x y hp hpq hq hpa _ hx hy => hs p q x y (by omega) hpq hq hx hy, fun p x y hp hk => absurd hk (by omega), fun q x y hk hq hx hy => ?_, fun q x y hk hiq hq hx hy => ?_⟩
  · by_cases e : q = i - 1
    · subst e; exact hl y x (by omega) hy hx
    · have hlt : i - 1 < l.length := by omega
      exact cmpN_lt_of_le_lt (hs q (i - 1) y _ (by omega) (by omega) (by omega) hy (List.getElem?_eq_getElem hlt)) (hl _ x (by omega) (List.getElem?_eq_getElem hlt) hx)
  · by_cases e : q = i
    · subst e; exact hr y x (by omega) hy hx
    · have hlt : i < l.length := by omega
      exact leN_trans (hr _ x (by omega) (List.getElem?_eq_getElem hlt) hx) (hs i q _ y (by omega) (by omega) hq (List.getElem?_eq_getElem hlt) hy)
theorem runF_step {l : List Fld} {a k i b : Nat} (h : RunF l a k i b) (hk : k + 1 < i) (ha : a ≤ k) (hib : i ≤ b) (hj : k + 1 < l.length) : RunF ((l.set (k + 1) l[k]).set k l[k + 1]) a (k + 1) i b := by
  have hkk : l[k]? = some l[k] := List.getElem?_eq_getElem (by omega)
  have hk1 : l[k + 1]? = some l[k + 1] := List.getElem?_eq_getElem hj
  refine ⟨fun p q x y hp hpq hq hpk hqk hx hy => ?_, fun p x y hp hpk hx hy => ?_, fun q x y hkq hq hx hy => ?_, fun q x y hkq hiq hq hx hy => ?_⟩
  · rw [swap_get hj] at hx hy
    rw [if_neg hpk] at hx
    rw [if_neg hqk] at hy
    by_cases e : p = k
    · rw [if_pos e] at hx
      rw [if_neg (by omega)] at hy
      cases hx
      exact h.rest (k + 1) q _ y (by omega) (by omega) hq (by omega) (by omega) hk1 hy
    · rw [if_neg e] at hx
      by_cases e2 : q = k
      · rw [if_pos e2] at hy
        cases hy
        exact h.rest p (k + 1) x _ hp (by omega) (by omega) e (by omega) hx hk1
      · rw [if_neg e2] at hy
        exact h.rest p q x y hp hpq hq e e2 hx hy
  · rw [swap_get hj] at hx hy
    rw [if_neg (by omega), if_pos rfl] at hy
    cases hy
    by_cases e : p = k
    · rw [if_pos e] at hx
      cases hx
      exact leN_of_lt (h.mid (k + 1) _ _ (by omega) hk hkk hk1)
    · rw [if_neg e, if_neg (by omega)] at hx
      exact h.lo p x _ hp (by omega) hx hkk
  · rw [swap_get hj] at hx hy
    rw [if_neg (by omega), if_pos rfl] at hx
    rw [if_neg (by omega), if_neg (by omega)] at hy
    cases hx
    exact h.mid q _ y (by omega) hq hkk hy
  · rw [swap_get hj] at hx hy
    rw [if_neg (by omega), if_pos rfl] at hx
    rw [if_neg (by omega), if_neg (by omega)] at hy
    cases hx
    exact h.hi q _ y (by omega) hiq hq hkk hy
theorem runF_end {l : List Fld} {a k i b : Nat} (h : RunF l a k i b) (hk : i ≤ k + 1) : SrtOn l a b := fun p q x y hp hpq hq hx hy => by
  by_cases e : p = k
  · subst e; exact h.hi q x y hpq (by omega) hq hx hy
  · by_cases e2 : q = k
    · subst e2; exact h.lo p x y hp hpq hx hy
    · exact h.rest p q x y hp hpq hq e e2 hx hy

/-- It stands at place k and goes down: ahead of it from i on are greater ones. -/
structure RunB (l : List Fld) (a k i b : Nat) : Prop where
  rest : ∀ (p q : Nat) (x y : Fld), a ≤ p → p < q → q < b → p ≠ k → q ≠ k → l[p]? = some x → l[q]? = some y → leN x.name y.name
  hi : ∀ (q : Nat) (x y : Fld), k < q → q < b → l[k]? = some x → l[q]? = some y → leN x.name y.name
  mid : ∀ (p : Nat) (x y : Fld), i ≤ p → p < k → l[p]? = some x → l[k]? = some y → cmpN y.name x.name < 0
  lo : ∀ (p : Nat) (x y : Fld), a ≤ p → p < i → p < k → l[p]? = some x → l[k]? = some y → leN x.name y.name

theorem runB_start {l : List Fld} {a m i : Nat} (hs : SrtOn l a m) (hb : m < l.length) (ha : a ≤ i) (hi : i ≤ m)
    (hl : ∀ x y, a < i → l[i - 1]? = some x → l[m]? = some y → leN x.name y.name)
    (hr : ∀ x y, i < m → l[i]? = some x → l[m]? = some y → cmpN y.name x.name < 0) : RunB l a m i (m + 1) := by
  refine ⟨fun p q x y hp hpq hq hpm hqm hx hy => hs p q x y hp hpq (by omega) hx hy, fun q x y h1 h2 => by omega, fun p x y hip hpm hx hy => ?_, fun p x y hp hpi hpm hx hy => ?_⟩
  · by_cases e : p = i
    · subst e; exact hr x y hpm hx hy
    · have hlt : i < l.length := by omega
      exact cmpN_lt_of_lt_le (hr _ y (by omega) (List.getElem?_eq_getElem hlt) hy) (hs i p _ x (by omega) (by omega) hpm (List.getElem?_eq_getElem hlt) hx)
  · by_cases e : p = i - 1
    · subst e; exact hl x y (by omega) hx hy
    · have hlt : i - 1 < l.length := by omega
      exact leN_trans (hs p (i - 1) x _ hp (by omega) (by omega) hx (List.getElem?_eq_getElem hlt)) (hl _ y (by omega) (List.getElem?_eq_getElem hlt) hy)
theorem runB_step {l : List Fld} {a k i b : Nat} (h : RunB l a (k + 1) i b) (hk : i ≤ k) (ha : a ≤ i) (hb : k + 1 < b) (hj : k + 1 < l.length) : RunB ((l.set (k + 1) l[k]).set k l[k + 1]) a k i b := by
  have hkk : l[k]? = some l[k] := List.getElem?_eq_getElem (by omega)
  have hk1 : l[k + 1]? = some l[k + 1] := List.getElem?_eq_getElem hj
  refine ⟨fun p q x y hp hpq hq hpk hqk hx hy => ?_, fun q x y hkq hq hx hy => ?_, fun p x y hip hpk hx hy => ?_, fun p x y hp hpi hpk hx hy => ?_⟩
  · rw [swap_get hj] at hx hy
    rw [if_neg hpk] at hx
    rw [if_neg hqk] at hy
    by_cases e : p = k + 1
    · rw [if_pos e] at hx
      rw [if_neg (by omega)] at hy
      cases hx
      exact h.rest k q _ y (by omega) (by omega) hq (by omega) (by omega) hkk hy
    · rw [if_neg e] at hx
      by_cases e2 : q = k + 1
      · rw [if_pos e2] at hy
        cases hy
        exact h.rest p k x _ hp (by omega) (by omega) e (by omega) hx hkk
      · rw [if_neg e2] at hy
        exact h.rest p q x y hp hpq hq e e2 hx hy
  · rw [swap_get hj] at hx hy
    rw [if_pos rfl] at hx
    cases hx
    rw [if_neg (by omega)] at hy
    by_cases e : q = k + 1
    · rw [if_pos e] at hy
      cases hy
      exact leN_of_lt (h.mid k _ _ hk (by omega) hkk hk1)
    · rw [if_neg e] at hy
      exact h.hi q _ y (by omega) hq hk1 hy
  · rw [swap_get hj] at hx hy
    rw [if_neg (by omega), if_neg (by omega)] at hx
    rw [if_pos rfl] at hy
    cases hy
    exact h.mid p x _ hip (by omega) hx hk1
  · rw [swap_get hj] at hx hy
    rw [if_neg (by omega), if_neg (by omega)] at hx
    rw [if_pos rfl] at hy
    cases hy
    exact h.lo p x _ hp hpi (by omega) hx hk1
theorem runB_end {l : List Fld} {a k i b : Nat} (h : RunB l a k i b) (hk : k ≤ i) : SrtOn l a b := fun p q x y hp hpq hq hx hy => by
  by_cases e : p = k
  · subst e; exact h.hi q x y hpq hq hx hy
  · by_cases e2 : q = k
    · subst e2; exact h.lo p x y hp (by omega) hpq hx hy
    · exact h.rest p q x y hp hpq hq e e2 hx hy

/-! ## Two ranges change places -/

/-- n from a on and n from b on have changed places. -/
structure SwR (l k : List Fld) (a b n : Nat) : Prop where
  len : k.length = l.length
  get : ∀ p, k[p]? = if a ≤ p ∧ p < a + n then l[p - a + b]? else if b ≤ p ∧ p < b + n then l[p - b + a]? else l[p]?
theorem SwR.zero (l : List Fld) (a b : Nat) : SwR l l a b 0 := ⟨rfl, fun p => by rw [if_neg (by omega), if_neg (by omega)]⟩
theorem SwR.step {l k : List Fld} {a b n : Nat} (h : SwR l k a b n) (hab : a + n < b) (hb : b + n < l.length) (h1 : a + n < k.length) (h2 : b + n < k.length) : SwR l ((k.set (a + n) k[b + n]).set (b + n) k[a + n]) a b (n + 1) := by
  have e1 : some k[b + n] = l[b + n]? := by
    rw [← List.getElem?_eq_getElem h2, h.get, if_neg (by omega), if_neg (by omega)]
  have e2 : some k[a + n] = l[a + n]? := by
    rw [← List.getElem?_eq_getElem h1, h.get, if_neg (by omega), if_neg (by omega)]
  refine ⟨by simp [h.len], fun p => ?_⟩
  rw [List.getElem?_set, List.getElem?_set]
  simp only [List.length_set]
  by_cases p1 : b + n = p
  · subst p1
    rw [if_pos rfl, if_pos (by omega), if_neg (by omega), if_pos (by omega), e2]
    congr 1; omega
  · rw [if_neg p1]
    by_cases p2 : a + n = p
    · subst p2
      rw [if_pos rfl, if_pos h1, if_pos (by omega), e1]
      congr 1; omega
    · rw [if_neg p2, h.get]
      repeat' split
      all_goals first | rfl | (exfalso; omega) | (congr 1; omega)

/-- From a to b two neighbouring ranges, parted at m, have changed places. -/
structure Rot (l k : List Fld) (a m b : Nat) : Prop where
  len : k.length = l.length
  get : ∀ p, k[p]? = if p < a then l[p]? else if p < a + (b - m) then l[p + (m - a)]? else if p < b then l[p - (b - m)]? else l[p]?
theorem rot_last {l k : List Fld} {m i : Nat} (h : SwR l k (m - i) m i) (hi : i ≤ m) : Rot l k (m - i) m (m + i) := by
  refine ⟨h.len, fun p => ?_⟩
  rw [h.get]
  repeat' split
  all_goals first | rfl | (exfalso; omega) | (congr 1; omega)
theorem rot_up {l k r : List Fld} {m i j : Nat} (h : SwR l k (m - i) m j) (hij : j < i) (hi : i ≤ m) (hr : Rot k r (m - (i - j)) m (m + j)) : Rot l r (m - i) m (m + j) := by
  refine ⟨hr.len.trans h.len, fun p => ?_⟩
  rw [hr.get]
  simp only [h.get]
  repeat' split
  all_goals first | rfl | (exfalso; omega) | (congr 1; omega)
theorem rot_down {l k r : List Fld} {m i j : Nat} (h : SwR l k (m - i) (m + j - i) i) (hij : i < j) (hi : i ≤ m) (hr : Rot k r (m - i) m (m + (j - i))) : Rot l r (m - i) m (m + j) := by
  refine ⟨hr.len.trans h.len, fun p => ?_⟩
  rw [hr.get]
  simp only [h.get]
  repeat' split
  all_goals first | rfl | (exfalso; omega) | (congr 1; omega)
theorem rot_none {l : List Fld} {a m b : Nat} (ha : a ≤ m) (hb : m ≤ b) (h : a = m ∨ m = b) : Rot l l a m b := by
  refine ⟨rfl, fun p => ?_⟩
  repeat' split
  all_goals first | rfl | (exfalso; omega) | (congr 1; omega)

theorem StP.swap2 {X Y : List Fld} (h : ∀ x ∈ X, ∀ y ∈ Y, x.name ≠ y.name) : StP (X ++ Y) (Y ++ X) := fun s => by
  rw [List.filter_append, List.filter_append]
  by_cases e : X.filter (fun f => decide (f.name = s)) = []
  · rw [e]; simp
  · have : Y.filter (fun f => decide (f.name = s)) = [] := by
      rw [List.filter_eq_nil_iff]
      intro y hy hys
      obtain ⟨x, hx⟩ := List.exists_mem_of_ne_nil _ e
      obtain ⟨hx, hxs⟩ := List.mem_filter.1 hx
      exact h x hx y hy ((of_decide_eq_true hxs).trans (of_decide_eq_true hys).symm)
    rw [this]; simp
theorem parts4 (l : List Fld) {a m b : Nat} (ha : a ≤ m) (hb : m ≤ b) : l = l.take a ++ (((l.drop a).take (m - a) ++ (l.drop m).take (b - m)) ++ l.drop b) := by
  have e1 : l.drop m = (l.drop a).drop (m - a) := by rw [List.drop_drop]; congr 1; omega
  have e2 : l.drop b = (l.drop m).drop (b - m) := by rw [List.drop_drop]; congr 1; omega
  rw [List.append_assoc, e2, List.take_append_drop, e1, List.take_append_drop, List.take_append_drop]
theorem Rot.eq {l k : List Fld} {a m b : Nat} (h : Rot l k a m b) (ha : a ≤ m) (hb : m ≤ b) (hl : b ≤ l.length) : k = l.take a ++ (((l.drop m).take (b - m) ++ (l.drop a).take (m - a)) ++ l.drop b) := by
  apply List.ext_getElem?
  intro p
  rw [h.get]
  have t1 : (l.take a).length = a := by rw [List.length_take]; omega
  have t2 : ((l.drop m).take (b - m)).length = b - m := by rw [List.length_take, List.length_drop]; omega
  have t3 : ((l.drop a).take (m - a)).length = m - a := by rw [List.length_take, List.length_drop]; omega
  by_cases c1 : p < a
  · rw [if_pos c1, List.getElem?_append_left (by omega), List.getElem?_take, if_pos c1]
  · rw [if_neg c1, List.getElem?_append_right (by omega), t1]
    by_cases c2 : p < a + (b - m)
    · rw [if_pos c2, List.getElem?_append_left (by rw [List.length_append]; omega), List.getElem?_append_left (by omega), List.getElem?_take, if_pos (by omega), List.getElem?_drop]
      congr 1; omega
    · rw [if_neg c2]
      by_cases c3 : p < b
      · rw [if_pos c3, List.getElem?_append_left (by rw [List.length_append]; omega), List.getElem?_append_right (by omega), t2, List.getElem?_take, if_pos (by omega), List.getElem?_drop]
        congr 1; omega
      · rw [if_neg c3, List.getElem?_append_right (by rw [List.length_append]; omega), List.length_append, t2, t3, List.getElem?_drop]
        congr 1; omega
theorem Rot.rng {l k : List Fld} {a m b : Nat} (h : Rot l k a m b) (ha : a ≤ m) (hb : m ≤ b) (hl : b ≤ l.length)
    (hn : ∀ (p q : Nat) (x y : Fld), a ≤ p → p < m → m ≤ q → q < b → l[p]? = some x → l[q]? = some y → x.name ≠ y.name) : Rng l k a b := by
  refine ⟨h.len, fun j hj => ?_, ?_⟩
  · rw [h.get]
    repeat' split
    all_goals first | rfl | (exfalso; omega) | (congr 1; omega)
  · rw [h.eq ha hb hl]
    conv => lhs; rw [parts4 l ha hb]
    refine (StP.refl _).app ((StP.swap2 fun x hx y hy => ?_).app (StP.refl _))
    obtain ⟨p, hp⟩ := List.mem_iff_getElem?.1 hx
    obtain ⟨q, hq⟩ := List.mem_iff_getElem?.1 hy
    have hp2 : p < m - a := by
      have := (List.getElem?_eq_some_iff.1 hp).1
      rw [List.length_take] at this; omega
    have hq2 : q < b - m := by
      have := (List.getElem?_eq_some_iff.1 hq).1
      rw [List.length_take] at this; omega
    rw [List.getElem?_take, if_pos hp2, List.getElem?_drop] at hp
    rw [List.getElem?_take, if_pos hq2, List.getElem?_drop] at hq
    exact hn _ _ x y (by omega) (by omega) (by omega) (by omega) hp hq

/-! ## The merge -/

/-- What the search has found: it stands between lo and hi. -/
structure Cut (l : List Fld) (n lo0 hi0 lo hi : Nat) : Prop where
  lo : lo = lo0 ∨ (lo0 < lo ∧ ∀ x y, l[lo - 1]? = some x → l[n - lo]? = some y → leN x.name y.name)
  hi : hi = hi0 ∨ (hi < hi0 ∧ ∀ x y, l[hi]? = some x → l[n - 1 - hi]? = some y → cmpN y.name x.name < 0)

theorem get_eq {l : List Fld} {p q : Nat} {x : Fld} (hp : p < l.length) (e : p = q) (hx : l[q]? = some x) : x = l[p] := by
  subst e
  rw [List.getElem?_eq_getElem hp] at hx
  exact (Option.some.inj hx).symm

/-- The search for the place of l[a] among those from m to b. -/
structure FindF (l : List Fld) (a m b i j : Nat) : Prop where
  lo : i = m ∨ (m < i ∧ ∀ x y, l[i - 1]? = some x → l[a]? = some y → cmpN x.name y.name < 0)
  hi : j = b ∨ (j < b ∧ ∀ x y, l[j]? = some x → l[a]? = some y → leN y.name x.name)
theorem FindF.start (l : List Fld) (a m b : Nat) : FindF l a m b m b := ⟨.inl rfl, .inl rfl⟩
theorem FindF.up {l : List Fld} {a m b i j h : Nat} (f : FindF l a m b i j) (hm : m ≤ h) (h1 : h < l.length) (h2 : a < l.length) (hlt : cmpN l[h].name l[a].name < 0) : FindF l a m b (h + 1) j :=
  ⟨.inr ⟨by omega, fun x y hx hy => by rw [get_eq h1 (by omega) hx, get_eq h2 rfl hy]; exact hlt⟩, f.hi⟩
theorem FindF.down {l : List Fld} {a m b i j h : Nat} (f : FindF l a m b i j) (hb : h < b) (h1 : h < l.length) (h2 : a < l.length) (hle : ¬ cmpN l[h].name l[a].name < 0) : FindF l a m b i h :=
  ⟨f.lo, .inr ⟨hb, fun x y hx hy => by rw [get_eq h1 rfl hx, get_eq h2 rfl hy]; exact hle⟩⟩
theorem FindF.run {l : List Fld} {a b i j : Nat} (f : FindF l a (a + 1) b i j) (hij : ¬ i < j) (hle : i ≤ j) (hs : SrtOn l (a + 1) b) (hb : b ≤ l.length) (hab : a + 1 < b) (hi : a + 1 ≤ i) (hib : j ≤ b) : RunF l a a i b := by
  obtain rfl : i = j := by omega
  refine runF_start hs hb (by omega) hi hib (fun x y h1 hx hy => ?_) (fun x y h1 hx hy => ?_)
  · rcases f.lo with e | ⟨_, e⟩
    · omega
    · exact e x y hx hy
  · rcases f.hi with e | ⟨_, e⟩
    · omega
    · exact e x y hx hy

/-- The search for the place of l[m] among those from a to m. -/
structure FindB (l : List Fld) (a m i j : Nat) : Prop where
  lo : i = a ∨ (a < i ∧ ∀ x y, l[i - 1]? = some x → l[m]? = some y → leN x.name y.name)
  hi : j = m ∨ (j < m ∧ ∀ x y, l[j]? = some x → l[m]? = some y → cmpN y.name x.name < 0)
theorem FindB.start (l : List Fld) (a m : Nat) : FindB l a m a m := ⟨.inl rfl, .inl rfl⟩
theorem FindB.up {l : List Fld} {a m i j h : Nat} (f : FindB l a m i j) (ha : a ≤ h) (h1 : h < l.length) (h2 : m < l.length) (hle : ¬ cmpN l[m].name l[h].name < 0) : FindB l a m (h + 1) j :=
  ⟨.inr ⟨by omega, fun x y hx hy => by rw [get_eq h1 (by omega) hx, get_eq h2 rfl hy]; exact hle⟩, f.hi⟩
theorem FindB.down {l : List Fld} {a m i j h : Nat} (f : FindB l a m i j) (hm : h < m) (h1 : h < l.length) (h2 : m < l.length) (hlt : cmpN l[m].name l[h].name < 0) : FindB l a m i h :=
  ⟨f.lo, .inr ⟨hm, fun x y hx hy => by rw [get_eq h1 rfl hx, get_eq h2 rfl hy]; exact hlt⟩⟩
theorem FindB.run {l : List Fld} {a m i j : Nat} (f : FindB l a m i j) (hij : ¬ i < j) (hle : i ≤ j) (hs : SrtOn l a m) (hb : m < l.length) (ha : a ≤ i) (hj : j ≤ m) : RunB l a m i (m + 1) := by
  obtain rfl : i = j := by omega
  refine runB_start hs hb ha hj (fun x y h1 hx hy => ?_) (fun x y h1 hx hy => ?_)
  · rcases f.lo with e | ⟨_, e⟩
    · omega
    · exact e x y hx hy
  · rcases f.hi with e | ⟨_, e⟩
    · omega
    · exact e x y hx hy

theorem Cut.start (l : List Fld) (n lo0 hi0 : Nat) : Cut l n lo0 hi0 lo0 hi0 := ⟨.inl rfl, .inl rfl⟩
theorem Cut.up {l : List Fld} {n lo0 hi0 lo hi c : Nat} (f : Cut l n lo0 hi0 lo hi) (hc : lo0 ≤ c) (h1 : c < l.length) (h2 : n - 1 - c < l.length) (hle : ¬ cmpN l[n - 1 - c].name l[c].name < 0) : Cut l n lo0 hi0 (c + 1) hi :=
  ⟨.inr ⟨by omega, fun x y hx hy => by rw [get_eq h1 (by omega) hx, get_eq h2 (by omega) hy]; exact hle⟩, f.hi⟩
theorem Cut.down {l : List Fld} {n lo0 hi0 lo hi c : Nat} (f : Cut l n lo0 hi0 lo hi) (hc : c < hi0) (h1 : c < l.length) (h2 : n - 1 - c < l.length) (hlt : cmpN l[n - 1 - c].name l[c].name < 0) : Cut l n lo0 hi0 lo c :=
  ⟨f.lo, .inr ⟨hc, fun x y hx hy => by rw [get_eq h1 rfl hx, get_eq h2 rfl hy]; exact hlt⟩⟩

/-- All that is needed of a merge's place: both parts in order, the place s found. -/
structure Mrg (l : List Fld) (a m b s : Nat) : Prop where
  am : a < m
  mb : m < b
  len : b ≤ l.length
  s1 : SrtOn l a m
  s2 : SrtOn l m b
  as : a ≤ s
  sm : s ≤ m
  smid : s ≤ (a + b) / 2
  e1 : m ≤ (a + b) / 2 + m - s
  e2 : (a + b) / 2 + m - s ≤ b
  lo : ∀ x y, a < s → (a + b) / 2 + m - s < b → l[s - 1]? = some x → l[(a + b) / 2 + m - s]? = some y → leN x.name y.name
  hi : ∀ x y, s < m → m < (a + b) / 2 + m - s → l[s]? = some x → l[(a + b) / 2 + m - s - 1]? = some y → cmpN y.name x.name < 0

theorem mrg_of {l : List Fld} {a m b s lo0 hi0 : Nat} (am : a < m) (mb : m < b) (len : b ≤ l.length) (s1 : SrtOn l a m) (s2 : SrtOn l m b)
    (h0 : ((a + b) / 2 < m ∧ lo0 = (a + b) / 2 + m - b ∧ hi0 = (a + b) / 2) ∨ (m ≤ (a + b) / 2 ∧ lo0 = a ∧ hi0 = m)) (hs : lo0 ≤ s) (hs2 : s ≤ hi0) (hc : Cut l ((a + b) / 2 + m) lo0 hi0 s s) : Mrg l a m b s := by
  refine ⟨am, mb, len, s1, s2, by omega, by omega, by omega, by omega, by omega, fun x y h1 h2 hx hy => ?_, fun x y h1 h2 hx hy => ?_⟩
  · rcases hc.lo with e | ⟨_, e⟩
    · omega
    · exact e x y hx hy
  · rcases hc.hi with e | ⟨_, e⟩
    · omega
    · exact e x y hx (by rwa [show (a + b) / 2 + m - s - 1 = (a + b) / 2 + m - 1 - s by omega] at hy)

/-- Behind the rotation: four ranges in order, the first two nowhere above the last two. -/
structure Four (l : List Fld) (a s mid e b : Nat) : Prop where
  s1 : SrtOn l a s
  s2 : SrtOn l s mid
  s3 : SrtOn l mid e
  s4 : SrtOn l e b
  le : ∀ (p q : Nat) (x y : Fld), a ≤ p → p < mid → mid ≤ q → q < b → l[p]? = some x → l[q]? = some y → leN x.name y.name

theorem some_at {l : List Fld} {p : Nat} (h : p < l.length) : ∃ x, l[p]? = some x := ⟨_, List.getElem?_eq_getElem h⟩
theorem SrtOn.le {l : List Fld} {a b : Nat} (h : SrtOn l a b) {p q : Nat} {x y : Fld} (hp : a ≤ p) (hpq : p ≤ q) (hq : q < b) (hx : l[p]? = some x) (hy : l[q]? = some y) : leN x.name y.name := by
  by_cases e : p = q
  · subst e; rw [hx] at hy; cases hy; exact leN_refl _
  · exact h p q x y hp (by omega) hq hx hy

theorem Mrg.apart {l : List Fld} {a m b s : Nat} (h : Mrg l a m b s) {p q : Nat} {x y : Fld} (hp : s ≤ p) (hpm : p < m) (hq : m ≤ q) (hqe : q < (a + b) / 2 + m - s) (hx : l[p]? = some x) (hy : l[q]? = some y) : cmpN y.name x.name < 0 := by
  have := h.len; have := h.e2; have := h.mb; have := h.as
  obtain ⟨u, hu⟩ := some_at (l := l) (p := s) (by omega)
  obtain ⟨v, hv⟩ := some_at (l := l) (p := (a + b) / 2 + m - s - 1) (by omega)
  have h1 := h.hi u v (by omega) (by omega) hu hv
  have h2 := h.s1.le (by omega) hp hpm hu hx
  have h3 := h.s2.le (by omega) (show q ≤ (a + b) / 2 + m - s - 1 by omega) (by omega) hy hv
  exact cmpN_lt_of_le_lt h3 (cmpN_lt_of_lt_le h1 h2)

theorem Mrg.four {l k : List Fld} {a m b s : Nat} (h : Mrg l a m b s) (hr : Rot l k s m ((a + b) / 2 + m - s)) : Rng l k a b ∧ Four k a s ((a + b) / 2) ((a + b) / 2 + m - s) b := by
  have q1 := h.am; have q2 := h.mb; have q3 := h.len; have q4 := h.as; have q5 := h.sm; have q6 := h.smid; have q7 := h.e1; have q8 := h.e2
  have hg : ∀ p, k[p]? = if p < s then l[p]? else if p < (a + b) / 2 then l[p + (m - s)]? else if p < (a + b) / 2 + m - s then l[p - ((a + b) / 2 - s)]? else l[p]? := fun p => by
    rw [hr.get]
    rw [show s + ((a + b) / 2 + m - s - m) = (a + b) / 2 by omega, show (a + b) / 2 + m - s - m = (a + b) / 2 - s by omega]
  refine ⟨(hr.rng h.sm h.e1 (by omega) fun p q x y hp hpm hq hqe hx hy e => ?_).wider h.as h.e2, ?_, ?_, ?_, ?_, ?_⟩
  · have := h.apart hp hpm hq hqe hx hy
    rw [e, show cmpN y.name y.name = 0 from cmpN_eq.2 rfl] at this
    omega
  · intro p q x y hp hpq hq hx hy
    rw [hg, if_pos (by omega)] at hx hy
    exact h.s1 p q x y hp hpq (by omega) hx hy
  · intro p q x y hp hpq hq hx hy
    rw [hg, if_neg (by omega), if_pos (by omega)] at hx hy
    exact h.s2 _ _ x y (by omega) (by omega) (by omega) hx hy
  · intro p q x y hp hpq hq hx hy
    rw [hg, if_neg (by omega), if_neg (by omega), if_pos (by omega)] at hx hy
    exact h.s1 _ _ x y (by omega) (by omega) (by omega) hx hy
  · intro p q x y hp hpq hq hx hy
    rw [hg, if_neg (by omega), if_neg (by omega), if_neg (by omega)] at hx hy
    exact h.s2 _ _ x y (by omega) (by omega) (by omega) hx hy
  · intro p q x y hp hpm hq hqb hx hy
    rw [hg] at hx hy
    rw [if_neg (by omega), if_neg (by omega)] at hy
    by_cases c1 : p < s
    · rw [if_pos c1] at hx
      by_cases c2 : q < (a + b) / 2 + m - s
      · rw [if_pos c2] at hy
        exact h.s1 _ _ x y (by omega) (by omega) (by omega) hx hy
      · rw [if_neg c2] at hy
        obtain ⟨u, hu⟩ := some_at (l := l) (p := s - 1) (by omega)
        obtain ⟨v, hv⟩ := some_at (l := l) (p := (a + b) / 2 + m - s) (by omega)
        exact leN_trans (h.s1.le hp (by omega) (by omega) hx hu) (leN_trans (h.lo u v (by omega) (by omega) hu hv) (h.s2.le (by omega) (by omega) hqb hv hy))
    · rw [if_neg c1, if_pos hpm] at hx
      by_cases c2 : q < (a + b) / 2 + m - s
      · rw [if_pos c2] at hy
        exact leN_of_lt (h.apart (by omega) (by omega) (by omega) (by omega) hy hx)
      · rw [if_neg c2] at hy
        exact h.s2 _ _ x y (by omega) (by omega) hqb hx hy

/-- What is put otherwise within a range has come from within it. -/
theorem Rng.from {l k : List Fld} {a b : Nat} (h : Rng l k a b) (hab : a ≤ b) (hb : b ≤ l.length) {p : Nat} {x : Fld} (hp : a ≤ p) (hpb : p < b) (hx : k[p]? = some x) : ∃ q, a ≤ q ∧ q < b ∧ l[q]? = some x := by
  have el := parts4 l hab (Nat.le_refl b)
  have ek := parts4 k hab (Nat.le_refl b)
  simp only [Nat.sub_self, List.take_zero, List.append_nil] at el ek
  have t1 : l.take a = k.take a := by
    apply List.ext_getElem?; intro j
    rw [List.getElem?_take, List.getElem?_take]
    split
    · rw [h.out j (.inl (by assumption))]
    · rfl
  have t2 : l.drop b = k.drop b := by
    apply List.ext_getElem?; intro j
    rw [List.getElem?_drop, List.getElem?_drop, h.out _ (.inr (by omega))]
  have hst : StP ((l.drop a).take (b - a)) ((k.drop a).take (b - a)) := fun s => by
    have := h.st s
    rw [el, ek, t1, t2, List.filter_append, List.filter_append, List.filter_append, List.filter_append] at this
    exact List.append_cancel_right (List.append_cancel_left this)
  have hmem : x ∈ (k.drop a).take (b - a) := by
    refine List.mem_iff_getElem?.2 ⟨p - a, ?_⟩
    rw [List.getElem?_take, if_pos (by omega), List.getElem?_drop, show a + (p - a) = p by omega, hx]
  obtain ⟨q, hq⟩ := List.mem_iff_getElem?.1 (hst.symm.mem hmem)
  have hq2 : q < b - a := by
    have := (List.getElem?_eq_some_iff.1 hq).1
    rw [List.length_take] at this; omega
  rw [List.getElem?_take, if_pos hq2, List.getElem?_drop] at hq
  exact ⟨a + q, by omega, by omega, hq⟩

theorem Rng.srt {l k : List Fld} {a b c d : Nat} (h : Rng l k a b) (hs : SrtOn l c d) (ho : d ≤ a ∨ b ≤ c) : SrtOn k c d := fun p q x y hp hpq hq hx hy => by
  rw [h.out p (by omega)] at hx
  rw [h.out q (by omega)] at hy
  exact hs p q x y hp hpq hq hx hy
/-- The first half has been merged. -/
theorem Four.left {l k : List Fld} {a s mid e b : Nat} (h : Four l a s mid e b) (hm : a ≤ mid) (hmb : mid ≤ b) (he : mid ≤ e) (hl : b ≤ l.length) (hr : Rng l k a mid) (hs : SrtOn k a mid) : Four k a mid mid e b :=
  ⟨hs, fun p q x y h1 h2 h3 => by omega, hr.srt h.s3 (.inr (Nat.le_refl _)), hr.srt h.s4 (.inr he), fun p q x y hp hpm hq hqb hx hy => by
    obtain ⟨p', h1, h2, h3⟩ := hr.from hm (by omega) hp hpm hx
    rw [hr.out q (.inr hq)] at hy
    exact h.le p' q x y h1 h2 hq hqb h3 hy⟩
theorem Four.leftN {l : List Fld} {a s mid e b : Nat} (h : Four l a s mid e b) (hc : a = s ∨ s = mid) : Four l a mid mid e b := by
  refine ⟨?_, fun p q x y h1 h2 h3 => by omega, h.s3, h.s4, h.le⟩
  rcases hc with e | e
  · rw [e]; exact h.s2
  · rw [← e]; exact h.s1
theorem Four.right {l k : List Fld} {a mid e b : Nat} (h : Four l a mid mid e b) (hm : a ≤ mid) (hmb : mid ≤ b) (hl : b ≤ l.length) (hr : Rng l k mid b) (hs : SrtOn k mid b) : SrtOn k a b := fun p q x y hp hpq hq hx hy => by
  by_cases c1 : p < mid
  · rw [hr.out p (.inl c1)] at hx
    by_cases c2 : q < mid
    · rw [hr.out q (.inl c2)] at hy
      exact h.s1 p q x y hp hpq c2 hx hy
    · obtain ⟨q', h1, h2, h3⟩ := hr.from hmb (by omega) (by omega) hq hy
      exact h.le p q' x y hp c1 h1 h2 hx h3
  · exact hs p q x y (by omega) hpq hq hx hy
theorem Four.rightN {l : List Fld} {a mid e b : Nat} (h : Four l a mid mid e b) (hc : mid = e ∨ e = b) : SrtOn l a b := fun p q x y hp hpq hq hx hy => by
  have h3 : SrtOn l mid b := by
    rcases hc with c | c
    · rw [c]; exact h.s4
    · rw [← c]; exact h.s3
  by_cases c1 : p < mid
  · by_cases c2 : q < mid
    · exact h.s1 p q x y hp hpq c2 hx hy
    · exact h.le p q x y hp c1 (by omega) hq hx hy
  · exact h3 p q x y (by omega) hpq hq hx hy

/-! ## Blocks in order -/

theorem dvd_gap {n p a : Nat} (hp : n ∣ p) (ha : n ∣ a) (h : p < a) : p + n ≤ a := by
  have := Nat.le_of_dvd (by omega) (Nat.dvd_sub ha hp)
  omega
theorem SrtOn.mono {l : List Fld} {a b a' b' : Nat} (h : SrtOn l a b) (ha : a ≤ a') (hb : b' ≤ b) : SrtOn l a' b' := fun p q x y hp hpq hq => h p q x y (by omega) hpq (by omega)
theorem SrtOn.none {l : List Fld} {a b : Nat} (h : b ≤ a) : SrtOn l a b := fun p q x y hp hpq hq => by omega

/-- Each block of n is in order, up to the end e. -/
def Blk (l : List Fld) (n e : Nat) : Prop := ∀ p, n ∣ p → SrtOn l p (min (p + n) e)
/-- Those of n ahead of a are. -/
def Blk1 (l : List Fld) (n a : Nat) : Prop := ∀ p, n ∣ p → p < a → SrtOn l p (p + n)
theorem Blk1.zero {l : List Fld} {n : Nat} : Blk1 l n 0 := fun p _ h => by omega
theorem Blk1.step {l k : List Fld} {n a : Nat} (h : Blk1 l n a) (ha : n ∣ a) (hr : Rng l k a (a + n)) (hs : SrtOn k a (a + n)) : Blk1 k n (a + n) := fun p hp hlt => by
  by_cases c : p < a
  · exact hr.srt (h p hp c) (.inl (dvd_gap hp ha c))
  · by_cases c2 : a < p
    · have := dvd_gap ha hp c2; omega
    · rw [show p = a by omega]; exact hs
theorem Blk1.fin {l k : List Fld} {n a e : Nat} (h : Blk1 l n a) (ha : n ∣ a) (he : e < a + n) (hr : Rng l k a e) (hs : SrtOn k a e) : Blk k n e := fun p hp => by
  by_cases c : p < a
  · exact (hr.srt (h p hp c) (.inl (dvd_gap hp ha c))).mono (Nat.le_refl _) (Nat.min_le_left _ _)
  · by_cases c2 : a < p
    · have := dvd_gap ha hp c2
      exact SrtOn.none (by omega)
    · rw [show p = a by omega]; exact hs.mono (Nat.le_refl _) (Nat.min_le_right _ _)

/-- Blocks of n: those ahead of a have been merged by two. -/
structure B2 (l : List Fld) (n a e : Nat) : Prop where
  dv : 2 * n ∣ a
  lt : Blk1 l (2 * n) a
  ge : ∀ p, n ∣ p → a ≤ p → SrtOn l p (min (p + n) e)
theorem B2.start {l : List Fld} {n e : Nat} (h : Blk l n e) : B2 l n 0 e := ⟨Nat.dvd_zero _, Blk1.zero, fun p hp _ => h p hp⟩
theorem B2.dv1 {l : List Fld} {n a e : Nat} (h : B2 l n a e) : n ∣ a := Nat.dvd_trans ⟨2, by rw [Nat.mul_comm]⟩ h.dv
theorem B2.left {l : List Fld} {n a e : Nat} (h : B2 l n a e) (he : a + n ≤ e) : SrtOn l a (a + n) := by
  have := h.ge a h.dv1 (Nat.le_refl _)
  rwa [Nat.min_eq_left he] at this
theorem B2.right {l : List Fld} {n a e : Nat} (h : B2 l n a e) : SrtOn l (a + n) (min (a + 2 * n) e) := by
  have := h.ge (a + n) ((Nat.dvd_add_right h.dv1).2 (Nat.dvd_refl n)) (by omega)
  rwa [show a + n + n = a + 2 * n by omega] at this
theorem B2.step {l k : List Fld} {n a e : Nat} (h : B2 l n a e) (hr : Rng l k a (a + 2 * n)) (hs : SrtOn k a (a + 2 * n)) : B2 k n (a + 2 * n) e :=
  ⟨(Nat.dvd_add_right h.dv).2 (Nat.dvd_refl _), h.lt.step h.dv hr hs, fun p hp hap => hr.srt (h.ge p hp (by omega)) (.inr hap)⟩
theorem B2.fin {l k : List Fld} {n a e : Nat} (h : B2 l n a e) (he : e < a + 2 * n) (hr : Rng l k a e) (hs : SrtOn k a e) : Blk k (2 * n) e := h.lt.fin h.dv he hr hs
theorem B2.finN {l : List Fld} {n a e : Nat} (h : B2 l n a e) (he : e < a + 2 * n) (hm : e ≤ a + n) : Blk l (2 * n) e :=
  h.lt.fin h.dv he (Rng.refl _ _ _) ((h.ge a h.dv1 (Nat.le_refl _)).mono (Nat.le_refl _) (by omega))
theorem Blk.all {l : List Fld} {n e : Nat} (h : Blk l n e) (he : e ≤ n) : SrtOn l 0 e := (h 0 (Nat.dvd_zero _)).mono (Nat.le_refl _) (by omega)
/-- In order as a whole. -/
theorem srt_of {l : List Fld} (h : SrtOn l 0 l.length) : Srt l := by
  unfold Srt
  rw [List.pairwise_iff_getElem]
  intro i j hi hj hij
  exact h i j _ _ (Nat.zero_le _) hij hj (List.getElem?_eq_getElem hi) (List.getElem?_eq_getElem hj)
end Rw
