/- Plain laws on the relations between types, by names and places. No program in sight. -/
import Derived.Test.YtpoahmeacjggfaaPlainQ
import Derived.Test.YtpoahmeacjggfaaPlainB
namespace Rw

/-! ## The n-th field of a name -/

def nthT (l : List Fld) (s : ByteArray) (n : Nat) : Option Ty := ((l.filter fun f => decide (f.name = s))[n]?).map Fld.ty
theorem nthT_st {l k : List Fld} (h : StP l k) (s : ByteArray) (n : Nat) : nthT l s n = nthT k s n := by unfold nthT; rw [h s]
theorem nthT_fields (l : List Fld) (s : ByteArray) (n : Nat) : nthT (fieldsF l) s n = nthT l s n := (nthT_st (fieldsF_st l) s n).symm
theorem nthT_none {l : List Fld} {s : ByteArray} {n : Nat} : nthT l s n = none ↔ cntN l s ≤ n := by
  unfold nthT cntN; rw [Option.map_eq_none_iff, List.getElem?_eq_none_iff]
theorem nthT_nil (s : ByteArray) (n : Nat) : nthT [] s n = none := rfl
theorem nthT_yes {f : Fld} {l : List Fld} {s : ByteArray} (h : f.name = s) : nthT (f :: l) s 0 = some f.ty ∧ ∀ n, nthT (f :: l) s (n + 1) = nthT l s n := by
  unfold nthT
  rw [List.filter_cons, decide_eq_true h]
  exact ⟨rfl, fun n => rfl⟩
theorem nthT_no {f : Fld} {l : List Fld} {s : ByteArray} (h : f.name ≠ s) (n : Nat) : nthT (f :: l) s n = nthT l s n := by
  unfold nthT
  rw [List.filter_cons, decide_eq_false h]
  rfl
theorem nthT_mem : ∀ {l : List Fld} {s : ByteArray} {n : Nat} {x : Ty}, nthT l s n = some x → ∃ (i : Nat) (hi : i < l.length), l[i].name = s ∧ cntN (l.take i) s = n ∧ l[i].ty = x
  | [], s, n, x, h => by rw [nthT_nil] at h; cases h
  | f :: l, s, n, x, h => by
    by_cases e : f.name = s
    · cases n with
      | zero =>
        rw [(nthT_yes e).1] at h
        exact ⟨0, by simp, e, rfl, by simpa using h⟩
      | succ n =>
        rw [(nthT_yes e).2] at h
        obtain ⟨i, hi, h1, h2, h3⟩ := nthT_mem h
        refine ⟨i + 1, by simpa using hi, by simpa using h1, ?_, by simpa using h3⟩
        rw [List.take_succ_cons, show f :: l.take i = [f] ++ l.take i from rfl, cntN_app, cntN_yes e, h2]; omega
    · rw [nthT_no e] at h
      obtain ⟨i, hi, h1, h2, h3⟩ := nthT_mem h
      refine ⟨i + 1, by simpa using hi, by simpa using h1, ?_, by simpa using h3⟩
      rw [List.take_succ_cons, show f :: l.take i = [f] ++ l.take i from rfl, cntN_app, cntN_no e, h2]; omega
theorem nthT_at : ∀ {l : List Fld} {i : Nat} (hi : i < l.length), nthT l l[i].name (cntN (l.take i) l[i].name) = some l[i].ty
  | [], i, hi => by simp at hi
  | f :: l, 0, _ => by
    show nthT (f :: l) f.name 0 = some f.ty
    exact (nthT_yes rfl).1
  | f :: l, i + 1, hi => by
    have ih := nthT_at (l := l) (i := i) (by simpa using hi)
    simp only [List.getElem_cons_succ, List.take_succ_cons]
    rw [show f :: l.take i = [f] ++ l.take i from rfl, cntN_app]
    by_cases e : f.name = (l[i]'(by simpa using hi)).name
    · rw [cntN_yes e, Nat.add_comm, (nthT_yes e).2, ih]
    · rw [cntN_no e, Nat.zero_add, nthT_no e, ih]
theorem nthT_srt {m : List Fld} (hs : Srt m) {s : ByteArray} {n : Nat} (h : n < cntN m s) : ∃ hk : lessN m s + n < m.length, nthT m s n = some m[lessN m s + n].ty := by
  obtain ⟨hk, hn⟩ := (nth_iff hs s n).1 h
  have h1 := srt_idx hs hk
  rw [hn] at h1
  have h2 := nthT_at hk
  rw [hn, show cntN (m.take (lessN m s + n)) s = n by omega] at h2
  exact ⟨hk, h2⟩

/-- Two rows' fields and tails, in a relation. -/
structure RowP (h : Ty → Ty → Bool) (less : Bool) (l m : List Fld) (e f : Ty) : Prop where
  both : ∀ s n x y, nthT l s n = some x → nthT m s n = some y → h x y = true
  left : ∀ s n x, nthT l s n = some x → nthT m s n = none → f.op = 9
  right : ∀ s n y, nthT m s n = some y → nthT l s n = none → less = false ∧ e.op = 9
  tail : tailF less e f = true

theorem rows_iff0 {less : Bool} {a b : Ty} : rowsF less a b = true ↔ RowP (holdsF less) less (flatF a).1 (flatF b).1 (flatF a).2 (flatF b).2 := by
  have hsm := flt_srt b
  unfold rowsF rowsN
  rw [Bool.and_eq_true, Bool.and_eq_true, List.all_eq_true, List.all_eq_true]
  generalize (flatF a).1 = l at *
  generalize (flatF b).1 = m at *
  constructor
  · rintro ⟨h1, h2, h3⟩
    refine ⟨fun s n x y hx hy => ?_, fun s n x hx hy => ?_, fun s n y hy hx => ?_, h3⟩
    · obtain ⟨i, hi, e1, e2, e3⟩ := nthT_mem hx
      have h4 := h1 i (List.mem_range.2 hi)
      have hlt : n < cntN m s := by
        rcases Nat.lt_or_ge n (cntN m s) with h | h
        · exact h
        · rw [nthT_none.2 h] at hy; cases hy
      obtain ⟨hk, hm⟩ := nthT_srt hsm hlt
      unfold okL at h4
      rw [List.getElem?_eq_getElem hi] at h4
      simp only [e1, e2, decide_eq_true hlt, cond_true, List.getElem?_eq_getElem hk] at h4
      rw [hm] at hy
      rw [← Option.some.inj hy, ← e3]; exact h4
    · obtain ⟨i, hi, e1, e2, e3⟩ := nthT_mem hx
      have h4 := h1 i (List.mem_range.2 hi)
      have hge := nthT_none.1 hy
      unfold okL at h4
      rw [List.getElem?_eq_getElem hi] at h4
      simp only [e1, e2, decide_eq_false (show ¬ n < cntN m s by omega), cond_false] at h4
      simpa using h4
    · obtain ⟨k, hk, e1, e2, e3⟩ := nthT_mem hy
      have h4 := h2 k (List.mem_range.2 hk)
      have hge := nthT_none.1 hx
      unfold okM at h4
      rw [List.getElem?_eq_getElem hk] at h4
      simp only [e1, e2, decide_eq_false (show ¬ n < cntN l s by omega), Bool.false_or, Bool.and_eq_true, Bool.not_eq_true', decide_eq_true_eq] at h4
      exact h4
  · rintro ⟨h1, h2, h3, h4⟩
    refine ⟨fun i hi => ?_, fun k hk => ?_, h4⟩
    · rw [List.mem_range] at hi
      have hx := nthT_at hi
      by_cases hc : cntN (l.take i) l[i].name < cntN m l[i].name
      · obtain ⟨hk, hm⟩ := nthT_srt hsm hc
        unfold okL
        rw [List.getElem?_eq_getElem hi]
        simp only [decide_eq_true hc, cond_true, List.getElem?_eq_getElem hk]
        exact h1 _ _ _ _ hx hm
      · unfold okL
        rw [List.getElem?_eq_getElem hi]
        simp only [decide_eq_false hc, cond_false]
        exact decide_eq_true (h2 _ _ _ hx (nthT_none.2 (by omega)))
    · rw [List.mem_range] at hk
      have hy := nthT_at hk
      unfold okM
      rw [List.getElem?_eq_getElem hk]
      by_cases hc : cntN (m.take k) m[k].name < cntN l m[k].name
      · simp only [decide_eq_true hc, Bool.true_or]
      · obtain ⟨h5, h6⟩ := h3 _ _ _ hy (nthT_none.2 (by omega))
        rw [h5, decide_eq_true h6]; simp
theorem rows_iff {less : Bool} {a b : Ty} (ha : rowB a = true) (hb : rowB b = true) : rowsF less a b = true ↔ RowP (holdsF less) less (spineF a).1 (spineF b).1 (spineF a).2 (spineF b).2 := by
  rw [rows_iff0, flat_yes ha, flat_yes hb]
  constructor
  · rintro ⟨h1, h2, h3, h4⟩
    simp only [nthT_fields] at h1 h2 h3
    exact ⟨h1, h2, h3, h4⟩
  · rintro ⟨h1, h2, h3, h4⟩
    refine ⟨?_, ?_, ?_, h4⟩ <;> simp only [nthT_fields] <;> assumption

/-! ## Types in a relation -/

theorem holds_dynR {less : Bool} {a b : Ty} (h : b.op = 3) : holdsF less a b = true := by rw [holdsF_eq]; simp [dynF, h]
theorem holds_dynL {a b : Ty} (h : a.op = 3) : holdsF false a b = true := by rw [holdsF_eq]; simp [dynF, h]
theorem holds_base {less : Bool} {a b : Ty} (h : a.op = b.op) (hn : a.n = b.n) (h4 : a.op ≠ 4) (h5 : a.op ≠ 5) (h6 : a.op ≠ 6) : holdsF less a b = true := by
  rw [holdsF_eq]; simp only [decide_eq_true h, decide_eq_true hn, decide_eq_false h4, decide_eq_false h5, decide_eq_false h6]; simp
theorem holds_fun {less : Bool} {a b k r k' r' : Ty} (ha : a.op = 4) (hb : b.op = 4) (hn : a.n = b.n) (hk : a.kids = [k, r]) (hk' : b.kids = [k', r']) (h1 : holdsF less k k' = true) (h2 : holdsF less r r' = true) : holdsF less a b = true := by
  rw [holdsF_eq]; simp [ha, hb, hn, hk, hk', funP, h1, h2]
theorem holds_rec {less : Bool} {a b k k' : Ty} (ha : a.op = 5 ∨ a.op = 6) (hb : a.op = b.op) (hn : a.n = b.n) (hk : a.kids = [k]) (hk' : b.kids = [k']) (h1 : rowsF less k k' = true) : holdsF less a b = true := by
  rw [holdsF_eq]
  have h4 : a.op ≠ 4 := by omega
  have h56 : (decide (a.op = 5) || decide (a.op = 6)) = true := by simpa using ha
  simp only [decide_eq_true hb, decide_eq_true hn, decide_eq_false h4, h56, hk, hk', recP]
  simp only [cond_false, cond_true]
  rw [show rowsN (holdsF less) less k k' = rowsF less k k' from rfl, h1]; simp
theorem holds_cases {less : Bool} {a b : Ty} (ha : rightB a = true) (hb : rightB b = true) (h : holdsF less a b = true) : b.op = 3 ∨ (less = false ∧ a.op = 3) ∨ (a.op = b.op ∧ a.n = b.n ∧ ((a.op ≠ 4 ∧ a.op ≠ 5 ∧ a.op ≠ 6) ∨
    (a.op = 4 ∧ ∃ k r k' r', a.kids = [k, r] ∧ b.kids = [k', r'] ∧ rightB k = true ∧ rightB r = true ∧ rightB k' = true ∧ rightB r' = true ∧ holdsF less k k' = true ∧ holdsF less r r' = true) ∨
    ((a.op = 5 ∨ a.op = 6) ∧ ∃ k k', a.kids = [k] ∧ b.kids = [k'] ∧ rowB k = true ∧ rowB k' = true ∧ rowsF less k k' = true))) := by
  have oa := right_op ha
  have ob := right_op hb
  rw [holdsF_eq] at h
  rw [Bool.or_eq_true] at h
  rcases h with h | h
  · unfold dynF at h
    simp only [Bool.or_eq_true, decide_eq_true_eq, Bool.and_eq_true, Bool.not_eq_true'] at h
    rcases h with (h | h) | ⟨h0, h | h⟩
    · exact .inl h
    · omega
    · exact .inr (.inl ⟨h0, h⟩)
    · omega
  · rw [Bool.and_eq_true, Bool.and_eq_true, decide_eq_true_eq, decide_eq_true_eq] at h
    obtain ⟨⟨e1, e2⟩, h3⟩ := h
    refine .inr (.inr ⟨e1, e2, ?_⟩)
    by_cases h4 : a.op = 4
    · obtain ⟨k, r, hk, hk1, hk2⟩ := fun_kids ha h4
      obtain ⟨k', r', hk', hk1', hk2'⟩ := fun_kids hb (by omega)
      rw [decide_eq_true h4, hk, hk'] at h3
      simp only [cond_true, funP, Bool.and_eq_true] at h3
      exact .inr (.inl ⟨h4, k, r, k', r', hk, hk', hk1, hk2, hk1', hk2', h3.1, h3.2⟩)
    · by_cases h5 : a.op = 5 ∨ a.op = 6
      · obtain ⟨k, hk, hk1⟩ := rec_kids ha h5
        obtain ⟨k', hk', hk1'⟩ := rec_kids hb (by omega)
        have h56 : (decide (a.op = 5) || decide (a.op = 6)) = true := by simpa using h5
        rw [decide_eq_false h4, h56, hk, hk'] at h3
        exact .inr (.inr ⟨h5, k, k', hk, hk', hk1, hk1', h3⟩)
      · exact .inl ⟨h4, by omega, by omega⟩

/-- A field's type is smaller, and right. -/
theorem nthT_psz {r : Ty} {s : ByteArray} {n : Nat} {x : Ty} (h : nthT (spineF r).1 s n = some x) : psz x < psz r := by
  obtain ⟨i, hi, _, _, e⟩ := nthT_mem h
  rw [← e]; exact spine_psz r _ (List.getElem_mem hi)
theorem nthT_right {r : Ty} (hr : rowB r = true) {s : ByteArray} {n : Nat} {x : Ty} (h : nthT (spineF r).1 s n = some x) : rightB x = true := by
  obtain ⟨i, hi, _, _, e⟩ := nthT_mem h
  rw [← e]; exact (spine_right hr).1 _ (List.getElem_mem hi)
theorem tail_ne3 {r : Ty} (hr : rowB r = true) : (spineF r).2.op ≠ 3 := by
  have := row_op (spine_right hr).2.1; omega
theorem tail_true {e f : Ty} (hf : f.op ≠ 3) : tailF true e f = true ↔ f.op = 9 ∨ (e.op = f.op ∧ e.n = f.n) := by
  unfold tailF dynF; simp [hf]
theorem tail_false {e f : Ty} (he : e.op ≠ 3) (hf : f.op ≠ 3) : tailF false e f = true ↔ (f.op = 9 ∨ e.op = 9) ∨ (e.op = f.op ∧ e.n = f.n) := by
  unfold tailF dynF; simp [he, hf]
theorem some_or_none {α : Type} (o : Option α) : (∃ x, o = some x) ∨ o = none := by cases o with
  | none => exact .inr rfl
  | some x => exact .inl ⟨x, rfl⟩

/-- Each says at least as much as itself. -/
theorem less_refl (less : Bool) : ∀ (N : Nat) (a : Ty), psz a ≤ N → rightB a = true → holdsF less a a = true
  | 0, a, h, _ => by have := psz_pos a; omega
  | N + 1, a, h, ha => by
    by_cases h4 : a.op = 4
    · obtain ⟨k, r, hk, h1, h2⟩ := fun_kids ha h4
      have p1 := kid_psz (t := a) (k := k) (by rw [hk]; simp)
      have p2 := kid_psz (t := a) (k := r) (by rw [hk]; simp)
      exact holds_fun h4 h4 rfl hk hk (less_refl less N k (by omega) h1) (less_refl less N r (by omega) h2)
    · by_cases h5 : a.op = 5 ∨ a.op = 6
      · obtain ⟨k, hk, h1⟩ := rec_kids ha h5
        have p1 := kid_psz (t := a) (k := k) (by rw [hk]; simp)
        refine holds_rec h5 rfl rfl hk hk ((rows_iff h1 h1).2 ⟨fun s n x y hx hy => ?_, fun s n x hx hy => ?_, fun s n y hy hx => ?_, ?_⟩)
        · rw [hx] at hy; cases hy
          have := nthT_psz hx
          exact less_refl less N x (by omega) (nthT_right h1 hx)
        · rw [hx] at hy; cases hy
        · rw [hx] at hy; cases hy
        · unfold tailF; simp
      · exact holds_base rfl rfl h4 (by omega) (by omega)
/-- What says at least as much is consistent. -/
theorem less_cons : ∀ (N : Nat) (a b : Ty), psz a ≤ N → rightB a = true → rightB b = true → holdsF true a b = true → holdsF false a b = true
  | 0, a, _, h, _, _, _ => by have := psz_pos a; omega
  | N + 1, a, b, h, ha, hb, hh => by
    rcases holds_cases ha hb hh with h3 | ⟨h0, _⟩ | ⟨e1, e2, h3 | ⟨h4, k, r, k', r', hk, hk', q1, q2, q3, q4, h5, h6⟩ | ⟨h4, k, k', hk, hk', q1, q2, h5⟩⟩
    · exact holds_dynR h3
    · cases h0
    · exact holds_base e1 e2 h3.1 h3.2.1 h3.2.2
    · have p1 := kid_psz (t := a) (k := k) (by rw [hk]; simp)
      have p2 := kid_psz (t := a) (k := r) (by rw [hk]; simp)
      exact holds_fun h4 (by omega) e2 hk hk' (less_cons N k k' (by omega) q1 q3 h5) (less_cons N r r' (by omega) q2 q4 h6)
    · have p1 := kid_psz (t := a) (k := k) (by rw [hk]; simp)
      obtain ⟨r1, r2, r3, r4⟩ := (rows_iff q1 q2).1 h5
      refine holds_rec h4 e1 e2 hk hk' ((rows_iff q1 q2).2 ⟨fun s n x y hx hy => ?_, r2, fun s n y hy hx => ?_, ?_⟩)
      · have := nthT_psz hx
        exact less_cons N x y (by omega) (nthT_right q1 hx) (nthT_right q2 hy) (r1 s n x y hx hy)
      · have := (r3 s n y hy hx).1; cases this
      · rw [tail_true (tail_ne3 q2)] at r4
        rw [tail_false (tail_ne3 q1) (tail_ne3 q2)]
        rcases r4 with r4 | r4
        · exact .inl (.inl r4)
        · exact .inr r4
/-- Consistent: either way. -/
theorem cons_symm : ∀ (N : Nat) (a b : Ty), psz a ≤ N → rightB a = true → rightB b = true → holdsF false a b = true → holdsF false b a = true
  | 0, a, _, h, _, _, _ => by have := psz_pos a; omega
  | N + 1, a, b, h, ha, hb, hh => by
    rcases holds_cases ha hb hh with h3 | ⟨_, h3⟩ | ⟨e1, e2, h3 | ⟨h4, k, r, k', r', hk, hk', q1, q2, q3, q4, h5, h6⟩ | ⟨h4, k, k', hk, hk', q1, q2, h5⟩⟩
    · exact holds_dynL h3
    · exact holds_dynR h3
    · exact holds_base e1.symm e2.symm (by omega) (by omega) (by omega)
    · have p1 := kid_psz (t := a) (k := k) (by rw [hk]; simp)
      have p2 := kid_psz (t := a) (k := r) (by rw [hk]; simp)
      exact holds_fun (by omega) h4 e2.symm hk' hk (cons_symm N k k' (by omega) q1 q3 h5) (cons_symm N r r' (by omega) q2 q4 h6)
    · have p1 := kid_psz (t := a) (k := k) (by rw [hk]; simp)
      obtain ⟨r1, r2, r3, r4⟩ := (rows_iff q1 q2).1 h5
      refine holds_rec (by omega) e1.symm e2.symm hk' hk ((rows_iff q2 q1).2 ⟨fun s n x y hx hy => ?_, fun s n x hx hy => (r3 s n x hx hy).2, fun s n y hy hx => ⟨rfl, r2 s n y hy hx⟩, ?_⟩)
      · have := nthT_psz hy
        exact cons_symm N y x (by omega) (nthT_right q1 hy) (nthT_right q2 hx) (r1 s n y x hy hx)
      · rw [tail_false (tail_ne3 q1) (tail_ne3 q2)] at r4
        rw [tail_false (tail_ne3 q2) (tail_ne3 q1)]
        rcases r4 with (r4 | r4) | r4
        · exact .inl (.inr r4)
        · exact .inl (.inl r4)
        · exact .inr ⟨r4.1.symm, r4.2.symm⟩
/-- It goes on from one to the next. -/
theorem less_trans : ∀ (N : Nat) (a b c : Ty), psz a ≤ N → rightB a = true → rightB b = true → rightB c = true → holdsF true a b = true → holdsF true b c = true → holdsF true a c = true
  | 0, a, _, _, h, _, _, _, _, _ => by have := psz_pos a; omega
  | N + 1, a, b, c, h, ha, hb, hc, hab, hbc => by
    rcases holds_cases hb hc hbc with h3 | ⟨h0, _⟩ | ⟨d1, d2, hd⟩
    · exact holds_dynR h3
    · cases h0
    · rcases holds_cases ha hb hab with h3 | ⟨h0, _⟩ | ⟨e1, e2, h3 | ⟨h4, k, r, k', r', hk, hk', q1, q2, q3, q4, h5, h6⟩ | ⟨h4, k, k', hk, hk', q1, q2, h5⟩⟩
      · exact holds_dynR (by omega)
      · cases h0
      · exact holds_base (by omega) (by omega) h3.1 h3.2.1 h3.2.2
      · have p1 := kid_psz (t := a) (k := k) (by rw [hk]; simp)
        have p2 := kid_psz (t := a) (k := r) (by rw [hk]; simp)
        rcases hd with hd | ⟨g4, l, s, l', s', hl, hl', _, _, t3, t4, g5, g6⟩ | ⟨g4, _⟩
        · omega
        · rw [hk'] at hl
          simp only [List.cons.injEq, and_true] at hl
          obtain ⟨rfl, rfl⟩ := hl
          exact holds_fun h4 (by omega) (by omega) hk hl' (less_trans N k k' l' (by omega) q1 q3 t3 h5 g5) (less_trans N r r' s' (by omega) q2 q4 t4 h6 g6)
        · omega
      · have p1 := kid_psz (t := a) (k := k) (by rw [hk]; simp)
        rcases hd with hd | ⟨g4, _⟩ | ⟨g4, l, l', hl, hl', _, t2, g5⟩
        · omega
        · omega
        · rw [hk'] at hl
          simp only [List.cons.injEq, and_true] at hl
          subst hl
          obtain ⟨r1, r2, r3, r4⟩ := (rows_iff q1 q2).1 h5
          obtain ⟨s1, s2, s3, s4⟩ := (rows_iff q2 t2).1 g5
          rw [tail_true (tail_ne3 q2)] at r4
          rw [tail_true (tail_ne3 t2)] at s4
          refine holds_rec h4 (by omega) (by omega) hk hl' ((rows_iff q1 t2).2 ⟨fun s n x z hx hz => ?_, fun s n x hx hz => ?_, fun s n z hz hx => ?_, ?_⟩)
          · rcases some_or_none (nthT (spineF k').1 s n) with ⟨y, hy⟩ | hy
            · have := nthT_psz hx
              exact less_trans N x y z (by omega) (nthT_right q1 hx) (nthT_right q2 hy) (nthT_right t2 hz) (r1 s n x y hx hy) (s1 s n y z hy hz)
            · have := (s3 s n z hz hy).1; cases this
          · rcases some_or_none (nthT (spineF k').1 s n) with ⟨y, hy⟩ | hy
            · exact s2 s n y hy hz
            · have := r2 s n x hx hy
              rcases s4 with s4 | s4
              · exact s4
              · omega
          · rcases some_or_none (nthT (spineF k').1 s n) with ⟨y, hy⟩ | hy
            · have := (r3 s n y hy hx).1; cases this
            · have := (s3 s n z hz hy).1; cases this
          · rw [tail_true (tail_ne3 t2)]
            rcases s4 with s4 | s4
            · exact .inl s4
            · rcases r4 with r4 | r4
              · exact .inl (by omega)
              · exact .inr ⟨by omega, by omega⟩
/-- Of what is consistent with the more precise one the less precise one is, too. -/
theorem cons_mono : ∀ (N : Nat) (t x u : Ty), psz t ≤ N → rightB t = true → rightB x = true → rightB u = true → holdsF true t x = true → holdsF false t u = true → holdsF false x u = true
  | 0, a, _, _, h, _, _, _, _, _ => by have := psz_pos a; omega
  | N + 1, a, b, c, h, ha, hb, hc, hab, hac => by
    rcases holds_cases ha hc hac with h3 | ⟨_, h3⟩ | ⟨d1, d2, hd⟩
    · exact holds_dynR h3
    · rcases holds_cases ha hb hab with g3 | ⟨h0, _⟩ | ⟨e1, _⟩
      · exact holds_dynL g3
      · cases h0
      · exact holds_dynL (by omega)
    · rcases holds_cases ha hb hab with h3 | ⟨h0, _⟩ | ⟨e1, e2, h3 | ⟨h4, k, r, k', r', hk, hk', q1, q2, q3, q4, h5, h6⟩ | ⟨h4, k, k', hk, hk', q1, q2, h5⟩⟩
      · exact holds_dynL h3
      · cases h0
      · exact holds_base (by omega) (by omega) (by omega) (by omega) (by omega)
      · have p1 := kid_psz (t := a) (k := k) (by rw [hk]; simp)
        have p2 := kid_psz (t := a) (k := r) (by rw [hk]; simp)
        rcases hd with hd | ⟨g4, l, s, l', s', hl, hl', _, _, t3, t4, g5, g6⟩ | ⟨g4, _⟩
        · omega
        · rw [hk] at hl
          simp only [List.cons.injEq, and_true] at hl
          obtain ⟨rfl, rfl⟩ := hl
          exact holds_fun (by omega) (by omega) (by omega) hk' hl' (cons_mono N k k' l' (by omega) q1 q3 t3 h5 g5) (cons_mono N r r' s' (by omega) q2 q4 t4 h6 g6)
        · omega
      · have p1 := kid_psz (t := a) (k := k) (by rw [hk]; simp)
        rcases hd with hd | ⟨g4, _⟩ | ⟨g4, l, l', hl, hl', _, t2, g5⟩
        · omega
        · omega
        · rw [hk] at hl
          simp only [List.cons.injEq, and_true] at hl
          subst hl
          obtain ⟨r1, r2, r3, r4⟩ := (rows_iff q1 q2).1 h5
          obtain ⟨s1, s2, s3, s4⟩ := (rows_iff q1 t2).1 g5
          rw [tail_true (tail_ne3 q2)] at r4
          rw [tail_false (tail_ne3 q1) (tail_ne3 t2)] at s4
          refine holds_rec (by omega) (by omega) (by omega) hk' hl' ((rows_iff q2 t2).2 ⟨fun s n y z hy hz => ?_, fun s n y hy hz => ?_, fun s n z hz hy => ?_, ?_⟩)
          · rcases some_or_none (nthT (spineF k).1 s n) with ⟨x, hx⟩ | hx
            · have := nthT_psz hx
              exact cons_mono N x y z (by omega) (nthT_right q1 hx) (nthT_right q2 hy) (nthT_right t2 hz) (r1 s n x y hx hy) (s1 s n x z hx hz)
            · have := (r3 s n y hy hx).1; cases this
          · rcases some_or_none (nthT (spineF k).1 s n) with ⟨x, hx⟩ | hx
            · exact s2 s n x hx hz
            · have := (r3 s n y hy hx).1; cases this
          · refine ⟨rfl, ?_⟩
            rcases some_or_none (nthT (spineF k).1 s n) with ⟨x, hx⟩ | hx
            · exact r2 s n x hx hy
            · have := (s3 s n z hz hx).2
              rcases r4 with r4 | r4
              · exact r4
              · omega
          · rw [tail_false (tail_ne3 q2) (tail_ne3 t2)]
            rcases r4 with r4 | r4
            · exact .inl (.inr r4)
            · rcases s4 with (s4 | s4) | s4
              · exact .inl (.inl s4)
              · exact .inl (.inr (by omega))
              · exact .inr ⟨by omega, by omega⟩
end Rw
