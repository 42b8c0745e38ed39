/- Plain laws on relations between types: the scan of sorted fields, and the definition. No program in sight. -/
import Derived.Test.YtpoahmeacjggfaaPlainN
import Derived.Test.YtpoahmeacjggfaaPlainC
namespace Rw

/-! ## Parts of what is right -/
theorem rightB_of {t : Ty} (h : rightB t = true) : shapeF t 116 = true ∧ onceB t = true := by unfold rightB at h; rwa [Bool.and_eq_true] at h
theorem rowB_of {t : Ty} (h : rowB t = true) : shapeF t 114 = true ∧ onceB t = true := by unfold rowB at h; rwa [Bool.and_eq_true] at h
theorem rightB_mk {t : Ty} (h : shapeF t 116 = true) (k : onceB t = true) : rightB t = true := by unfold rightB; rw [h, k]; rfl
theorem rowB_mk {t : Ty} (h : shapeF t 114 = true) (k : onceB t = true) : rowB t = true := by unfold rowB; rw [h, k]; rfl
theorem once_kid {t k : Ty} (h : onceB t = true) (hk : k ∈ t.kids) : onceB k = true := by
  rw [once_true] at h ⊢
  intro x hx y hy
  have hs : ∀ z ∈ partsL k, z ∈ partsL t := fun z hz => by
    rw [partsL_eq t]
    exact List.mem_cons_of_mem _ (List.mem_flatMap.2 ⟨k, hk, hz⟩)
  exact h x (hs x hx) y (hs y hy)
theorem right_op {t : Ty} (h : rightB t = true) : t.op < 8 := by
  obtain ⟨ks, _, _, _, _, h5⟩ := shape_pos (rightB_of h).1
  have : ¬ 8 ≤ t.op := by
    intro hc
    rw [decide_eq_true hc] at h5
    exact absurd h5 (by decide)
  omega
theorem row_op {t : Ty} (h : rowB t = true) : 8 ≤ t.op := by
  obtain ⟨ks, _, _, _, _, h5⟩ := shape_pos (rowB_of h).1
  by_cases hc : 8 ≤ t.op
  · exact hc
  · rw [decide_eq_false hc] at h5
    exact absurd h5 (by decide)
theorem right_n {t : Ty} (h : rightB t = true) (ho : t.op ≠ 7) : t.n = 0 := by
  obtain ⟨ks, _, _, _, h4, _⟩ := shape_pos (rightB_of h).1
  have := right_op h
  unfold headOk at h4
  simp only [Bool.and_eq_true, Bool.or_eq_true, decide_eq_true_eq] at h4
  omega
theorem kids_at {t : Ty} {c : UInt8} {ks : ByteArray} (h : shapeF t c = true) (hk : kidsOf t.op = some ks) : t.kids.length = ks.size ∧ ∀ (j : Nat) x d, t.kids[j]? = some x → ks.data[j]? = some d → shapeF x d = true := by
  obtain ⟨ks', h1, h2, h3, _⟩ := shape_pos h
  rw [hk] at h1
  cases h1
  exact ⟨h2, h3⟩
theorem fun_kids {t : Ty} (h : rightB t = true) (ho : t.op = 4) : ∃ k r, t.kids = [k, r] ∧ rightB k = true ∧ rightB r = true := by
  obtain ⟨h1, h2⟩ := kids_at (rightB_of h).1 (show kidsOf t.op = some ⟨#[116, 116]⟩ by rw [ho]; rfl)
  rcases e : t.kids with _ | ⟨k, _ | ⟨r, _ | ⟨x, l⟩⟩⟩ <;> rw [e] at h1 <;> simp [ByteArray.size] at h1
  have ho2 := (rightB_of h).2
  exact ⟨k, r, rfl, rightB_mk (h2 0 k 116 (by rw [e]; rfl) rfl) (once_kid ho2 (by rw [e]; simp)), rightB_mk (h2 1 r 116 (by rw [e]; rfl) rfl) (once_kid ho2 (by rw [e]; simp))⟩
theorem rec_kids {t : Ty} (h : rightB t = true) (ho : t.op = 5 ∨ t.op = 6) : ∃ k, t.kids = [k] ∧ rowB k = true := by
  obtain ⟨h1, h2⟩ := kids_at (rightB_of h).1 (show kidsOf t.op = some ⟨#[114]⟩ by rcases ho with ho | ho <;> rw [ho] <;> rfl)
  rcases e : t.kids with _ | ⟨k, _ | ⟨r, l⟩⟩ <;> rw [e] at h1 <;> simp [ByteArray.size] at h1
  exact ⟨k, rfl, rowB_mk (h2 0 k 114 (by rw [e]; rfl) rfl) (once_kid (rightB_of h).2 (by rw [e]; simp))⟩
theorem spine_right {t : Ty} : rowB t = true → (∀ f ∈ (spineF t).1, rightB f.ty = true) ∧ rowB (spineF t).2 = true ∧ (spineF t).2.op ≠ 11 := by
  induction t using Ty.ind with
  | h t ih =>
    intro h
    by_cases ho : t.op = 11
    · obtain ⟨k, r, e, h1, h2⟩ := shape_row (rowB_of h).1 ho
      rw [spine_yes ho e]
      have hon := (rowB_of h).2
      obtain ⟨i1, i2⟩ := ih r (by rw [e]; simp) (rowB_mk h2 (once_kid hon (by rw [e]; simp)))
      refine ⟨fun f hf => ?_, i2⟩
      rcases List.mem_cons.1 hf with rfl | hf
      · exact rightB_mk h1 (once_kid hon (by rw [e]; simp))
      · exact i1 f hf
    · rw [spine_no ho]
      exact ⟨fun f hf => (by cases hf), h, ho⟩
theorem flat_yes {t : Ty} (h : rowB t = true) : flatF t = (fieldsF (spineF t).1, (spineF t).2) := by rw [flatF, h]; rfl
theorem flt_right {t : Ty} (h : rowB t = true) {f : Fld} (hf : f ∈ (flatF t).1) : rightB f.ty = true := by
  rw [flat_yes h] at hf
  exact (spine_right h).1 f (fields_mem hf)
theorem flt_psz {t : Ty} {f : Fld} (hf : f ∈ (flatF t).1) : psz f.ty < psz t := by
  unfold flatF at hf
  cases h : rowB t
  · rw [h] at hf; cases hf
  · rw [h] at hf; exact fields_psz hf
theorem flt_tail {t : Ty} (h : rowB t = true) : (flatF t).2.op ≠ 3 := by
  rw [flat_yes h]
  have := row_op (spine_right h).2.1
  show (spineF t).2.op ≠ 3
  omega
theorem flt_srt (t : Ty) : Srt (flatF t).1 := by
  unfold flatF
  cases rowB t
  · exact List.Pairwise.nil
  · exact fieldsF_srt _
theorem flt_len (t : Ty) : (flatF t).1.length < psz t := by
  have := spine_len t
  have h0 := psz_pos t
  unfold flatF
  cases rowB t
  · simpa using h0
  · simpa [fieldsF_len] using this

/-! ## The relations -/
/-- By a ? alone. -/
def dynF (less : Bool) (a b : Ty) : Bool := (decide (b.op = 3) || decide (b.op = 9)) || (!less && (decide (a.op = 3) || decide (a.op = 9)))
/-- Fields of the first row, of the second one. -/
def okL (h : Ty → Ty → Bool) (l m : List Fld) (t : Ty) (i : Nat) : Bool := match l[i]? with
  | none => true
  | some f => bif decide (cntN (l.take i) f.name < cntN m f.name) then (match m[lessN m f.name + cntN (l.take i) f.name]? with
    | some g => h f.ty g.ty
    | none => false) else decide (t.op = 9)
def okM (less : Bool) (l m : List Fld) (s : Ty) (k : Nat) : Bool := match m[k]? with
  | none => true
  | some g => decide (cntN (m.take k) g.name < cntN l g.name) || (!less && decide (s.op = 9))
def tailF (less : Bool) (s t : Ty) : Bool := dynF less s t || (decide (s.op = t.op) && decide (s.n = t.n))
def rowsN (h : Ty → Ty → Bool) (less : Bool) (a b : Ty) : Bool :=
  (List.range (flatF a).1.length).all (okL h (flatF a).1 (flatF b).1 (flatF b).2) && ((List.range (flatF b).1.length).all (okM less (flatF a).1 (flatF b).1 (flatF a).2) && tailF less (flatF a).2 (flatF b).2)
def funP (h : Ty → Ty → Bool) : List Ty → List Ty → Bool
  | [k, r], [k2, r2] => h k k2 && h r r2
  | _, _ => false
def recP (less : Bool) (h : Ty → Ty → Bool) : List Ty → List Ty → Bool
  | [k], [k2] => rowsN h less k k2
  | _, _ => false
def holdsN : Nat → Bool → Ty → Ty → Bool
  | 0, _, _, _ => false
  | n + 1, less, a, b => dynF less a b || ((decide (a.op = b.op) && decide (a.n = b.n)) && (bif decide (a.op = 4) then funP (holdsN n less) a.kids b.kids
    else bif decide (a.op = 5) || decide (a.op = 6) then recP less (holdsN n less) a.kids b.kids else true))
def holdsF (less : Bool) (a b : Ty) : Bool := holdsN (psz a) less a b
def rowsF (less : Bool) (a b : Ty) : Bool := rowsN (holdsF less) less a b
theorem okL_congr {h k : Ty → Ty → Bool} {l m : List Fld} {t : Ty} (e : ∀ f ∈ l, ∀ y, h f.ty y = k f.ty y) (i : Nat) : okL h l m t i = okL k l m t i := by
  unfold okL
  cases hl : l[i]? with
  | none => rfl
  | some f =>
    simp only
    cases m[lessN m f.name + cntN (l.take i) f.name]? with
    | none => rfl
    | some g => simp only [e f (List.mem_of_getElem? hl) g.ty]
theorem rowsN_congr {h k : Ty → Ty → Bool} {less : Bool} {a b : Ty} (e : ∀ x, psz x < psz a → ∀ y, h x y = k x y) : rowsN h less a b = rowsN k less a b := by
  unfold rowsN
  rw [show okL h (flatF a).1 (flatF b).1 (flatF b).2 = okL k (flatF a).1 (flatF b).1 (flatF b).2 from funext fun i => okL_congr (fun f hf y => e f.ty (flt_psz hf) y) i]
theorem funP_congr {h k : Ty → Ty → Bool} {l : List Ty} (e : ∀ x ∈ l, ∀ y, h x y = k x y) (m : List Ty) : funP h l m = funP k l m := by
  rcases l with _ | ⟨x, _ | ⟨y, _ | ⟨z, l⟩⟩⟩ <;> rcases m with _ | ⟨x2, _ | ⟨y2, _ | ⟨z2, m⟩⟩⟩ <;> try rfl
  simp only [funP]
  rw [e x (by simp), e y (by simp)]
theorem recP_congr {less : Bool} {h k : Ty → Ty → Bool} {l : List Ty} (e : ∀ x ∈ l, ∀ z, psz z ≤ psz x → ∀ y, h z y = k z y) (m : List Ty) : recP less h l m = recP less k l m := by
  rcases l with _ | ⟨x, _ | ⟨y, l⟩⟩ <;> rcases m with _ | ⟨x2, _ | ⟨y2, m⟩⟩ <;> try rfl
  simp only [recP]
  exact rowsN_congr fun z hz y => e x (by simp) z (by omega) y
theorem holdsN_eq {less : Bool} : ∀ (n m : Nat) (a : Ty), psz a ≤ n → psz a ≤ m → ∀ b, holdsN n less a b = holdsN m less a b := by
  intro n
  induction n with
  | zero => intro m a h; have := psz_pos a; omega
  | succ n ih =>
    intro m a hn hm b
    cases m with
    | zero => have := psz_pos a; omega
    | succ m =>
      rw [holdsN, holdsN]
      rw [funP_congr (h := holdsN n less) (k := holdsN m less) (fun x hx y => by have := kid_psz hx; exact ih m x (by omega) (by omega) y),
        recP_congr (h := holdsN n less) (k := holdsN m less) (fun x hx z hz y => by have := kid_psz hx; exact ih m z (by omega) (by omega) y)]
theorem holdsF_eq (less : Bool) (a b : Ty) : holdsF less a b = (dynF less a b || ((decide (a.op = b.op) && decide (a.n = b.n)) && (bif decide (a.op = 4) then funP (holdsF less) a.kids b.kids
    else bif decide (a.op = 5) || decide (a.op = 6) then recP less (holdsF less) a.kids b.kids else true))) := by
  have hp := psz_pos a
  obtain ⟨n, hn⟩ : ∃ n, psz a = n + 1 := ⟨psz a - 1, by omega⟩
  show holdsN (psz a) less a b = _
  rw [hn, holdsN]
  rw [funP_congr (h := holdsN n less) (k := holdsF less) (fun x hx y => by have := kid_psz hx; exact holdsN_eq n (psz x) x (by omega) (by omega) y),
    recP_congr (h := holdsN n less) (k := holdsF less) (fun x hx z hz y => by have := kid_psz hx; exact holdsN_eq n (psz z) z (by omega) (by omega) y)]

/-! ## The scan -/
theorem srt_idx : ∀ {m : List Fld}, Srt m → ∀ {k : Nat} (h : k < m.length), k = lessN m m[k].name + cntN (m.take k) m[k].name
  | [], _, _, h => absurd h (Nat.not_lt_zero _)
  | x :: m, hs, 0, _ => by
    obtain ⟨h1, h2⟩ := List.pairwise_cons.1 hs
    have z : lessN (x :: m) x.name = 0 := lessN_zero fun f hf => by
      rcases List.mem_cons.1 hf with rfl | hf
      · rw [cmpN_eq.2 rfl]; simp
      · exact h1 f hf
    simp only [List.getElem_cons_zero, z]; rfl
  | x :: m, hs, k + 1, h => by
    obtain ⟨h1, h2⟩ := List.pairwise_cons.1 hs
    have hk : k < m.length := by simpa using h
    have ih := srt_idx h2 hk
    have e1 : lessN (x :: m) m[k].name = lessN [x] m[k].name + lessN m m[k].name := lessN_app [x] m _
    have e2 : cntN (x :: m.take k) m[k].name = cntN [x] m[k].name + cntN (m.take k) m[k].name := cntN_app [x] _ _
    have hx : leN x.name m[k].name := h1 _ (List.getElem_mem hk)
    simp only [List.getElem_cons_succ, List.take_succ_cons]
    rw [e1, e2]
    by_cases hn : x.name = m[k].name
    · rw [cntN_yes hn, lessN_no (fun hlt => lt_ne hlt hn)]; omega
    · have : cmpN x.name m[k].name < 0 := by
        have hne : cmpN x.name m[k].name ≠ 0 := fun e => hn (cmpN_eq.1 e)
        have h2 : ¬ cmpN m[k].name x.name < 0 := hx
        rw [cmpN_flip] at h2
        omega
      rw [cntN_no hn, lessN_yes this]; omega
/-- How far the scan has come. -/
structure MrgI (l m : List Fld) (i k : Nat) : Prop where
  fl : ∀ (p : Nat) (f : Fld), i ≤ p → l[p]? = some f → cntN (m.take k) f.name ≤ cntN (l.take i) f.name
  fm : ∀ (q : Nat) (g : Fld), k ≤ q → m[q]? = some g → cntN (l.take i) g.name ≤ cntN (m.take k) g.name
theorem MrgI.start (l m : List Fld) : MrgI l m 0 0 := ⟨fun _ _ _ _ => Nat.le_refl _, fun _ _ _ _ => Nat.le_refl _⟩
theorem MrgI.symm {l m : List Fld} {i k : Nat} (h : MrgI l m i k) : MrgI m l k i := ⟨h.fm, h.fl⟩
theorem cnt_rest {m : List Fld} {k : Nat} {s : ByteArray} (h : ∀ (q : Nat) (g : Fld), k ≤ q → m[q]? = some g → g.name ≠ s) : cntN m s = cntN (m.take k) s := by
  have e : cntN (m.take k ++ m.drop k) s = cntN (m.take k) s + cntN (m.drop k) s := cntN_app _ _ _
  rw [List.take_append_drop] at e
  rw [e, cntN_zero (l := m.drop k) fun f hf => ?_]; rfl
  obtain ⟨j, hj, rfl⟩ := List.getElem_of_mem hf
  rw [List.length_drop] at hj
  rw [List.getElem_drop]
  exact h (k + j) _ (by omega) (List.getElem?_eq_getElem (by omega))
theorem MrgI.stepL {l m : List Fld} {i k : Nat} (h : MrgI l m i k) (hm : Srt m) (hi : i < l.length) (hk : k = m.length ∨ ∃ hk : k < m.length, cmpN l[i].name m[k].name < 0) : MrgI l m (i + 1) k ∧ ¬ cntN (l.take i) l[i].name < cntN m l[i].name := by
  have hno : ∀ (q : Nat) (g : Fld), k ≤ q → m[q]? = some g → g.name ≠ l[i].name := fun q g hq hg e => by
    have hq2 := (List.getElem?_eq_some_iff.1 hg).1
    rcases hk with hk | ⟨hk, hlt⟩
    · omega
    · have hle : leN m[k].name g.name := by
        by_cases e2 : q = k
        · subst e2; rw [List.getElem?_eq_getElem hk] at hg; cases hg; exact leN_refl _
        · have := List.pairwise_iff_getElem.1 hm k q hk hq2 (by omega)
          rw [List.getElem?_eq_getElem hq2] at hg; cases hg; exact this
      rw [e] at hle
      exact hle hlt
  refine ⟨⟨fun p f hp hf => ?_, fun q g hq hg => ?_⟩, ?_⟩
  · have := h.fl p f (by omega) hf
    by_cases e : l[i].name = f.name
    · rw [cntN_takeY hi e]; omega
    · rw [cntN_takeN hi e]; exact this
  · have := h.fm q g hq hg
    rw [cntN_takeN hi (fun e => hno q g hq hg e.symm)]; exact this
  · have h1 := h.fl i l[i] (Nat.le_refl _) (List.getElem?_eq_getElem hi)
    rw [cnt_rest hno]; omega
theorem cnt_at {l : List Fld} {i : Nat} (hi : i < l.length) : cntN (l.take i) l[i].name < cntN l l[i].name := by
  have e : cntN (l.take (i + 1) ++ l.drop (i + 1)) l[i].name = cntN (l.take (i + 1)) l[i].name + cntN (l.drop (i + 1)) l[i].name := cntN_app _ _ _
  rw [List.take_append_drop, cntN_takeY hi rfl] at e
  omega
theorem MrgI.stepB {l m : List Fld} {i k : Nat} (h : MrgI l m i k) (hm : Srt m) (hi : i < l.length) (hk : k < m.length) (hn : l[i].name = m[k].name) : MrgI l m (i + 1) (k + 1) ∧ lessN m l[i].name + cntN (l.take i) l[i].name = k ∧ cntN (l.take i) l[i].name < cntN m l[i].name ∧ cntN (m.take k) m[k].name < cntN l m[k].name := by
  have h1 := h.fl i l[i] (Nat.le_refl _) (List.getElem?_eq_getElem hi)
  have h2 := h.fm k m[k] (Nat.le_refl _) (List.getElem?_eq_getElem hk)
  have h3 := srt_idx hm hk
  have h4 := cnt_at hi
  have h5 := cnt_at hk
  rw [← hn] at h2 h3 h5 ⊢
  refine ⟨⟨fun p f hp hf => ?_, fun q g hq hg => ?_⟩, by omega, by omega, by omega⟩
  · have := h.fl p f (by omega) hf
    by_cases e : l[i].name = f.name
    · rw [cntN_takeY hi e, cntN_takeY hk (hn ▸ e)]; omega
    · rw [cntN_takeN hi e, cntN_takeN hk (hn ▸ e)]; exact this
  · have := h.fm q g (by omega) hg
    by_cases e : l[i].name = g.name
    · rw [cntN_takeY hi e, cntN_takeY hk (hn ▸ e)]; omega
    · rw [cntN_takeN hi e, cntN_takeN hk (hn ▸ e)]; exact this
theorem names_eq {a b : ByteArray} (h : ¬ cmpN a b < 0) (k : ¬ cmpN b a < 0) : a = b := leN_antisymm (a := a) (b := b) k h
theorem okL_no {h : Ty → Ty → Bool} {l m : List Fld} {t : Ty} {i : Nat} (hi : i < l.length) (hc : ¬ cntN (l.take i) l[i].name < cntN m l[i].name) : okL h l m t i = decide (t.op = 9) := by
  unfold okL; rw [List.getElem?_eq_getElem hi]; simp only [decide_eq_false hc, cond_false]
theorem okL_yes {h : Ty → Ty → Bool} {l m : List Fld} {t : Ty} {i k : Nat} (hi : i < l.length) (hk : k < m.length) (hc : cntN (l.take i) l[i].name < cntN m l[i].name) (e : lessN m l[i].name + cntN (l.take i) l[i].name = k) : okL h l m t i = h l[i].ty m[k].ty := by
  unfold okL; rw [List.getElem?_eq_getElem hi]; simp only [decide_eq_true hc, cond_true, e, List.getElem?_eq_getElem hk]
theorem okM_no {less : Bool} {l m : List Fld} {s : Ty} {k : Nat} (hk : k < m.length) (hc : ¬ cntN (m.take k) m[k].name < cntN l m[k].name) : okM less l m s k = (!less && decide (s.op = 9)) := by
  unfold okM; rw [List.getElem?_eq_getElem hk]; simp only [decide_eq_false hc, Bool.false_or]
theorem okM_yes {less : Bool} {l m : List Fld} {s : Ty} {k : Nat} (hk : k < m.length) (hc : cntN (m.take k) m[k].name < cntN l m[k].name) : okM less l m s k = true := by
  unfold okM; rw [List.getElem?_eq_getElem hk]; simp only [decide_eq_true hc, Bool.true_or]
theorem all_no {n i : Nat} {p : Nat → Bool} (hi : i < n) (h : p i = false) : (List.range n).all p = false := by
  rw [List.all_eq_false]
  exact ⟨i, List.mem_range.2 hi, by rw [h]; simp⟩
theorem all_yes {n : Nat} {p : Nat → Bool} (h : ∀ i, i < n → p i = true) : (List.range n).all p = true := List.all_eq_true.2 fun i hi => h i (List.mem_range.1 hi)
theorem rows_noL {less : Bool} {a b : Ty} {l m : List Fld} {i : Nat} (el : (flatF a).1 = l) (em : (flatF b).1 = m) (hi : i < l.length) (h : okL (holdsF less) l m (flatF b).2 i = false) : rowsF less a b = false := by
  subst el; subst em
  unfold rowsF rowsN; rw [all_no hi h]; rfl
theorem rows_noM {less : Bool} {a b : Ty} {l m : List Fld} {k : Nat} (el : (flatF a).1 = l) (em : (flatF b).1 = m) (hk : k < m.length) (h : okM less l m (flatF a).2 k = false) : rowsF less a b = false := by
  subst el; subst em
  unfold rowsF rowsN; rw [all_no hk h]; simp
theorem rows_all {less : Bool} {a b : Ty} {l m : List Fld} (el : (flatF a).1 = l) (em : (flatF b).1 = m) (h : ∀ i, i < l.length → okL (holdsF less) l m (flatF b).2 i = true) (g : ∀ k, k < m.length → okM less l m (flatF a).2 k = true) : rowsF less a b = tailF less (flatF a).2 (flatF b).2 := by
  subst el; subst em
  unfold rowsF rowsN; rw [all_yes h, all_yes g]; rfl
theorem ok_step {p : Nat → Bool} {i : Nat} (h : ∀ j, j < i → p j = true) (hi : p i = true) : ∀ j, j < i + 1 → p j = true := fun j hj => by
  by_cases e : j = i
  · subst e; exact hi
  · exact h j (by omega)
/-- The n-th field of a name: its place, or -1. -/
def nthZ (l : List Fld) (s : ByteArray) (n : Nat) : Int := bif decide (n < cntN l s) then ((lessN l s + n : Nat) : Int) else -1
theorem nthZ_yes {l : List Fld} {s : ByteArray} {n : Nat} (h : n < cntN l s) : nthZ l s n = ((lessN l s + n : Nat) : Int) := by rw [nthZ, decide_eq_true h]; rfl
theorem nthZ_no {l : List Fld} {s : ByteArray} {n : Nat} (h : ¬ n < cntN l s) : nthZ l s n = -1 := by rw [nthZ, decide_eq_false h]; rfl
/-- Asked of types, or of rows. -/
def askedF (less : Bool) (a b : Ty) : Bool := bif rowB a && rowB b then rowsF less a b else (rightB a && rightB b) && holdsF less a b
theorem right_row {t : Ty} (h : rightB t = true) : rowB t = false := by
  cases hr : rowB t with
  | false => rfl
  | true => have := right_op h; have := row_op hr; omega
end Rw
