/- Plain laws on types: the program's right is the document's. No program in sight. -/
import Derived.Test.YtohfnpmehgpphaaPlainW
namespace Rw

def sortC (row : Bool) : UInt8 := if row then 114 else 116
def runM : List (Int × Bool) → St → Bool × St
  | [], s => (true, s)
  | p :: l, s => bif (meetS s p.1 p.2).1 then runM l (meetS s p.1 p.2).2 else (false, (meetS s p.1 p.2).2)
theorem runM_append : ∀ (a b : List (Int × Bool)) (s : St), runM (a ++ b) s = bif (runM a s).1 then runM b (runM a s).2 else runM a s
  | [], b, s => rfl
  | p :: a, b, s => by
    simp only [List.cons_append, runM]
    cases h : (meetS s p.1 p.2).1 with
    | true => simp only [cond_true]; exact runM_append a b _
    | false => rfl
/-- The variables, in order. -/
def varP (x : Ty) : List (Int × Bool) := bif numB x.op then [(x.n, decide (x.op = 10))] else []
def varsL (t : Ty) : List (Int × Bool) := (partsL t).flatMap varP
theorem varsL_eq (t : Ty) : varsL t = varP t ++ t.kids.flatMap varsL := by
  unfold varsL
  rw [partsL_eq, List.flatMap_cons, List.flatMap_assoc]
theorem kid_sort {op : Int} {ks : ByteArray} (h : kidsOf op = some ks) {j : Nat} {d : UInt8} (hd : ks.data[j]? = some d) : d = sortC (kidRow op j) := by
  unfold kidsOf at h
  split at h
  · cases h; simp at hd
  · split at h
    · rename_i h4
      cases h
      match j, hd with
      | 0, hd => simp at hd; subst hd; simp [kidRow, h4, sortC]
      | 1, hd => simp at hd; subst hd; simp [kidRow, h4, sortC]
      | j + 2, hd => simp at hd
    · split at h
      · rename_i h5
        cases h
        match j, hd with
        | 0, hd => simp at hd; subst hd; rcases h5 with h5 | h5 <;> simp [kidRow, h5, sortC]
        | j + 1, hd => simp at hd
      · split at h
        · rename_i h11
          cases h
          match j, hd with
          | 0, hd => simp at hd; subst hd; simp [kidRow, h11, sortC]
          | 1, hd => simp at hd; subst hd; simp [kidRow, h11, sortC]
          | j + 2, hd => simp at hd
        · cases h
theorem sortC_row (row : Bool) : decide (((sortC row).toNat : Int) = 114) = row := by cases row <;> rfl
theorem pre_of_shape {t : Ty} {row : Bool} (h : shapeF t (sortC row) = true) : preR t.op row t.kids.length t.name t.n = true ∧ ∃ ks, kidsOf t.op = some ks ∧ t.kids.length = ks.size ∧ all2 (t.kids.map shapeF) ks.data.toList = true := by
  cases hk : kidsOf t.op with
  | none => rw [shape_none hk] at h; cases h
  | some ks =>
    by_cases hl : t.kids.length = ks.size
    · rw [shape_some hk, sortC_row] at h
      rw [Bool.and_eq_true, Bool.and_eq_true] at h
      refine ⟨?_, ks, rfl, hl, h.2.2⟩
      rw [preR, hk]
      have h1 := h.1
      rw [beq_iff_eq] at h1
      simp [hl, h.2.1, h1]
    · rw [shape_len hk hl] at h; cases h
theorem all2_get : ∀ {fs : List (UInt8 → Bool)} {cs : List UInt8}, all2 fs cs = true → ∀ {j : Nat} {f : UInt8 → Bool} {c : UInt8}, fs[j]? = some f → cs[j]? = some c → f c = true := by
  intro fs cs h j f c hf hc
  cases hfc : f c with
  | true => rfl
  | false => rw [all2_false hf hc hfc] at h; cases h

/-- Of what has a right shape: its variables are met, one behind the other. -/
theorem right_shape : ∀ (t : Ty) (row : Bool) (s : St), shapeF t (sortC row) = true → rightF t row s = runM (varsL t) s := by
  refine Ty.ind fun t ih => ?_
  intro row s h
  obtain ⟨hpre, ks, hk, hl, hall⟩ := pre_of_shape h
  have kids : ∀ (l : List Ty) (i : Nat), (∀ x ∈ l, x ∈ t.kids) → (∀ (j : Nat) x, l[j]? = some x → shapeF x (sortC (kidRow t.op (i + j))) = true) → ∀ s, runR (l.map rightF) (kidRow t.op) i s = runM (l.flatMap varsL) s := by
    intro l
    induction l with
    | nil => intro i _ _ s; rfl
    | cons x l ihl =>
      intro i hm hs s
      have hx := ih x (hm x List.mem_cons_self) (kidRow t.op i) s (by simpa using hs 0 x rfl)
      rw [List.map_cons, runR, hx, List.flatMap_cons, runM_append]
      rw [ihl (i + 1) (fun y hy => hm y (List.mem_cons_of_mem _ hy)) (fun j y hy => by have := hs (j + 1) y (by simpa using hy); rwa [show i + 1 + j = i + (j + 1) by omega])]
      cases hb : (runM (varsL x) s).1 with
      | true => rfl
      | false => simp only [cond_false]; rw [← hb]
  have hks : ∀ s, runR (t.kids.map rightF) (kidRow t.op) 0 s = runM (t.kids.flatMap varsL) s := by
    refine kids t.kids 0 (fun x hx => hx) (fun j x hx => ?_)
    have hj : j < ks.data.size := by have := (List.getElem?_eq_some_iff.1 hx).1; rw [size_data]; omega
    have hd : ks.data[j]? = some ks.data[j] := Array.getElem?_eq_getElem hj
    have := all2_get hall (j := j) (f := shapeF x) (c := ks.data[j]) (by rw [List.getElem?_map, hx]; rfl) (by simp)
    rw [kid_sort hk hd] at this
    simpa using this
  rw [varsL_eq, runM_append]
  cases hn : numB t.op with
  | false =>
    rw [right_plain hpre hn, hks]
    simp [varP, hn, runM]
  | true =>
    have hrow : row = decide (t.op = 10) := by
      have h1 := hpre
      rw [preR, hk] at h1
      simp only [Bool.and_eq_true, beq_iff_eq] at h1
      rw [h1.1]
      simp only [numB, Bool.or_eq_true, decide_eq_true_eq] at hn
      rcases hn with hn | hn <;> simp [hn]
    cases hm : (meetS s t.n row).1 with
    | true =>
      rw [right_meet_yes hpre hn hm, hks]
      simp [varP, hn, runM, ← hrow, hm]
    | false =>
      rw [right_meet_no hpre hn hm]
      simp [varP, hn, runM, ← hrow, hm]

/-- What is right has a right shape. -/
theorem shape_right : ∀ (t : Ty) (row : Bool) (s : St), (rightF t row s).1 = true → shapeF t (sortC row) = true := by
  refine Ty.ind fun t ih => ?_
  intro row s h
  cases hpre : preR t.op row t.kids.length t.name t.n with
  | false => rw [right_pre_no hpre] at h; cases h
  | true =>
    have hrun : ∃ s', (runR (t.kids.map rightF) (kidRow t.op) 0 s').1 = true := by
      cases hn : numB t.op with
      | false => rw [right_plain hpre hn] at h; exact ⟨_, h⟩
      | true =>
        cases hm : (meetS s t.n row).1 with
        | true => rw [right_meet_yes hpre hn hm] at h; exact ⟨_, h⟩
        | false => rw [right_meet_no hpre hn hm] at h; cases h
    obtain ⟨s', hrun⟩ := hrun
    have kids : ∀ (l : List Ty) (i : Nat) (s : St), (∀ x ∈ l, x ∈ t.kids) → (runR (l.map rightF) (kidRow t.op) i s).1 = true → ∀ (j : Nat) x, l[j]? = some x → shapeF x (sortC (kidRow t.op (i + j))) = true := by
      intro l
      induction l with
      | nil => intro i s _ _ j x hx; simp at hx
      | cons y l ihl =>
        intro i s hm hr j x hx
        rw [List.map_cons, runR] at hr
        cases hy : (rightF y (kidRow t.op i) s).1 with
        | false => rw [hy] at hr; cases hr
        | true =>
          rw [hy] at hr
          cases j with
          | zero =>
            simp at hx; subst hx
            exact ih y (hm y List.mem_cons_self) _ _ hy
          | succ j =>
            have := ihl (i + 1) _ (fun z hz => hm z (List.mem_cons_of_mem _ hz)) hr j x (by simpa using hx)
            rwa [show i + (j + 1) = i + 1 + j by omega]
    have hsh := kids t.kids 0 s' (fun x hx => hx) hrun
    rw [preR] at hpre
    cases hk : kidsOf t.op with
    | none => rw [hk] at hpre; cases hpre
    | some ks =>
      rw [hk] at hpre
      simp only [Bool.and_eq_true, beq_iff_eq, decide_eq_true_eq] at hpre
      refine shape_yes hk hpre.2.1 ?_ hpre.2.2 (fun j x d hx hd => ?_)
      · rw [sortC_row, beq_iff_eq]; exact hpre.1.symm
      · rw [kid_sort hk hd]; simpa using hsh j x hx

theorem meet_true {s : St} {n : Int} {row : Bool} : (meetS s n row).1 = true ↔ ∀ b, getK s n = some b → b = row := by
  unfold meetS
  cases h : getK s n with
  | none => simp
  | some b => simp
theorem meet_st (s : St) (n : Int) (row : Bool) : (meetS s n row).2 = putK s n row := rfl
theorem runM_true : ∀ (vs : List (Int × Bool)) (s : St), (runM vs s).1 = true ↔ (∀ p ∈ vs, ∀ b, getK s p.1 = some b → b = p.2) ∧ ∀ p ∈ vs, ∀ q ∈ vs, p.1 = q.1 → p.2 = q.2
  | [], s => by simp [runM]
  | p :: l, s => by
    have ih := runM_true l (putK s p.1 p.2)
    rw [runM]
    cases hm : (meetS s p.1 p.2).1 with
    | false =>
      simp only [cond_false, Bool.false_eq_true, false_iff]
      rintro ⟨h1, _⟩
      have := meet_true.2 (h1 p List.mem_cons_self)
      rw [hm] at this; cases this
    | true =>
      have h0 := meet_true.1 hm
      simp only [cond_true, meet_st]
      rw [ih]
      constructor
      · rintro ⟨h1, h2⟩
        have key : ∀ q ∈ l, p.1 = q.1 → p.2 = q.2 := fun q hq e => h1 q hq p.2 (by rw [getK_put, if_pos e.symm])
        refine ⟨fun q hq b hb => ?_, fun q hq r hr e => ?_⟩
        · rcases List.mem_cons.1 hq with rfl | hq
          · exact h0 b hb
          · by_cases e : q.1 = p.1
            · rw [← key q hq e.symm]; exact h0 b (e ▸ hb)
            · exact h1 q hq b (by rw [getK_put, if_neg e]; exact hb)
        · rcases List.mem_cons.1 hq with hqp | hq'
          · subst hqp
            rcases List.mem_cons.1 hr with hrp | hr'
            · rw [hrp]
            · exact key r hr' e
          · rcases List.mem_cons.1 hr with hrp | hr'
            · subst hrp; exact (key q hq' e.symm).symm
            · exact h2 q hq' r hr' e
      · rintro ⟨h1, h2⟩
        refine ⟨fun q hq b hb => ?_, fun q hq r hr e => h2 q (List.mem_cons_of_mem _ hq) r (List.mem_cons_of_mem _ hr) e⟩
        rw [getK_put] at hb
        by_cases e : q.1 = p.1
        · rw [if_pos e] at hb
          cases hb
          exact h2 p List.mem_cons_self q (List.mem_cons_of_mem _ hq) e.symm
        · rw [if_neg e] at hb
          exact h1 q (List.mem_cons_of_mem _ hq) b hb
theorem mem_vars {t : Ty} {p : Int × Bool} : p ∈ varsL t ↔ ∃ x ∈ partsL t, numB x.op = true ∧ p = (x.n, decide (x.op = 10)) := by
  unfold varsL
  rw [List.mem_flatMap]
  constructor
  · rintro ⟨x, hx, hp⟩
    unfold varP at hp
    cases hn : numB x.op with
    | false => rw [hn] at hp; simp at hp
    | true => rw [hn] at hp; simp at hp; exact ⟨x, hx, hn, hp⟩
  · rintro ⟨x, hx, hn, rfl⟩
    exact ⟨x, hx, by simp [varP, hn]⟩
theorem once_true {t : Ty} : onceB t = true ↔ ∀ x ∈ partsL t, ∀ y ∈ partsL t, ¬ (x.op = 7 ∧ y.op = 10 ∧ x.n = y.n) := by
  unfold onceB
  rw [List.all_eq_true]
  constructor
  · intro h x hx y hy hc
    have h1 := h x hx
    rw [List.all_eq_true] at h1
    have h2 := h1 y hy
    simp [hc.1, hc.2.1, hc.2.2] at h2
  · intro h x hx
    rw [List.all_eq_true]
    intro y hy
    have := h x hx y hy
    rw [Bool.not_eq_true', Bool.eq_false_iff]
    intro h0
    simp only [Bool.and_eq_true, decide_eq_true_eq] at h0
    exact this h0
theorem vars_once {t : Ty} : (∀ p ∈ varsL t, ∀ q ∈ varsL t, p.1 = q.1 → p.2 = q.2) ↔ onceB t = true := by
  rw [once_true]
  constructor
  · intro h x hx y hy ⟨h7, h10, hn⟩
    have := h (x.n, decide (x.op = 10)) (mem_vars.2 ⟨x, hx, by simp [numB, h7], rfl⟩) (y.n, decide (y.op = 10)) (mem_vars.2 ⟨y, hy, by simp [numB, h10], rfl⟩) hn
    simp [h7, h10] at this
  · intro h p hp q hq e
    obtain ⟨x, hx, hnx, rfl⟩ := mem_vars.1 hp
    obtain ⟨y, hy, hny, rfl⟩ := mem_vars.1 hq
    simp only at e
    simp only [numB, Bool.or_eq_true, decide_eq_true_eq] at hnx hny
    rcases hnx with h1 | h1 <;> rcases hny with h2 | h2
    · simp [h1, h2]
    · exact absurd ⟨h1, h2, e⟩ (h x hx y hy)
    · exact absurd ⟨h2, h1, e.symm⟩ (h y hy x hx)
    · simp [h1, h2]
/-- The program's right is the document's. -/
theorem right_law (t : Ty) (row : Bool) : (rightF t row []).1 = (shapeF t (sortC row) && onceB t) := by
  rw [Bool.eq_iff_iff, Bool.and_eq_true]
  constructor
  · intro h
    have hs := shape_right t row [] h
    rw [right_shape t row [] hs, runM_true] at h
    exact ⟨hs, vars_once.1 h.2⟩
  · rintro ⟨hs, ho⟩
    rw [right_shape t row [] hs, runM_true]
    exact ⟨fun p _ b hb => by simp [getK] at hb, vars_once.2 ho⟩
theorem rightB_law (t : Ty) : (rightF t false []).1 = rightB t := right_law t false
theorem rowB_law (t : Ty) : (rightF t true []).1 = rowB t := right_law t true
end Rw
