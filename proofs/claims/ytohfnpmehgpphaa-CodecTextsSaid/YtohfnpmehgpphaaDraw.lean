/- Rules for walking a Go function's code, part five: regions whose order is left open. No program in sight. -/
import Derived.Test.YtohfnpmehgpphaaMem
namespace Rw
open Go Go.RowKit

section
variable {P : Program} {ops : Array Oper} {Q : Exit → Act → World → Prop}

def closedL (ops : Array Oper) (listed : Array Bool) : Prop :=
  ∀ j o, ops[j]? = some o → listed.getD j false = true → ∀ e ∈ o.after, Region.binds .any e = true → listed.getD e.on false = true

def edgeTo (ops : Array Oper) (k : Nat) (D : List Nat) : Bool :=
  match ops[k]? with
  | some o => o.after.any fun e => Region.binds .any e && D.contains e.on
  | none => false

/-- What waits for number i, and what waits for that, and so on. -/
def descs (ops : Array Oper) (i : Nat) : List Nat :=
  (List.range ops.size).foldl (fun D k => if k == i || edgeTo ops k D then k :: D else D) []

theorem descs_spec (i : Nat) {listed : Array Bool} (hc : closedL ops listed) : ∀ k ∈ descs ops i, listed.getD k false = true → listed.getD i false = true := by
  have key : ∀ (l : List Nat) (D : List Nat), (∀ k ∈ D, listed.getD k false = true → listed.getD i false = true) →
      ∀ k ∈ l.foldl (fun D k => if k == i || edgeTo ops k D then k :: D else D) D, listed.getD k false = true → listed.getD i false = true := by
    intro l
    induction l with
    | nil => intro D h; simpa using h
    | cons x l ih =>
      intro D h
      simp only [List.foldl_cons]
      refine ih _ ?_
      split
      · rename_i hx
        intro k hk hl
        rcases List.mem_cons.1 hk with rfl | hk
        · simp only [Bool.or_eq_true, beq_iff_eq] at hx
          rcases hx with rfl | hx
          · exact hl
          · unfold edgeTo at hx
            split at hx
            · rename_i o ho
              simp only [Array.any_eq_true', Bool.and_eq_true, List.contains_iff_mem] at hx
              obtain ⟨e, he, hb, hm⟩ := hx
              exact h _ hm (hc _ o ho hl e he hb)
            · cases hx
        · exact h k hk hl
      · exact h
  exact key _ [] (by simp)

/-- All that has come up is waited for. -/
def bar (ops : Array Oper) (listed : Array Bool) (j : Nat) : Bool :=
  (List.range ops.size).all fun i => !listed.getD i false || edgeTo ops j (descs ops i)

def wpB (P : Program) (ops : Array Oper) (Q : Exit → Act → World → Prop) : (World → Prop) → Nat → Array Bool → Act → World → Prop
  | _, 0, listed, a, w => Region.ready .any ops listed = [] ∧ Q .normal a w
  | S, fuel + 1, listed, a, w =>
    (Region.ready .any ops listed = [] → Q .normal a w) ∧
    ∀ i ∈ Region.ready .any ops listed, wpOp P ops Q i (fun a' w' => ∃ S', ((S w' ∧ S' = S) ∨ bar ops listed i = true) ∧ wpB P ops Q S' fuel (listed.setIfInBounds i true) a' w') a w

variable {S : World → Prop}

theorem wpAny_of_B : ∀ (fuel : Nat) (S : World → Prop) (listed : Array Bool) (a : Act) (w : World), wpB P ops Q S fuel listed a w → wpAny P .any ops Q fuel listed a w
  | 0, _, _, _, _, h => h
  | fuel + 1, _, _, _, _, h => ⟨h.1, fun i hi => wpOp_mono (fun a' w' h' => let ⟨S', _, h2⟩ := h'; wpAny_of_B fuel S' _ a' w' h2) (h.2 i hi)⟩

theorem getD_set {listed : Array Bool} {i j : Nat} : (listed.setIfInBounds i true).getD j false = true ↔ ((i = j ∧ i < listed.size) ∨ listed.getD j false = true) := by
  by_cases h : i = j
  · subst h
    rcases Nat.lt_or_ge i listed.size with h' | h'
    · simp [h']
    · simp [Nat.not_lt.2 h']
  · rw [getD_set_ne false h]; simp [h]

theorem closedL_set {listed : Array Bool} {j : Nat} (hc : closedL ops listed) (hr : j ∈ Region.ready .any ops listed) : closedL ops (listed.setIfInBounds j true) := by
  intro k o ho hk e he hb
  rw [getD_set] at hk ⊢
  rcases hk with ⟨rfl, _⟩ | hk
  · obtain ⟨_, o', ho', hall⟩ := mem_ready.1 hr
    rw [ho] at ho'
    cases ho'
    exact .inr (hall e he hb)
  · exact .inr (hc k o ho hk e he hb)

theorem size_lt_of_ready {listed : Array Bool} {i : Nat} (h : i ∈ Region.ready .any ops listed) : i < listed.size := by
  have h0 := (mem_ready.1 h).1
  rcases Nat.lt_or_ge i listed.size with h' | h'
  · exact h'
  · simp [Array.getElem?_eq_none h'] at h0

/-- **An operation that may come up may be taken first**, if it yields its value in every world of S. -/
theorem wpB_first {i : Nat} {oi : Oper} {v : Value} (hi : ops[i]? = some oi) (hsel : ∀ (j : Nat) (o : Oper) cs b, ops[j]? = some o → o.op ≠ .select cs b)
    (hQ : ∀ c a w, Q (.panic c) (a.put oi.dst v) w → Q (.panic c) a w) :
    ∀ (fuel : Nat) (listed : Array Bool) (a : Act) (w : World),
      (∀ j oj, ops[j]? = some oj → j ≠ i → listed.getD j true = false → (∀ e ∈ oj.after, Region.binds .any e = true → e.on ≠ i) → oi.apart ops oj = true) →
      i ∈ Region.ready .any ops listed → closedL ops listed → YieldsIf P ops S oi v a → S w →
      wpB P ops Q S fuel (listed.setIfInBounds i true) (a.put oi.dst v) w → wpB P ops Q S (fuel + 1) listed a w := by
  intro fuel
  induction fuel with
  | zero =>
    intro listed a w _ hr _ hy hS H
    refine ⟨fun h => (by rw [h] at hr; cases hr), fun j hj => ?_⟩
    by_cases hji : j = i
    · subst hji; exact hy.wpOp hi hS ⟨S, .inl ⟨hS, rfl⟩, H⟩
    · have := ready_mono hj hji
      rw [H.1] at this
      cases this
  | succ fuel ih =>
    intro listed a w hfree hr hcl hy hS H
    refine ⟨fun h => (by rw [h] at hr; cases hr), fun j hj => ?_⟩
    by_cases hji : j = i
    · subst hji; exact hy.wpOp hi hS ⟨S, .inl ⟨hS, rfl⟩, H⟩
    · have h1 := H.2 j (ready_mono hj hji)
      obtain ⟨hjun, oj, hoj, hall⟩ := mem_ready.1 hj
      have hiun : ¬ listed.getD i false = true := by
        have h0 := (mem_ready.1 hr).1
        have hlt := size_lt_of_ready hr
        simp [hlt] at h0 ⊢
        exact h0
      have hnot : ∀ e ∈ oj.after, Region.binds .any e = true → e.on ≠ i := fun e he hb heq => hiun (heq ▸ hall e he hb)
      -- j isn't one that waits for i
      have hbar : ¬ bar ops (listed.setIfInBounds i true) j = true := by
        intro hb
        unfold bar at hb
        rw [List.all_eq_true] at hb
        have h2 := hb i (List.mem_range.2 (Array.getElem?_eq_some_iff.1 hi).1)
        have h3 : (listed.setIfInBounds i true).getD i false = true := getD_set.2 (.inl ⟨rfl, size_lt_of_ready hr⟩)
        rw [h3] at h2
        simp only [Bool.not_true, Bool.false_or] at h2
        unfold edgeTo at h2
        rw [hoj] at h2
        simp only [Array.any_eq_true', Bool.and_eq_true, List.contains_iff_mem] at h2
        obtain ⟨e, he, hbd, hm⟩ := h2
        exact hiun (descs_spec i hcl _ hm (hall e he hbd))
      have h2 := wpOp_putIf hoj (hfree j oj hoj hji hjun hnot) (fun cs b => hsel i oi cs b hi) (fun cs b => hsel j oj cs b hoj) hQ hy h1
      have hfree' : ∀ k ok, ops[k]? = some ok → k ≠ i → (listed.setIfInBounds j true).getD k true = false →
          (∀ e ∈ ok.after, Region.binds .any e = true → e.on ≠ i) → oi.apart ops ok = true := fun k ok hk hki hun hno => by
        refine hfree k ok hk hki ?_ hno
        by_cases hjk : j = k
        · subst hjk; exact hjun
        · rw [getD_set_ne true hjk] at hun; exact hun
      refine wpOp_mono (fun a' w' h3 => ?_) h2
      obtain ⟨h3a, S', h3b, h3c⟩ := h3
      obtain ⟨hS', rfl⟩ := h3b.resolve_right hbar
      refine ⟨_, .inl ⟨hS', rfl⟩, ih (listed.setIfInBounds j true) a' w' hfree' (ready_mono hr (Ne.symm hji)) (closedL_set hcl hj) h3a hS' ?_⟩
      rw [Array.setIfInBounds_comm _ _ hji]
      exact h3c
end

/-! ## By slots and values -/

def lst (n : Nat) (l : List Nat) : Array Bool := l.foldl (fun a i => a.setIfInBounds i true) (Array.replicate n false)
theorem lst_snoc (n : Nat) (l : List Nat) (i : Nat) : (lst n l).setIfInBounds i true = lst n (l ++ [i]) := by simp [lst]

def closedB (ops : Array Oper) (listed : Array Bool) : Bool :=
  (List.range ops.size).all fun j => !listed.getD j false || match ops[j]? with
    | some o => o.after.all fun e => !Region.binds .any e || listed.getD e.on false
    | none => true
theorem closedB_spec {ops : Array Oper} {listed : Array Bool} (h : closedB ops listed = true) : closedL ops listed := by
  intro j o ho hj e he hb
  unfold closedB at h
  rw [List.all_eq_true] at h
  have := h j (List.mem_range.2 (Array.getElem?_eq_some_iff.1 ho).1)
  simp only [hj, ho, Bool.not_true, Bool.false_or, Array.all_eq_true', Bool.or_eq_true, Bool.not_eq_true'] at this
  exact (this e he).resolve_left (by simp [hb])

/-- May number i be taken first? -/
def okTake (ops : Array Oper) (l : List Nat) (i : Nat) : Bool :=
  (Region.ready .any ops (lst ops.size l)).contains i && Region.free .any ops (lst ops.size l) i && closedB ops (lst ops.size l) && Region.noSelect ops
def okOne (ops : Array Oper) (l : List Nat) (i : Nat) : Bool := Region.ready .any ops (lst ops.size l) == [i]
def okBar (ops : Array Oper) (l : List Nat) (i : Nat) : Bool := bar ops (lst ops.size l) i
def okEnd (ops : Array Oper) (l : List Nat) : Bool := (Region.ready .any ops (lst ops.size l)).isEmpty

section
variable (P : Program) (n : Nat)
def WA (ops : Array Oper) (Q : Exit → Act → World → Prop) (S : World → Prop) (G : Env) (w : World) (fuel : Nat) (l : List Nat) : Prop :=
  ∀ a, Models n a G → wpB P ops Q S fuel (lst ops.size l) a w
end

section
variable {P : Program} {T : Tab} {n : Nat} {ops : Array Oper} {Q : Exit → Act → World → Prop} {S : World → Prop} {G : Env} {w : World} {l : List Nat} {fuel : Nat}

theorem a_beg {id : Nat} {ol : List Oper} (S : World → World → Prop) (hm : P.follows .mixedOrders = true) (h : ∀ w', Ext w w' → WA P n ol.toArray Q (S w') G w' ol.toArray.size []) : WC P n Q G w (.region id ol.toArray true) :=
  fun a ha => wp_region_any hm (wpAny_of_B _ (S w.drew) _ _ _ (by simpa [lst] using h w.drew (ext_drew w) a ha))

theorem a_end (hr : okEnd ops l = true) (h : WX n Q G w .normal) : WA P n ops Q S G w fuel l := by
  intro a ha
  have hr' : Region.ready .any ops (lst ops.size l) = [] := by simpa [okEnd] using hr
  cases fuel with
  | zero => exact ⟨hr', h a ha⟩
  | succ f => exact ⟨fun _ => h a ha, fun i hi => (by rw [hr'] at hi; cases hi)⟩

/-- Number i comes up, and no other one may. -/
theorem a_one {o : Oper} (i : Nat) (hi : ops[i]? = some o) (hr : okOne ops l i = true) (h : OW P n ops Q G w o (fun G' w' => S w' ∧ WA P n ops Q S G' w' fuel (l ++ [i]))) : WA P n ops Q S G w (fuel + 1) l := by
  intro a ha
  have hr' : Region.ready .any ops (lst ops.size l) = [i] := by simpa [okOne] using hr
  refine ⟨fun h0 => (by rw [hr'] at h0; cases h0), fun j hj => ?_⟩
  rw [hr'] at hj
  obtain rfl : j = i := by simpa using hj
  have := h a ha (fun a' w' => S w' ∧ wpB P ops Q S fuel (lst ops.size (l ++ [j])) a' w') (fun G' w' hk a' ha' => ⟨hk.1, hk.2 a' ha'⟩)
  unfold wpOp
  simp only [hi, lst_snoc]
  split
  · rename_i hw; rw [if_pos hw] at this; exact .inl (Oper.wp_mono (fun _ _ h => ⟨S, .inl ⟨h.1, rfl⟩, h.2⟩) this)
  · rename_i hw; rw [if_neg hw] at this; exact ⟨S, .inl ⟨this.1, rfl⟩, this.2⟩

/-- All others have come up, and it waits for them. -/
theorem a_bar {o : Oper} (i : Nat) (hi : ops[i]? = some o) (hr : okOne ops l i = true) (hb : okBar ops l i = true) (h : OW P n ops Q G w o (fun G' w' => WA P n ops Q S G' w' fuel (l ++ [i]))) : WA P n ops Q S G w (fuel + 1) l := by
  intro a ha
  have hr' : Region.ready .any ops (lst ops.size l) = [i] := by simpa [okOne] using hr
  refine ⟨fun h0 => (by rw [hr'] at h0; cases h0), fun j hj => ?_⟩
  rw [hr'] at hj
  obtain rfl : j = i := by simpa using hj
  have := h a ha (fun a' w' => wpB P ops Q S fuel (lst ops.size (l ++ [j])) a' w') (fun G' w' hk a' ha' => hk a' ha')
  unfold wpOp
  simp only [hi, lst_snoc]
  split
  · rename_i hw; rw [if_pos hw] at this; exact .inl (Oper.wp_mono (fun _ _ h => ⟨S, .inr hb, h⟩) this)
  · rename_i hw; rw [if_neg hw] at this; exact ⟨S, .inr hb, this⟩

/-- .. and what comes behind it begins anew. -/
theorem a_barS {o : Oper} (S' : World → World → Prop) (i : Nat) (hi : ops[i]? = some o) (hr : okOne ops l i = true) (hb : okBar ops l i = true) (h : OW P n ops Q G w o (fun G' w' => WA P n ops Q (S' w') G' w' fuel (l ++ [i]))) : WA P n ops Q S G w (fuel + 1) l := by
  intro a ha
  have hr' : Region.ready .any ops (lst ops.size l) = [i] := by simpa [okOne] using hr
  refine ⟨fun h0 => (by rw [hr'] at h0; cases h0), fun j hj => ?_⟩
  rw [hr'] at hj
  obtain rfl : j = i := by simpa using hj
  have := h a ha (fun a' w' => wpB P ops Q (S' w') fuel (lst ops.size (l ++ [j])) a' w') (fun G' w' hk a' ha' => hk a' ha')
  unfold wpOp
  simp only [hi, lst_snoc]
  split
  · rename_i hw; rw [if_pos hw] at this; exact .inl (Oper.wp_mono (fun _ w2 h => ⟨S' w2, .inr hb, h⟩) this)
  · rename_i hw; rw [if_neg hw] at this; exact ⟨S' _, .inr hb, this⟩

/-- Each that may come up does. -/
def AllA (P : Program) (n : Nat) (ops : Array Oper) (Q : Exit → Act → World → Prop) (S : World → Prop) (G : Env) (w : World) (fuel : Nat) (l : List Nat) : List Nat → Prop
  | [] => True
  | i :: r => (∃ o, ops[i]? = some o ∧ OW P n ops Q G w o (fun G' w' => S w' ∧ WA P n ops Q S G' w' fuel (l ++ [i]))) ∧ AllA P n ops Q S G w fuel l r
theorem a_all (rs : List Nat) (hr : (Region.ready .any ops (lst ops.size l) == rs) = true) (hne : rs.isEmpty = false) (h : AllA P n ops Q S G w fuel l rs) : WA P n ops Q S G w (fuel + 1) l := by
  intro a ha
  have hr' : Region.ready .any ops (lst ops.size l) = rs := by simpa using hr
  refine ⟨fun h0 => (by rw [hr'] at h0; rw [h0] at hne; cases hne), fun j hj => ?_⟩
  rw [hr'] at hj
  have : ∃ o, ops[j]? = some o ∧ OW P n ops Q G w o (fun G' w' => S w' ∧ WA P n ops Q S G' w' fuel (l ++ [j])) := by
    clear hr hr' hne
    induction rs with
    | nil => cases hj
    | cons x r ih =>
      rcases List.mem_cons.1 hj with rfl | hj
      · exact h.1
      · exact ih h.2 hj
  obtain ⟨o, hi, h⟩ := this
  have := h a ha (fun a' w' => S w' ∧ wpB P ops Q S fuel (lst ops.size (l ++ [j])) a' w') (fun G' w' hk a' ha' => ⟨hk.1, hk.2 a' ha'⟩)
  unfold wpOp
  simp only [hi, lst_snoc]
  split
  · rename_i hw; rw [if_pos hw] at this; exact .inl (Oper.wp_mono (fun _ _ h => ⟨S, .inl ⟨h.1, rfl⟩, h.2⟩) this)
  · rename_i hw; rw [if_neg hw] at this; exact ⟨S, .inl ⟨this.1, rfl⟩, this.2⟩
theorem all_cons {i : Nat} {r : List Nat} {o : Oper} (hi : ops[i]? = some o) (h : OW P n ops Q G w o (fun G' w' => S w' ∧ WA P n ops Q S G' w' fuel (l ++ [i]))) (hr : AllA P n ops Q S G w fuel l r) : AllA P n ops Q S G w fuel l (i :: r) := ⟨⟨o, hi, h⟩, hr⟩
theorem all_nil : AllA P n ops Q S G w fuel l [] := trivial

theorem a_take {o : Oper} {d : Nat} {v : Value} (i : Nat) (hi : ops[i]? = some o) (hd : o.dst = some d) (hdn : Nat.blt d n = true) (hr : okTake ops l i = true)
    (hQ : ∀ c a w, Q (.panic c) (a.put (some d) v) w → Q (.panic c) a w) (hy : ∀ a, Models n a G → YieldsIf P ops S o v a) (hS : S w) (h : WA P n ops Q S ((d, v) :: G) w fuel (l ++ [i])) : WA P n ops Q S G w (fuel + 1) l := by
  intro a ha
  simp only [okTake, Bool.and_eq_true, List.contains_iff_mem] at hr
  obtain ⟨⟨⟨h1, h2⟩, h3⟩, h4⟩ := hr
  refine wpB_first hi (Region.noSelect_spec h4) (by rw [hd]; exact hQ) fuel _ a w (Region.free_spec hi h2) h1 (closedB_spec h3) (hy a ha) hS ?_
  rw [lst_snoc, hd]
  exact h _ (ha.put hdn v)

/-- Split on a slot's truth. -/
theorem a_split (t : Nat) (b : Bool) (hc : Env.get G t = some (.bool b)) (ht : b = true → WA P n ops Q S ((t, .bool true) :: G) w fuel l) (hf : b = false → WA P n ops Q S ((t, .bool false) :: G) w fuel l) : WA P n ops Q S G w fuel l := by
  intro a ha
  cases hb : b with
  | true => exact ht hb a (ha.write (hb ▸ hc))
  | false => exact hf hb a (ha.write (hb ▸ hc))
theorem a_splitP (t : Nat) (p : Prop) [Decidable p] (hc : Env.get G t = some (.bool (decide p))) (ht : p → WA P n ops Q S ((t, .bool true) :: G) w fuel l) (hf : ¬ p → WA P n ops Q S ((t, .bool false) :: G) w fuel l) : WA P n ops Q S G w fuel l :=
  a_split t _ hc (fun h => ht (of_decide_eq_true h)) (fun h => hf (of_decide_eq_false h))
theorem a_splitN (t : Nat) (p : Prop) [Decidable p] (hc : Env.get G t = some (.bool (!decide p))) (ht : ¬ p → WA P n ops Q S ((t, .bool true) :: G) w fuel l) (hf : p → WA P n ops Q S ((t, .bool false) :: G) w fuel l) : WA P n ops Q S G w fuel l :=
  a_split t _ hc (fun h => ht (by simpa using h)) (fun h => hf (by simpa using h))
theorem a_splitB (t : Nat) (b : Bool) (hc : Env.get G t = some (.bool (!b))) (ht : b = false → WA P n ops Q S ((t, .bool true) :: G) w fuel l) (hf : b = true → WA P n ops Q S ((t, .bool false) :: G) w fuel l) : WA P n ops Q S G w fuel l :=
  a_split t _ hc (fun h => ht (by simpa using h)) (fun h => hf (by simpa using h))

/-- A value computed from values, first. -/
theorem a_p {op : Op} {d ty : Nat} {pos : String} {af : Array Edge} {g : Option (Nat × Bool)} {v : Value} (i : Nat) (hT : TabOk P T) (hi : ops[i]? = some ⟨some d, op, ty, pos, af, g⟩) (hv : pureS T G op = some v) (hg : gd ops G ⟨some d, op, ty, pos, af, g⟩ = some true)
    (hdn : Nat.blt d n = true) (hr : okTake ops l i = true) (hQ : ∀ c a w, Q (.panic c) (a.put (some d) v) w → Q (.panic c) a w) (hS : S w) (h : WA P n ops Q S ((d, v) :: G) w fuel (l ++ [i])) : WA P n ops Q S G w (fuel + 1) l :=
  a_take i hi rfl hdn hr hQ (fun _ ha => .inl ⟨wanted_of_gd ha hg, fun w' _ => pureS_run hT ha hv w'⟩) hS h

/-- One that isn't wanted, first. -/
theorem a_skip {op : Op} {d ty : Nat} {pos : String} {af : Array Edge} {g : Option (Nat × Bool)} (i : Nat) (hi : ops[i]? = some ⟨some d, op, ty, pos, af, g⟩) (hg : gd ops G ⟨some d, op, ty, pos, af, g⟩ = some false)
    (hdn : Nat.blt d n = true) (hr : okTake ops l i = true) (hQ : ∀ c a w, Q (.panic c) (a.put (some d) undef) w → Q (.panic c) a w) (hS : S w) (h : WA P n ops Q S ((d, undef) :: G) w fuel (l ++ [i])) : WA P n ops Q S G w (fuel + 1) l :=
  a_take i hi rfl hdn hr hQ (fun _ ha => .inr ⟨wanted_of_gd ha hg, rfl⟩) hS h

/-- Any operation that yields its value in every world of S, by its rule. -/
theorem a_q {o : Oper} {d : Nat} {v : Value} (i : Nat) (hi : ops[i]? = some o) (hd : o.dst = some d) (hg : gd ops G o = some true) (hdn : Nat.blt d n = true) (hr : okTake ops l i = true)
    (hQ : ∀ c a w, Q (.panic c) (a.put (some d) v) w → Q (.panic c) a w) (hy : ∀ a, Models n a G → ∀ w, S w → (execOp a.eval o).run P w = .ok (.value v) w) (hS : S w) (h : WA P n ops Q S ((d, v) :: G) w fuel (l ++ [i])) : WA P n ops Q S G w (fuel + 1) l :=
  a_take i hi hd hdn hr hQ (fun a ha => .inl ⟨wanted_of_gd ha hg, hy a ha⟩) hS h

theorem run_ld {t : TypeId} {x : Operand} {v : Value} {b o : Nat} {ti : TI} {d : Option Nat} {ty : Nat} {pos : String} {af : Array Edge} {g : Option (Nat × Bool)} (hT : TabOk P T) (hc : w.cell? ⟨b, o, none⟩ = some v) (hx : Env.ev G x = some (.pointer (some ⟨b, o, none⟩))) (ht : T.get t = some ti) (hta : ti.d.agg = false)
    {a : Act} (ha : Models n a G) : (execOp a.eval ⟨d, .load t x, ty, pos, af, g⟩).run P w = .ok (.value v) w := by
  simp [execOp, ha.ev hx, Instr.loadAt, Instr.sureAddr, loadVar, run_isAgg hT ht, hta, hc]
theorem run_lds {t : TypeId} {x : Operand} {cs : List Value} {b o : Nat} {ti : TI} {d : Option Nat} {ty : Nat} {pos : String} {af : Array Edge} {g : Option (Nat × Bool)} (hT : TabOk P T) (hc : ∀ j v, cs[j]? = some v → w.cell? ⟨b, o + j, none⟩ = some v) (hx : Env.ev G x = some (.pointer (some ⟨b, o, none⟩))) (ht : T.get t = some ti) (hta : ti.d.agg = true)
    (hl : cs.length = ti.size) {a : Act} (ha : Models n a G) : (execOp a.eval ⟨d, .load t x, ty, pos, af, g⟩).run P w = .ok (.value (.agg cs.toArray)) w := by
  have hlc : (loadCells ⟨b, o, none⟩ ti.size).run P w = .ok cs.toArray w := by
    rw [← hl]
    exact run_loadCells_list (P := P) w ⟨b, o, none⟩ cs (fun j v hv => by rw [addr_add]; exact hc j v hv)
  simp [execOp, ha.ev hx, Instr.loadAt, Instr.sureAddr, loadVar, run_isAgg hT ht, hta, run_sizeOf hT ht, hlc]

/-- A load of one cell, first. -/
theorem a_ld {t : TypeId} {x : Operand} {v : Value} {b o : Nat} {ti : TI} {d ty : Nat} {pos : String} {af : Array Edge} {g : Option (Nat × Bool)} (i : Nat) (hT : TabOk P T) (hc : ∀ w, S w → w.cell? ⟨b, o, none⟩ = some v) (hi : ops[i]? = some ⟨some d, .load t x, ty, pos, af, g⟩) (hx : Env.ev G x = some (.pointer (some ⟨b, o, none⟩))) (ht : T.get t = some ti) (hta : ti.d.agg = false)
    (hg : gd ops G ⟨some d, .load t x, ty, pos, af, g⟩ = some true) (hdn : Nat.blt d n = true) (hr : okTake ops l i = true) (hQ : ∀ c a w, Q (.panic c) (a.put (some d) v) w → Q (.panic c) a w) (hS : S w)
    (h : WA P n ops Q S ((d, v) :: G) w fuel (l ++ [i])) : WA P n ops Q S G w (fuel + 1) l :=
  a_q i hi rfl hg hdn hr hQ (fun _ ha _ hs => run_ld hT (hc _ hs) hx ht hta ha) hS h
theorem a_lds {t : TypeId} {x : Operand} {cs : List Value} {b o : Nat} {ti : TI} {d ty : Nat} {pos : String} {af : Array Edge} {g : Option (Nat × Bool)} (i : Nat) (hT : TabOk P T) (hc : ∀ w, S w → ∀ j v, cs[j]? = some v → w.cell? ⟨b, o + j, none⟩ = some v) (hi : ops[i]? = some ⟨some d, .load t x, ty, pos, af, g⟩) (hx : Env.ev G x = some (.pointer (some ⟨b, o, none⟩))) (ht : T.get t = some ti) (hta : ti.d.agg = true) (hl : cs.length = ti.size)
    (hg : gd ops G ⟨some d, .load t x, ty, pos, af, g⟩ = some true) (hdn : Nat.blt d n = true) (hr : okTake ops l i = true) (hQ : ∀ c a w, Q (.panic c) (a.put (some d) (.agg cs.toArray)) w → Q (.panic c) a w) (hS : S w)
    (h : WA P n ops Q S ((d, .agg cs.toArray) :: G) w fuel (l ++ [i])) : WA P n ops Q S G w (fuel + 1) l :=
  a_q i hi rfl hg hdn hr hQ (fun _ ha _ hs => run_lds hT (hc _ hs) hx ht hta hl ha) hS h

/-- A length, first. -/
theorem a_len {α : Type} [Rep α] {M : Nat → Prop} {w0 : World} {v : Value} {k : List α} {t : TypeId} {x : Operand} {ti : TI} {e : Nat} {d ty : Nat} {pos : String} {af : Array Edge} {g : Option (Nat × Bool)} (i : Nat) (hT : TabOk P T) (hs : Sl M w0 v k) (hi : ops[i]? = some ⟨some d, .call ⟨.builtin .len, #[x], #[t]⟩, ty, pos, af, g⟩) (hx : Env.ev G x = some v) (ht : T.get t = some ti) (htd : ti.d = .sl e)
    (hg : gd ops G ⟨some d, .call ⟨.builtin .len, #[x], #[t]⟩, ty, pos, af, g⟩ = some true) (hdn : Nat.blt d n = true) (hr : okTake ops l i = true) (hQ : ∀ c a w, Q (.panic c) (a.put (some d) (.int .i64 (k.length : Int))) w → Q (.panic c) a w) (hS : S w)
    (h : WA P n ops Q S ((d, .int .i64 (k.length : Int)) :: G) w fuel (l ++ [i])) : WA P n ops Q S G w (fuel + 1) l := by
  obtain ⟨a, c, rfl, _⟩ := hs
  obtain ⟨td, _, _, _⟩ := ti
  simp only at htd
  subst htd
  exact a_p i hT hi (by simp [pureS, hx, ht]) hg hdn hr hQ hS h

/-- An element's address, first. -/
theorem a_ixS {α : Type} [Rep α] {M : Nat → Prop} {w0 : World} {v : Value} {k : List α} {t : TypeId} {x ix : Operand} {kd : IntKind} {z : Int} {j : Nat} {y : α} {ti te : TI} {e : Nat} {d ty : Nat} {pos : String} {af : Array Edge} {g : Option (Nat × Bool)} (i : Nat) (hT : TabOk P T) (hs : Sl M w0 v k) (hy : k[j]? = some y) (hi : ops[i]? = some ⟨some d, .indexAddr t x ix, ty, pos, af, g⟩)
    (hx : Env.ev G x = some v) (hix : Env.ev G ix = some (.int kd z)) (hj : z = (j : Int)) (ht : T.get t = some ti) (htd : ti.d = .sl e) (hte : T.get e = some te) (hsz : te.size = Rep.sz α)
    (hg : gd ops G ⟨some d, .indexAddr t x ix, ty, pos, af, g⟩ = some true) (hdn : Nat.blt d n = true) (hr : okTake ops l i = true) (hQ : ∀ v c a w, Q (.panic c) (a.put (some d) v) w → Q (.panic c) a w) (hS : S w)
    (h : ∀ b o u, Rep.R M w0 u y → At M w0 b o u.cells.toList → WA P n ops Q S ((d, .pointer (some ⟨b, o, none⟩)) :: G) w fuel (l ++ [i])) : WA P n ops Q S G w (fuel + 1) l := by
  obtain ⟨a, c, rfl, _, _, he⟩ := hs
  have hlt : j < k.length := (List.getElem?_eq_some_iff.1 hy).1
  rcases he with he | ⟨b, off, ha, hel⟩
  · subst he; simp at hlt
  · subst ha
    obtain ⟨u, h1, h2⟩ := hel j y hy
    have hd := (hT t _ ht).d
    rw [htd] at hd
    simp only [TD.Ok] at hd
    subst hj
    have hb : (0 : Int) ≤ (j : Int) ∧ (j : Int) < (k.length : Int) := by omega
    refine a_q (v := .pointer (some ⟨b, off + j * te.size, none⟩)) i hi rfl hg hdn hr (hQ _) (fun a' ha' w' _ => ?_) hS (h b _ u h1 (by rw [hsz]; exact h2))
    simp [execOp, ha'.ev hx, ha'.ev hix, Instr.indexAt, asIntOf, run_underlying hd, hb, run_sizeOf hT hte, addr_add]
    intro hge
    omega
/-- A string's byte, first. -/
theorem a_si {t : TypeId} {x ix : Operand} {s : ByteArray} {k : IntKind} {z : Int} {j : Nat} {c : UInt8} {ti : TI} {d ty : Nat} {pos : String} {af : Array Edge} {g : Option (Nat × Bool)} (i : Nat) (hT : TabOk P T) (hc : s.data[j]? = some c) (hi : ops[i]? = some ⟨some d, .index t x ix, ty, pos, af, g⟩)
    (hx : Env.ev G x = some (.string s)) (hix : Env.ev G ix = some (.int k z)) (hj : z = (j : Int)) (ht : T.get t = some ti) (htd : ti.d = .str)
    (hg : gd ops G ⟨some d, .index t x ix, ty, pos, af, g⟩ = some true) (hdn : Nat.blt d n = true) (hr : okTake ops l i = true) (hQ : ∀ c' a w, Q (.panic c') (a.put (some d) (.int .u8 c.toNat)) w → Q (.panic c') a w) (hS : S w)
    (h : WA P n ops Q S ((d, .int .u8 c.toNat) :: G) w fuel (l ++ [i])) : WA P n ops Q S G w (fuel + 1) l := by
  refine a_q (v := .int .u8 c.toNat) i hi rfl hg hdn hr hQ (fun a ha w' _ => ?_) hS h
  exact run_si hT ha hx hix ht htd hj hc w'
end
end Rw
