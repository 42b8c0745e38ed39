/- Plain laws on rows: their fields, sorted, and their tail. No program in sight. -/
import Derived.Test.YtohfnpmehgpphaaPlainX
import Derived.Test.YtohfnpmehgpphaaPlainM
namespace Rw

/-- A row's fields, in their order, and its tail. -/
def spineF : Ty → List Fld × Ty
  | .mk op s n l => match l.map fun x => (x, spineF x) with
    | [k, r] => bif decide (op = 11) then (⟨s, k.1⟩ :: r.2.1, r.2.2) else ([], .mk op s n l)
    | _ => ([], .mk op s n l)
theorem spineF_eq (t : Ty) : spineF t = match t.kids.map fun x => (x, spineF x) with
    | [k, r] => bif decide (t.op = 11) then (⟨t.name, k.1⟩ :: r.2.1, r.2.2) else ([], t)
    | _ => ([], t) := by
  cases t; rw [spineF]; rfl
theorem spine_no {t : Ty} (h : t.op ≠ 11) : spineF t = ([], t) := by
  rw [spineF_eq, show decide (t.op = 11) = false from decide_eq_false h]
  split <;> rfl
theorem spine_yes {t k r : Ty} (h : t.op = 11) (hk : t.kids = [k, r]) : spineF t = (⟨t.name, k⟩ :: (spineF r).1, (spineF r).2) := by
  rw [spineF_eq, hk, h]; rfl
theorem shape_row {t : Ty} {c : UInt8} (h : shapeF t c = true) (ho : t.op = 11) : ∃ k r, t.kids = [k, r] ∧ shapeF k 116 = true ∧ shapeF r 114 = true := by
  have hk : kidsOf t.op = some ⟨#[116, 114]⟩ := by rw [ho]; rfl
  rw [shape_some hk] at h
  simp only [Bool.and_eq_true] at h
  have h2 := h.2.2
  rcases e : t.kids with _ | ⟨k, _ | ⟨r, _ | ⟨x, l⟩⟩⟩ <;> rw [e] at h2 <;> simp [all2] at h2
  exact ⟨k, r, rfl, h2.1, h2.2⟩
theorem shape_pos {t : Ty} {c : UInt8} (h : shapeF t c = true) : ∃ ks, kidsOf t.op = some ks ∧ t.kids.length = ks.size ∧ (∀ (j : Nat) x d, t.kids[j]? = some x → ks.data[j]? = some d → shapeF x d = true) ∧ headOk t.op t.name t.n = true ∧ (decide (8 ≤ t.op) == decide ((c.toNat : Int) = 114)) = true := by
  cases hk : kidsOf t.op with
  | none => rw [shape_none hk] at h; cases h
  | some ks =>
    have hl : t.kids.length = ks.size := by
      by_cases e : t.kids.length = ks.size
      · exact e
      · rw [shape_len hk e] at h; cases h
    refine ⟨ks, rfl, hl, fun j x d hx hd => ?_, ?_, ?_⟩
    · have hi := (List.getElem?_eq_some_iff.1 hx).1
      have hx2 : t.kids[j] = x := by rw [List.getElem?_eq_getElem hi] at hx; exact Option.some.inj hx
      cases e : shapeF x d with
      | true => rfl
      | false => rw [shape_kid hk hi hd (by rw [hx2]; exact e)] at h; cases h
    · rw [shape_some hk] at h
      simp only [Bool.and_eq_true] at h
      exact h.2.1
    · rw [shape_some hk] at h
      simp only [Bool.and_eq_true] at h
      exact h.1
theorem spine_len (t : Ty) : (spineF t).1.length < psz t := by
  induction t using Ty.ind with
  | h t ih =>
    rw [spineF_eq, psz_eq]
    split
    · rename_i k r e
      have e1 : t.kids = [k.1, r.1] := by
        have := congrArg (List.map Prod.fst) e
        simpa [List.map_map, Function.comp_def] using this
      have e2 : r.2 = spineF r.1 := by
        rw [e1] at e
        simp at e
        rw [← e.2]
      have := ih r.1 (by rw [e1]; simp)
      rw [e1, pszs_cons, pszs_cons, e2]
      cases decide (t.op = 11)
      · simp
      · simp only [cond_true, List.length_cons]; omega
    · simp

/-- Put behind those whose names aren't greater. -/
def insF (f : Fld) : List Fld → List Fld
  | [] => [f]
  | x :: r => if cmpN f.name x.name < 0 then f :: x :: r else x :: insF f r
/-- Fields put in order. -/
def fieldsF (l : List Fld) : List Fld := l.foldl (fun acc f => insF f acc) []
theorem insF_mem {f y : Fld} : ∀ {l : List Fld}, y ∈ insF f l → y = f ∨ y ∈ l
  | [], h => by simp [insF] at h; exact .inl h
  | x :: r, h => by
    unfold insF at h
    split at h
    · rcases List.mem_cons.1 h with e | e
      · exact .inl e
      · exact .inr e
    · rcases List.mem_cons.1 h with e | e
      · exact .inr (by rw [e]; exact List.mem_cons_self)
      · rcases insF_mem e with e | e
        · exact .inl e
        · exact .inr (List.mem_cons_of_mem _ e)
theorem insF_srt {f : Fld} : ∀ {l : List Fld}, Srt l → Srt (insF f l)
  | [], _ => by unfold insF Srt; simp
  | x :: r, h => by
    have h' := List.pairwise_cons.1 h
    unfold insF
    split
    · rename_i hlt
      refine List.pairwise_cons.2 ⟨fun y hy => ?_, h⟩
      rcases List.mem_cons.1 hy with e | e
      · rw [e]; exact leN_of_lt hlt
      · exact leN_trans (leN_of_lt hlt) (h'.1 y e)
    · rename_i hnl
      refine List.pairwise_cons.2 ⟨fun y hy => ?_, insF_srt h'.2⟩
      rcases insF_mem hy with e | e
      · rw [e]; exact leN_of_nlt hnl
      · exact h'.1 y e
theorem insF_st {f : Fld} : ∀ {l : List Fld}, Srt l → StP (l ++ [f]) (insF f l)
  | [], _ => StP.refl _
  | x :: r, h => by
    have h' := List.pairwise_cons.1 h
    unfold insF
    split
    · rename_i hlt
      refine StP.swap2 fun y hy z hz e => ?_
      obtain rfl : z = f := by simpa using hz
      have h1 : cmpN z.name y.name < 0 := by
        rcases List.mem_cons.1 hy with e | e
        · rw [e]; exact hlt
        · exact cmpN_lt_of_lt_le hlt (h'.1 y e)
      rw [e, show cmpN z.name z.name = 0 from cmpN_eq.2 rfl] at h1
      omega
    · exact (StP.refl [x]).app (insF_st h'.2)
theorem fieldsF_gen : ∀ (l acc : List Fld), Srt acc → Srt (l.foldl (fun acc f => insF f acc) acc) ∧ StP (acc ++ l) (l.foldl (fun acc f => insF f acc) acc)
  | [], acc, h => ⟨h, by simpa using StP.refl acc⟩
  | f :: l, acc, h => by
    obtain ⟨h1, h2⟩ := fieldsF_gen l (insF f acc) (insF_srt h)
    refine ⟨h1, ?_⟩
    have h3 : StP (acc ++ [f] ++ l) (insF f acc ++ l) := (insF_st h).app (StP.refl _)
    rw [List.append_assoc] at h3
    exact h3.trans h2
theorem fieldsF_srt (l : List Fld) : Srt (fieldsF l) := (fieldsF_gen l [] (by simp [Srt])).1
theorem fieldsF_st (l : List Fld) : StP l (fieldsF l) := (fieldsF_gen l [] (by simp [Srt])).2
theorem fieldsF_uniq {l k : List Fld} (h : Srt k) (g : StP l k) : k = fieldsF l := srt_uniq h (fieldsF_srt l) (g.symm.trans (fieldsF_st l))
theorem insF_len (f : Fld) : ∀ l : List Fld, (insF f l).length = l.length + 1
  | [] => rfl
  | x :: r => by
    unfold insF
    split
    · rfl
    · simp [insF_len f r]
theorem fieldsF_app (l : List Fld) (f : Fld) : fieldsF (l ++ [f]) = insF f (fieldsF l) := by unfold fieldsF; rw [List.foldl_append]; rfl
theorem fieldsF_len (l : List Fld) : (fieldsF l).length = l.length := by
  have : ∀ (l acc : List Fld), (l.foldl (fun acc f => insF f acc) acc).length = acc.length + l.length := by
    intro l
    induction l with
    | nil => intro acc; simp
    | cons f l ih => intro acc; rw [List.foldl_cons, ih, insF_len]; simp; omega
  have h := this l []
  rwa [List.length_nil, Nat.zero_add] at h

/-- Sorted fields and tail, by the program: of what is no row, none. -/
def flatF (t : Ty) : List Fld × Ty := bif rowB t then (fieldsF (spineF t).1, (spineF t).2) else ([], .mk 0 ⟨#[]⟩ 0 [])
def tyNone : Ty := .mk 8 ⟨#[]⟩ 0 []
def tyA : Ty := .mk 2 ⟨#[]⟩ 0 []
def tyB : Ty := .mk 1 ⟨#[]⟩ 0 []
def tyRow : Ty := .mk 11 ⟨#[98]⟩ 0 [tyB, .mk 11 ⟨#[97]⟩ 0 [tyA, tyNone]]
theorem psz_row : psz tyRow ≤ 2000000 := by simp [psz_eq, pszs_cons, pszs_nil, tyRow, tyA, tyB, tyNone, Ty.kids]
theorem rowB_row : rowB tyRow = true := by
  simp [rowB, onceB, partsL_eq, shapeF_eq, tyRow, tyA, tyB, tyNone, Ty.kids, Ty.op, Ty.name, Ty.n, kidsOf, headOk, all2]
  exact ⟨by decide, by decide⟩
theorem flat_row : flatF tyRow = ([⟨⟨#[97]⟩, tyA⟩, ⟨⟨#[98]⟩, tyB⟩], tyNone) := by
  have h : spineF tyRow = ([⟨⟨#[98]⟩, tyB⟩, ⟨⟨#[97]⟩, tyA⟩], tyNone) := by
    rw [spine_yes (k := tyB) (r := .mk 11 ⟨#[97]⟩ 0 [tyA, tyNone]) rfl rfl, spine_yes (k := tyA) (r := tyNone) rfl rfl, spine_no (by decide)]
    rfl
  rw [flatF, rowB_row, h]
  rfl

/-- The row that has these fields ahead of a tail. -/
def ofF (l : List Fld) (e : Ty) : Ty := l.foldr (fun f r => .mk 11 f.name 0 [f.ty, r]) e

theorem ofF_cons (f : Fld) (l : List Fld) (e : Ty) : ofF (f :: l) e = .mk 11 f.name 0 [f.ty, ofF l e] := rfl
theorem ofF_drop {l : List Fld} {j : Nat} (h : j < l.length) (e : Ty) : ofF (l.drop j) e = .mk 11 l[j].name 0 [l[j].ty, ofF (l.drop (j + 1)) e] := by
  rw [List.drop_eq_getElem_cons h]; rfl

theorem insF_skip {f : Fld} : ∀ {l r : List Fld}, (∀ x ∈ l, ¬ cmpN f.name x.name < 0) → insF f (l ++ r) = l ++ insF f r
  | [], _, _ => rfl
  | x :: l, r, h => by
    show insF f (x :: (l ++ r)) = x :: (l ++ insF f r)
    rw [insF, if_neg (h x List.mem_cons_self), insF_skip (fun y hy => h y (List.mem_cons_of_mem _ hy))]
theorem insF_past {f : Fld} : ∀ {l r : List Fld}, (∃ x ∈ l, cmpN f.name x.name < 0) → insF f (l ++ r) = insF f l ++ r
  | [], _, h => by obtain ⟨_, h, _⟩ := h; cases h
  | x :: l, r, h => by
    show insF f (x :: (l ++ r)) = insF f (x :: l) ++ r
    rw [insF, insF]
    split
    · rfl
    · rename_i hn
      rw [insF_past (by
        obtain ⟨y, hy, hlt⟩ := h
        rcases List.mem_cons.1 hy with e | e
        · rw [e] at hlt; exact absurd hlt hn
        · exact ⟨y, e, hlt⟩)]
      rfl
/-- Half-way through the row's insertion: its first i have been looked at. -/
structure InsP (f : Fld) (l : List Fld) (i : Nat) (b : Bool) (n : List Fld) : Prop where
  yes : b = true → n = insF f (l.take i) ∧ ∃ x ∈ l.take i, cmpN f.name x.name < 0
  no : b = false → n = l.take i ∧ ∀ x ∈ l.take i, ¬ cmpN f.name x.name < 0
theorem InsP.start (f : Fld) (l : List Fld) : InsP f l 0 false [] := ⟨fun h => (by cases h), fun _ => ⟨by simp, by simp⟩⟩
theorem take_snoc {l : List Fld} {i : Nat} (h : i < l.length) : l.take (i + 1) = l.take i ++ [l[i]] := List.take_succ_eq_append_getElem h
theorem InsP.here {f : Fld} {l n : List Fld} {i : Nat} (h : InsP f l i false n) (hi : i < l.length) (hlt : cmpN f.name l[i].name < 0) : InsP f l (i + 1) true (n ++ [f] ++ [l[i]]) := by
  obtain ⟨h1, h2⟩ := h.no rfl
  refine ⟨fun _ => ⟨?_, l[i], by rw [take_snoc hi]; exact List.mem_append_right _ (List.mem_singleton.2 rfl), hlt⟩, fun h => (by cases h)⟩
  rw [take_snoc hi, insF_skip h2, h1, insF, if_pos hlt]; simp
theorem InsP.past {f : Fld} {l n : List Fld} {i : Nat} (h : InsP f l i true n) (hi : i < l.length) : InsP f l (i + 1) true (n ++ [l[i]]) := by
  obtain ⟨h1, h2⟩ := h.yes rfl
  refine ⟨fun _ => ⟨?_, ?_⟩, fun h => (by cases h)⟩
  · rw [take_snoc hi, insF_past h2, h1]
  · obtain ⟨x, hx, hlt⟩ := h2
    exact ⟨x, by rw [take_snoc hi]; exact List.mem_append_left _ hx, hlt⟩
theorem InsP.skip {f : Fld} {l n : List Fld} {i : Nat} (h : InsP f l i false n) (hi : i < l.length) (hn : ¬ cmpN f.name l[i].name < 0) : InsP f l (i + 1) false (n ++ [l[i]]) := by
  obtain ⟨h1, h2⟩ := h.no rfl
  refine ⟨fun h => (by cases h), fun _ => ⟨by rw [take_snoc hi, h1], fun x hx => ?_⟩⟩
  rw [take_snoc hi] at hx
  rcases List.mem_append.1 hx with e | e
  · exact h2 x e
  · obtain rfl : x = l[i] := by simpa using e
    exact hn
theorem InsP.fin1 {f : Fld} {l n : List Fld} {i : Nat} (h : InsP f l i true n) (hi : l.length ≤ i) : n = insF f l := by
  rw [(h.yes rfl).1, List.take_of_length_le hi]
theorem InsP.fin0 {f : Fld} {l n : List Fld} {i : Nat} (h : InsP f l i false n) (hi : l.length ≤ i) : n ++ [f] = insF f l := by
  obtain ⟨h1, h2⟩ := h.no rfl
  rw [List.take_of_length_le hi] at h1 h2
  have := insF_skip (r := []) h2
  rw [List.append_nil] at this
  rw [h1, this]; rfl
theorem InsP.len {f : Fld} {l n : List Fld} {i : Nat} {b : Bool} (h : InsP f l i b n) : n.length ≤ i + 1 := by
  cases b with
  | true => rw [(h.yes rfl).1, insF_len, List.length_take]; omega
  | false => rw [(h.no rfl).1, List.length_take]; omega
theorem bytesLess_cmp : ∀ a b : List UInt8, Go.Op.bytesLess a b = decide (Go.Lib.compareBytes a b < 0)
  | [], [] => by simp [Go.Op.bytesLess, Go.Lib.compareBytes]
  | [], _ :: _ => by simp [Go.Op.bytesLess, Go.Lib.compareBytes]
  | _ :: _, [] => by simp [Go.Op.bytesLess, Go.Lib.compareBytes]
  | x :: a, y :: b => by
    have ih := bytesLess_cmp a b
    simp only [Go.Op.bytesLess, Go.Lib.compareBytes]
    by_cases h : x < y
    · simp [h]
    · by_cases h2 : y < x
      · have : x ≠ y := fun e => by subst e; exact h h2
        simp [h, h2, this]
      · have : x = y := UInt8.le_antisymm (UInt8.not_lt.1 h2) (UInt8.not_lt.1 h)
        subst this
        simp [ih]
theorem sLt_cmpN (a b : ByteArray) : sLt a b = decide (cmpN a b < 0) := bytesLess_cmp _ _
theorem flds_len {l k : List Fld} (h : l.length ≠ k.length) : l ≠ k := fun e => h (by rw [e])
theorem flds_take {l k : List Fld} {i : Nat} (hi : i < l.length) (hk : i < k.length) (h : l.take i = k.take i) (hn : l[i].name = k[i].name) (ht : l[i].ty = k[i].ty) : l.take (i + 1) = k.take (i + 1) := by
  rw [take_snoc hi, take_snoc hk, h]
  have : l[i] = k[i] := by
    cases hx : l[i]; cases hy : k[i]
    rw [hx, hy] at hn ht
    simp only at hn ht
    rw [hn, ht]
  rw [this]
theorem spine_fields (f : Fld) (d : List Fld) : fieldsF (d ++ [f]) = insF f (fieldsF d) := fieldsF_app d f
end Rw
