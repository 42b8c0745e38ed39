/- Plain laws on variables of types, and on numbering them anew. No program in sight. -/
import Derived.Test.YtohfnpmehgpphaaPlainC
import Derived.Test.YtohfnpmehgpphaaPlainA
import Derived.Test.YtohfnpmehgpphaaPlainD
import Derived.Test.YtohfnpmehgpphaaMap
namespace Rw

/-! ## Canonical forms are their own canonical forms -/

theorem spine_of {e : Ty} (he : e.op ≠ 11) : ∀ l : List Fld, spineF (ofF l e) = (l, e)
  | [] => by show spineF e = _; exact spine_no he
  | f :: l => by
    rw [ofF_cons, spine_yes rfl rfl, spine_of he l]
    rfl
theorem tail_op {t : Ty} : ∀ {c : UInt8}, shapeF t c = true → (spineF t).2.op ≠ 11 := by
  induction t using Ty.ind with
  | h t ih =>
    intro c hs
    by_cases ho : t.op = 11
    · obtain ⟨k, r, hk, h1, h2⟩ := shape_row hs ho
      rw [spine_yes ho hk]
      exact ih r (by rw [hk]; simp) h2
    · rw [spine_no ho]; exact ho
theorem spine_ne {t : Ty} {c : UInt8} (hs : shapeF t c = true) (ho : t.op = 11) : (spineF t).1 ≠ [] := by
  obtain ⟨k, r, hk, _, _⟩ := shape_row hs ho
  rw [spine_yes ho hk]; simp
theorem fieldsF_self {l : List Fld} (h : Srt l) : fieldsF l = l := (fieldsF_uniq h (StP.refl l)).symm
theorem srt_map {l : List Fld} (h : Srt l) : Srt (l.map canonFld) := by
  unfold Srt at h ⊢
  rw [List.pairwise_map]
  exact h
theorem canon_idem : ∀ (n : Nat) (t : Ty) (c : UInt8), psz t ≤ n → shapeF t c = true → canonF (canonF t) = canonF t
  | 0, t, _, h, _ => by have := psz_pos t; omega
  | n + 1, t, c, h, hs => by
    by_cases ho : t.op = 11
    · rw [canon_row ho]
      have he := tail_op hs
      have hs2 := shape_114 hs ho
      have hne : (fieldsF (spineF t).1).map canonFld ≠ [] := by
        intro e
        have := fieldsF_len (spineF t).1
        rw [List.map_eq_nil_iff] at e
        rw [e] at this
        exact spine_ne hs ho (List.eq_nil_of_length_eq_zero this.symm)
      have hop : (ofF ((fieldsF (spineF t).1).map canonFld) (spineF t).2).op = 11 := by
        cases e : (fieldsF (spineF t).1).map canonFld with
        | nil => exact absurd e hne
        | cons f l => rw [ofF_cons]; rfl
      rw [canon_row hop, spine_of he, fieldsF_self (srt_map (fieldsF_srt _)), List.map_map]
      congr 1
      refine List.map_congr_left fun f hf => ?_
      have h1 := fields_psz hf
      have h2 := spine_shape t hs2 f (fields_mem hf)
      show canonFld (canonFld f) = canonFld f
      unfold canonFld
      simp only
      rw [canon_idem n f.ty 116 (by omega) h2]
    · rw [canon_other ho, canon_other (show (Ty.mk t.op t.name t.n (t.kids.map canonF)).op ≠ 11 from ho)]
      show Ty.mk t.op t.name t.n ((t.kids.map canonF).map canonF) = _
      rw [List.map_map]
      congr 1
      refine List.map_congr_left fun x hx => ?_
      obtain ⟨i, hi, rfl⟩ := List.getElem_of_mem hx
      obtain ⟨d, hd⟩ := kid_shape hs hi
      have := psz_take hi
      exact canon_idem n _ d (by omega) hd

/-! ## Variables -/

def addV (l : List Int) (n : Int) : List Int := if n ∈ l then l else l ++ [n]
def varsTo (l : List Int) (ps : List Ty) : List Int := ps.foldl (fun l x => bif numB x.op then addV l x.n else l) l
/-- The variables of a type, by its canonical form. -/
def varsF (t : Ty) : List Int := varsTo [] (partsL (canonF t))
theorem varsTo_snoc (l : List Int) (ps : List Ty) (x : Ty) : varsTo l (ps ++ [x]) = bif numB x.op then addV (varsTo l ps) x.n else varsTo l ps := by simp [varsTo]
theorem varsTo_yes {l : List Int} {ps : List Ty} {x : Ty} (h : numB x.op = true) (hn : x.n ∉ varsTo l ps) : varsTo l (ps ++ [x]) = varsTo l ps ++ [x.n] := by rw [varsTo_snoc, h]; simp [addV, hn]
theorem varsTo_old {l : List Int} {ps : List Ty} {x : Ty} (hn : x.n ∈ varsTo l ps) : varsTo l (ps ++ [x]) = varsTo l ps := by
  rw [varsTo_snoc]
  cases numB x.op with
  | true => simp [addV, hn]
  | false => rfl
theorem varsTo_no {l : List Int} {ps : List Ty} {x : Ty} (h : numB x.op = false) : varsTo l (ps ++ [x]) = varsTo l ps := by rw [varsTo_snoc, h]; rfl
theorem addV_len (l : List Int) (n : Int) : (addV l n).length ≤ l.length + 1 := by unfold addV; split <;> simp
theorem varsTo_len (l : List Int) : ∀ ps : List Ty, (varsTo l ps).length ≤ l.length + ps.length := by
  intro ps
  induction ps generalizing l with
  | nil => simp [varsTo]
  | cons x r ih =>
    have h := ih (bif numB x.op then addV l x.n else l)
    have h2 : (bif numB x.op then addV l x.n else l).length ≤ l.length + 1 := by
      cases numB x.op with
      | true => exact addV_len l x.n
      | false => simp
    simp only [varsTo, List.foldl_cons, List.length_cons] at h ⊢
    omega
theorem addV_nodup {l : List Int} {n : Int} (h : l.Nodup) : (addV l n).Nodup := by
  unfold addV
  split
  · exact h
  · rename_i hn
    rw [List.nodup_append]
    exact ⟨h, by simp, fun x hx y hy => by simp at hy; subst hy; exact fun e => hn (e ▸ hx)⟩
theorem varsTo_nodup {l : List Int} (h : l.Nodup) : ∀ ps : List Ty, (varsTo l ps).Nodup := by
  intro ps
  induction ps generalizing l with
  | nil => exact h
  | cons x r ih =>
    show (varsTo (bif numB x.op then addV l x.n else l) r).Nodup
    refine ih ?_
    cases numB x.op with
    | true => exact addV_nodup h
    | false => exact h
theorem mem_addV {l : List Int} {n x : Int} : x ∈ addV l n ↔ x ∈ l ∨ x = n := by
  unfold addV
  split
  · rename_i h
    exact ⟨.inl, fun h' => h'.elim id (fun e => e ▸ h)⟩
  · simp
theorem mem_varsTo {l : List Int} {n : Int} : ∀ {ps : List Ty}, n ∈ varsTo l ps ↔ n ∈ l ∨ ∃ x ∈ ps, numB x.op = true ∧ x.n = n := by
  intro ps
  induction ps generalizing l with
  | nil => simp [varsTo]
  | cons x r ih =>
    show n ∈ varsTo (bif numB x.op then addV l x.n else l) r ↔ _
    rw [ih]
    cases hx : numB x.op with
    | true =>
      simp only [cond_true, mem_addV, List.mem_cons]
      constructor
      · rintro ((h | h) | ⟨y, hy, h1, h2⟩)
        · exact .inl h
        · exact .inr ⟨x, .inl rfl, hx, h.symm⟩
        · exact .inr ⟨y, .inr hy, h1, h2⟩
      · rintro (h | ⟨y, rfl | hy, h1, h2⟩)
        · exact .inl (.inl h)
        · exact .inl (.inr h2.symm)
        · exact .inr ⟨y, hy, h1, h2⟩
    | false =>
      simp only [cond_false, List.mem_cons]
      constructor
      · rintro (h | ⟨y, hy, h1, h2⟩)
        · exact .inl h
        · exact .inr ⟨y, .inr hy, h1, h2⟩
      · rintro (h | ⟨y, rfl | hy, h1, h2⟩)
        · exact .inl h
        · rw [hx] at h1; cases h1
        · exact .inr ⟨y, hy, h1, h2⟩

/-! ## Numbers anew -/

def renF (g : Int → Int) : Ty → Ty
  | .mk o s m l => .mk o s (bif numB o then g m else m) (l.map (renF g))
theorem renF_eq (g : Int → Int) (t : Ty) : renF g t = .mk t.op t.name (bif numB t.op then g t.n else t.n) (t.kids.map (renF g)) := by
  cases t; rw [renF]; rfl
theorem renF_congr {g h : Int → Int} (t : Ty) : (∀ x ∈ partsL t, numB x.op = true → g x.n = h x.n) → renF g t = renF h t := by
  induction t using Ty.ind with
  | h t ih =>
    intro e
    rw [renF_eq, renF_eq]
    have h1 : (bif numB t.op then g t.n else t.n) = bif numB t.op then h t.n else t.n := by
      cases hx : numB t.op with
      | true => exact e t (by rw [partsL_eq]; exact List.mem_cons_self) hx
      | false => rfl
    have h2 : t.kids.map (renF g) = t.kids.map (renF h) := List.map_congr_left fun x hx => ih x hx fun y hy hn => e y (by rw [partsL_eq]; exact List.mem_cons_of_mem _ (List.mem_flatMap.2 ⟨x, hx, hy⟩)) hn
    rw [h1, h2]
theorem psz_ren (g : Int → Int) (t : Ty) : psz (renF g t) = psz t := by
  induction t using Ty.ind with
  | h t ih =>
    rw [renF_eq, psz_eq, psz_eq t]
    congr 1
    exact pszs_map fun x hx => ih x hx
/-- A table: the numbers' places. -/
def tabV : List Int → List (Int × Int)
  | l => (l.zipIdx).foldl (fun m p => putK m p.1 (p.2 : Int)) []
def tabTo (l : List Int) (i : Nat) : List (Int × Int) := ((l.take i).zipIdx).foldl (fun m p => putK m p.1 (p.2 : Int)) []
theorem tabTo_zero (l : List Int) : tabTo l 0 = [] := by simp [tabTo]
theorem tabTo_succ {l : List Int} {i : Nat} (hi : i < l.length) : tabTo l (i + 1) = putK (tabTo l i) l[i] (i : Int) := by
  unfold tabTo
  rw [List.take_succ_eq_append_getElem hi, List.zipIdx_append, List.foldl_append]
  simp only [List.zipIdx_cons, List.zipIdx_nil, List.foldl_cons, List.foldl_nil, Nat.zero_add]
  rw [List.length_take, Nat.min_eq_left (by omega)]
theorem tabTo_get {l : List Int} (hl : l.Nodup) : ∀ (i : Nat), i ≤ l.length → ∀ (j : Nat) (hj : j < l.length), getK (tabTo l i) l[j] = if j < i then some (j : Int) else none
  | 0, _, j, hj => by simp [tabTo, getK]
  | i + 1, hi, j, hj => by
    rw [tabTo_succ (by omega), getK_put, tabTo_get hl i (by omega) j hj]
    by_cases e : j = i
    · subst e; simp
    · have hne : l[j] ≠ l[i] := fun h => e ((List.getElem_inj hl).1 h)
      rw [if_neg hne]
      by_cases h : j < i
      · rw [if_pos h, if_pos (by omega)]
      · rw [if_neg h, if_neg (by omega)]
theorem tab_at {l : List Int} (hl : l.Nodup) {n : Int} (hn : n ∈ l) : (getK (tabTo l l.length) n).getD 0 = atOf l n := by
  obtain ⟨j, hj, rfl⟩ := List.getElem_of_mem hn
  rw [tabTo_get hl _ (Nat.le_refl _) j hj, if_pos hj]
  refine (atOf_found hj rfl fun k hk h => ?_).symm
  rw [List.getElem?_eq_getElem (by omega)] at h
  have := (List.getElem_inj hl).1 (Option.some.inj h)
  omega
/-- The document's number of a type. -/
def numberF (t : Ty) : Ty := renF (atOf (varsF t)) (canonF t)
theorem number_tab (t : Ty) : renF (fun n => (getK (tabTo (varsF t) (varsF t).length) n).getD 0) (canonF t) = numberF t :=
  renF_congr _ fun x hx hn => tab_at (varsTo_nodup (by simp) _) (mem_varsTo.2 (.inr ⟨x, hx, hn, rfl⟩))
theorem vars_canon {t : Ty} {c : UInt8} (h : shapeF t c = true) : varsF (canonF t) = varsF t := by unfold varsF; rw [canon_idem _ t c (Nat.le_refl _) h]

theorem tab_i64 {l : List Int} : ∀ (i : Nat), i ≤ l.length → i < 140737488355328 → ∀ n, -9223372036854775808 ≤ (getK (tabTo l i) n).getD 0 ∧ (getK (tabTo l i) n).getD 0 ≤ 9223372036854775807
  | 0, _, _, n => by simp [tabTo, getK]
  | i + 1, h, hs, n => by
    rw [tabTo_succ (by omega), getK_put]
    split
    · simp only [Option.getD_some]; omega
    · exact tab_i64 i (by omega) (by omega) n
theorem atOf_i64 {l : List Int} (h : l.length < 140737488355328) (n : Int) : -9223372036854775808 ≤ atOf l n ∧ atOf l n ≤ 9223372036854775807 := by
  unfold atOf
  cases e : l.findIdx? (fun x => decide (x = n)) with
  | none => simp
  | some i =>
    rw [List.findIdx?_eq_some_iff_getElem] at e
    obtain ⟨hi, _⟩ := e
    simp only; omega

/-! ## A canonical form is of the same sort -/

theorem shape_leaf11 {name : ByteArray} {k r : Ty} (hn : isWordB name = true) (hk : shapeF k 116 = true) (hr : shapeF r 114 = true) : shapeF (.mk 11 name 0 [k, r]) 114 = true := by
  refine shape_yes (t := .mk 11 name 0 [k, r]) (ks := ⟨#[116, 114]⟩) rfl rfl rfl (by simp [headOk, Ty.op, Ty.name, Ty.n, hn]) fun j x d hx hd => ?_
  simp only [Ty.kids] at hx
  rcases j with _ | _ | j
  · simp at hx hd; subst hx; subst hd; exact hk
  · simp at hx hd; subst hx; subst hd; exact hr
  · simp at hx
theorem shape_ofF {e : Ty} (he : shapeF e 114 = true) : ∀ l : List Fld, (∀ f ∈ l, isWordB f.name = true ∧ shapeF f.ty 116 = true) → shapeF (ofF l e) 114 = true
  | [], _ => he
  | f :: l, h => by
    rw [ofF_cons]
    have h1 := h f List.mem_cons_self
    exact shape_leaf11 h1.1 h1.2 (shape_ofF he l fun g hg => h g (List.mem_cons_of_mem _ hg))
theorem spine_words {t : Ty} : shapeF t 114 = true → (∀ f ∈ (spineF t).1, isWordB f.name = true ∧ shapeF f.ty 116 = true) ∧ shapeF (spineF t).2 114 = true := by
  induction t using Ty.ind with
  | h t ih =>
    intro hs
    by_cases ho : t.op = 11
    · obtain ⟨k, r, hk, h1, h2⟩ := shape_row hs ho
      rw [spine_yes ho hk]
      obtain ⟨h3, h4⟩ := ih r (by rw [hk]; simp) h2
      refine ⟨fun f hf => ?_, h4⟩
      rcases List.mem_cons.1 hf with rfl | hf
      · obtain ⟨_, _, _, _, hh, _⟩ := shape_pos hs
        refine ⟨?_, h1⟩
        unfold headOk at hh
        rw [ho] at hh
        simp at hh
        exact hh.1
      · exact h3 f hf
    · rw [spine_no ho]
      exact ⟨fun f hf => (by cases hf), hs⟩
theorem shape_canon : ∀ (n : Nat) (t : Ty) (c : UInt8), psz t ≤ n → shapeF t c = true → shapeF (canonF t) c = true
  | 0, t, _, h, _ => by have := psz_pos t; omega
  | n + 1, t, c, h, hs => by
    by_cases ho : t.op = 11
    · have hs2 := shape_114 hs ho
      have hc : c = 114 := by
        obtain ⟨_, _, _, _, _, h5⟩ := shape_pos hs
        rw [ho] at h5
        have hc : (c.toNat : Int) = 114 := by simpa using h5
        exact UInt8.toNat_inj.1 (by show c.toNat = 114; omega)
      subst hc
      rw [canon_row ho]
      obtain ⟨h1, h2⟩ := spine_words hs2
      refine shape_ofF h2 _ fun f hf => ?_
      obtain ⟨g, hg, rfl⟩ := List.mem_map.1 hf
      obtain ⟨h3, h4⟩ := h1 g (fields_mem hg)
      have := fields_psz hg
      exact ⟨h3, shape_canon n g.ty 116 (by omega) h4⟩
    · rw [canon_other ho]
      obtain ⟨ks, hk, hl, hall, hh, h5⟩ := shape_pos hs
      refine shape_yes (t := .mk t.op t.name t.n (t.kids.map canonF)) hk (by simpa [Ty.kids] using hl) h5 hh fun j x d hx hd => ?_
      replace hx : (t.kids.map canonF)[j]? = some x := hx
      rw [List.getElem?_map] at hx
      cases e : t.kids[j]? with
      | none => rw [e] at hx; simp at hx
      | some y =>
        rw [e] at hx
        simp at hx
        subst hx
        have hj := (List.getElem?_eq_some_iff.1 e).1
        have h6 := psz_take hj
        rw [List.getElem?_eq_getElem hj] at e
        rw [Option.some.inj e] at h6
        exact shape_canon n y d (by omega) (hall j y d (by rw [List.getElem?_eq_getElem hj, e]) hd)

/-! ## Without ? -/

def statB (x : Ty) : Bool := !decide (x.op = 3) && !decide (x.op = 9)
def staticF (t : Ty) : Bool := (partsL t).all statB
end Rw
