/- Plain laws on a row put for a row's variable. No program in sight. -/
import Derived.Test.YtohfnpmehgpphaaPlainP
import Derived.Test.YtohfnpmehgpphaaPlainQ
namespace Rw
open Go

/-- A row put for the rows' variables of a number. -/
def putF (n : Int) (e : Ty) : Ty → Ty
  | .mk op s m l => if op = 10 ∧ m = n then e else if op = 7 ∨ op = 10 then .mk op s m l else .mk op s m (l.map (putF n e))
theorem putF_eq (n : Int) (e t : Ty) : putF n e t = if t.op = 10 ∧ t.n = n then e else if t.op = 7 ∨ t.op = 10 then t else .mk t.op t.name t.n (t.kids.map (putF n e)) := by
  cases t; rw [putF]; rfl
theorem put_hit {n : Int} {e t : Ty} (h : t.op = 10) (k : t.n = n) : putF n e t = e := by rw [putF_eq, if_pos ⟨h, k⟩]
theorem put_var {n : Int} {e t : Ty} (h : ¬ (t.op = 10 ∧ t.n = n)) (k : t.op = 7 ∨ t.op = 10) : putF n e t = t := by rw [putF_eq, if_neg h, if_pos k]
theorem put_other {n : Int} {e t : Ty} (k : ¬ (t.op = 7 ∨ t.op = 10)) : putF n e t = .mk t.op t.name t.n (t.kids.map (putF n e)) := by rw [putF_eq, if_neg (fun h => k (.inr h.1)), if_neg k]
theorem shape_c {t : Ty} {c : UInt8} (h : shapeF t c = true) (ho : 8 ≤ t.op) : c = 114 := by
  obtain ⟨_, _, _, _, _, h5⟩ := shape_pos h
  rw [decide_eq_true ho] at h5
  have hc : (c.toNat : Int) = 114 := by simpa using h5
  exact UInt8.toNat_inj.1 (by
    show c.toNat = 114
    omega)
theorem shape_put {n : Int} {e : Ty} (he : shapeF e 114 = true) : ∀ (t : Ty) (c : UInt8), shapeF t c = true → shapeF (putF n e t) c = true := by
  refine Ty.ind fun t ih => ?_
  intro c h
  by_cases h1 : t.op = 10 ∧ t.n = n
  · rw [put_hit h1.1 h1.2, shape_c h (by omega)]; exact he
  · by_cases h2 : t.op = 7 ∨ t.op = 10
    · rw [put_var h1 h2]; exact h
    · rw [put_other h2]
      obtain ⟨ks, hk, hl, hkids, hh, hs⟩ := shape_pos h
      refine shape_yes (t := .mk t.op t.name t.n (t.kids.map (putF n e))) hk (by simpa [Ty.kids] using hl) hs hh (fun j x d hx hd => ?_)
      replace hx : (t.kids.map (putF n e))[j]? = some x := hx
      rw [List.getElem?_map] at hx
      cases hy : t.kids[j]? with
      | none => rw [hy] at hx; cases hx
      | some y =>
        rw [hy] at hx
        cases hx
        exact ih y (List.mem_of_getElem? hy) d (hkids j y d hy hd)
theorem pszs_map_le {g : Ty → Ty} {m : Nat} : ∀ {l : List Ty}, (∀ x ∈ l, psz (g x) ≤ psz x * m) → pszs (l.map g) ≤ pszs l * m
  | [], _ => by simp [pszs_nil]
  | x :: l, h => by
    rw [List.map_cons, pszs_cons, pszs_cons, Nat.add_mul]
    exact Nat.add_le_add (h x List.mem_cons_self) (pszs_map_le fun y hy => h y (List.mem_cons_of_mem _ hy))
theorem psz_put {n : Int} {e : Ty} : ∀ (t : Ty), psz (putF n e t) ≤ psz t * psz e := by
  have hp := psz_pos e
  refine Ty.ind fun t ih => ?_
  by_cases h1 : t.op = 10 ∧ t.n = n
  · rw [put_hit h1.1 h1.2]; exact Nat.le_mul_of_pos_left _ (psz_pos t)
  · by_cases h2 : t.op = 7 ∨ t.op = 10
    · rw [put_var h1 h2]; exact Nat.le_mul_of_pos_right _ hp
    · rw [put_other h2, psz_eq, psz_eq t, Nat.add_mul]
      have := pszs_map_le (g := putF n e) (m := psz e) (l := t.kids) ih
      simp only [Ty.kids] at this ⊢
      omega
/-- Does a tail stand for it? -/
def hitB (n : Int) (s : Ty) : Bool := decide (s.op = 10) && decide (s.n = n)
theorem tail_kids {t : Ty} (h : shapeF t 114 = true) (ho : t.op ≠ 11) : t.kids = [] := by
  obtain ⟨ks, hk, hl, _, _, h5⟩ := shape_pos h
  have h8 : 8 ≤ t.op := by
    by_cases hc : 8 ≤ t.op
    · exact hc
    · rw [decide_eq_false hc] at h5; exact absurd h5 (by decide)
  have : ks = ⟨#[]⟩ := by
    unfold kidsOf at hk
    split at hk
    · cases hk; rfl
    · split at hk
      · omega
      · split at hk
        · omega
        · first
            | (cases hk; done)
            | (split at hk <;> first | omega | cases hk)
  rw [this] at hl
  exact List.eq_nil_of_length_eq_zero hl
theorem spine_put {n : Int} {e : Ty} : ∀ (t : Ty), shapeF t 114 = true → (spineF (putF n e t)).1.map Fld.name = (spineF t).1.map Fld.name ++ (bif hitB n (spineF t).2 then (spineF e).1.map Fld.name else []) ∧ (spineF (putF n e t)).2 = bif hitB n (spineF t).2 then (spineF e).2 else (spineF t).2 := by
  refine Ty.ind fun t ih => ?_
  intro h
  by_cases ho : t.op = 11
  · obtain ⟨k, r, hk, _, hr⟩ := shape_row h ho
    have e1 : putF n e t = .mk 11 t.name t.n [putF n e k, putF n e r] := by rw [put_other (by omega), hk, ho]; rfl
    rw [e1, spine_yes (k := putF n e k) (r := putF n e r) rfl rfl, spine_yes ho hk]
    obtain ⟨i1, i2⟩ := ih r (by rw [hk]; simp) hr
    exact ⟨by simp only [List.map_cons, List.cons_append, i1]; rfl, i2⟩
  · rw [spine_no ho]
    have hkn := tail_kids h ho
    simp only [List.map_nil, List.nil_append]
    by_cases h1 : t.op = 10 ∧ t.n = n
    · rw [put_hit h1.1 h1.2, hitB, decide_eq_true h1.1, decide_eq_true h1.2]; exact ⟨rfl, rfl⟩
    · have hb : hitB n t = false := by
        unfold hitB
        by_cases h2 : t.op = 10
        · rw [decide_eq_false (p := t.n = n) (fun h3 => h1 ⟨h2, h3⟩)]; simp
        · rw [decide_eq_false h2]; rfl
      have e1 : putF n e t = t := by
        by_cases h2 : t.op = 7 ∨ t.op = 10
        · exact put_var h1 h2
        · rw [put_other h2, hkn]
          conv => rhs; rw [ty_eta t, hkn]
          rfl
      rw [e1, spine_no ho, hb]; exact ⟨rfl, rfl⟩
theorem spine_of {e : Ty} (he : e.op ≠ 11) : ∀ l : List Fld, spineF (ofF l e) = (l, e)
  | [] => spine_no he
  | f :: l => by rw [ofF_cons, spine_yes (k := f.ty) (r := ofF l e) rfl rfl, spine_of he l]; rfl
theorem spine_canon {t : Ty} (h : shapeF t 114 = true) (ht : (spineF t).2.op ≠ 11) : (spineF (canonF t)).1.map Fld.name = (fieldsF (spineF t).1).map Fld.name ∧ (spineF (canonF t)).2 = (spineF t).2 := by
  by_cases ho : t.op = 11
  · rw [canon_row ho, spine_of ht]
    refine ⟨?_, rfl⟩
    simp only [List.map_map]
    rfl
  · have hkn := tail_kids h ho
    have e1 : canonF t = t := by
      rw [canon_other ho, hkn]
      conv => rhs; rw [ty_eta t, hkn]
      rfl
    rw [e1, spine_no ho]; exact ⟨rfl, rfl⟩
theorem tail_not {t : Ty} : shapeF t 114 = true → (spineF t).2.op ≠ 11 := by
  induction t using Ty.ind with
  | h t ih =>
    intro h
    by_cases ho : t.op = 11
    · obtain ⟨k, r, hk, _, hr⟩ := shape_row h ho
      rw [spine_yes ho hk]; exact ih r (by rw [hk]; simp) hr
    · rw [spine_no ho]; exact ho
theorem lessN_map (l : List Fld) (s : ByteArray) : lessN l s = ((l.map Fld.name).filter fun x => decide (cmpN x s < 0)).length := by
  unfold lessN
  induction l with
  | nil => rfl
  | cons f l ih =>
    simp only [List.map_cons, List.filter_cons]
    cases decide (cmpN f.name s < 0) <;> simp [ih]
theorem lessN_ins (f : Fld) (s : ByteArray) : ∀ l : List Fld, lessN (insF f l) s = lessN [f] s + lessN l s
  | [] => by rw [insF]; rfl
  | x :: l => by
    rw [insF]
    have e1 : lessN (x :: l) s = lessN [x] s + lessN l s := lessN_app [x] l s
    split
    · have e2 : lessN (f :: x :: l) s = lessN [f] s + lessN (x :: l) s := lessN_app [f] (x :: l) s
      exact e2
    · have e2 : lessN (x :: insF f l) s = lessN [x] s + lessN (insF f l) s := lessN_app [x] (insF f l) s
      rw [e2, lessN_ins f s l, e1]; omega
theorem lessN_fold (s : ByteArray) : ∀ (l acc : List Fld), lessN (l.foldl (fun acc f => insF f acc) acc) s = lessN acc s + lessN l s
  | [], acc => rfl
  | f :: l, acc => by
    rw [List.foldl_cons, lessN_fold s l, lessN_ins]
    have e1 : lessN (f :: l) s = lessN [f] s + lessN l s := lessN_app [f] l s
    omega
theorem lessN_fields (l : List Fld) (s : ByteArray) : lessN (fieldsF l) s = lessN l s := by
  unfold fieldsF
  rw [lessN_fold]
  show lessN [] s + lessN l s = _
  rw [show lessN [] s = 0 from rfl]; omega
/-- The whole row. -/
theorem whole_at {row tail : Ty} {n : Int} {name : ByteArray} (hr : rowB row = true) (ht : rowB tail = true) (hw : rowB (canonF (putF n tail row)) = true) :
    lessN (flatF (canonF (putF n tail row))).1 name = lessN (flatF row).1 name + (bif hitB n (flatF row).2 then lessN (flatF tail).1 name else 0) ∧ (flatF (canonF (putF n tail row))).2 = bif hitB n (flatF row).2 then (flatF tail).2 else (flatF row).2 := by
  have sr := (rowB_of hr).1
  have st := (rowB_of ht).1
  have sp := shape_put (n := n) st row 114 sr
  obtain ⟨p1, p2⟩ := spine_put (n := n) (e := tail) row sr
  obtain ⟨c1, c2⟩ := spine_canon sp (tail_not sp)
  rw [flat_yes hw, flat_yes hr, flat_yes ht]
  simp only
  refine ⟨?_, c2.trans p2⟩
  rw [lessN_fields, lessN_map, c1, ← lessN_map, lessN_fields, lessN_map, p1, lessN_fields, lessN_map (spineF row).1, List.filter_append, List.length_append]
  cases hitB n (spineF row).2 with
  | false => rfl
  | true => simp only [cond_true]; rw [lessN_fields, lessN_map (spineF tail).1]
theorem find_one {p : Pl} {b : Bnd} : [b].find? (bindM p) = bif bindM p b then some b else none := by
  rw [List.find?_cons]
  cases bindM p b <;> rfl
theorem whole_inst {row tail : Ty} {n : Int} {name : ByteArray} (hn : 0 ≤ n) (hr : rowB row = true) (ht : rowB tail = true) (hw : rowB (canonF (putF n tail row)) = true) (hnm : isWordB name = true) (hz : psz row ≤ 2000000) (hzt : psz tail ≤ 2000000) :
    instF [⟨n, tail⟩] (atP (flatF row).1 (flatF row).2 name) = some (atP (flatF (canonF (putF n tail row))).1 (flatF (canonF (putF n tail row))).2 name) := by
  obtain ⟨w1, w2⟩ := whole_at (name := name) hr ht hw
  have hb := atP_base (name := name) hz
  have hb2 := atP_base (name := name) hzt
  rw [instF, find_one]
  cases hh : hitB n (flatF row).2 with
  | true =>
    rw [hh] at w1 w2
    simp only [cond_true] at w1 w2
    unfold hitB at hh
    rw [Bool.and_eq_true, decide_eq_true_eq, decide_eq_true_eq] at hh
    have ev : (atP (flatF row).1 (flatF row).2 name).var = n := by rw [atP, decide_eq_true hh.1]; exact hh.2
    have en : (atP (flatF row).1 (flatF row).2 name).name = name := by rw [atP, decide_eq_true hh.1]; rfl
    have hm : bindM (atP (flatF row).1 (flatF row).2 name) ⟨n, tail⟩ = true := by
      unfold bindM
      rw [ev, decide_eq_true (show ¬ n < 0 by omega), decide_eq_true rfl]; rfl
    rw [hm]
    simp only [cond_true, en, ht, hnm, Bool.and_self]
    rw [wadd_near hb2 ⟨by omega, by omega⟩]
    congr 1
    rw [w2]
    have e1 : (atP (flatF tail).1 (flatF tail).2 name).base + (atP (flatF row).1 (flatF row).2 name).base = ((lessN (flatF row).1 name + lessN (flatF tail).1 name : Nat) : Int) := by
      show ((lessN (flatF tail).1 name : Nat) : Int) + ((lessN (flatF row).1 name : Nat) : Int) = _
      omega
    show _ = (⟨((lessN (flatF (canonF (putF n tail row))).1 name : Nat) : Int), (atP (flatF tail).1 (flatF tail).2 name).var, (atP (flatF tail).1 (flatF tail).2 name).name⟩ : Pl)
    rw [e1, w1]
  | false =>
    rw [hh] at w1 w2
    simp only [cond_false, Nat.add_zero] at w1 w2
    have hm : bindM (atP (flatF row).1 (flatF row).2 name) ⟨n, tail⟩ = false := by
      unfold hitB at hh
      unfold bindM
      by_cases ho : (flatF row).2.op = 10
      · rw [decide_eq_true ho, Bool.true_and] at hh
        have h2 := of_decide_eq_false hh
        have ev : (atP (flatF row).1 (flatF row).2 name).var = (flatF row).2.n := by rw [atP, decide_eq_true ho]; rfl
        simp only [ev]
        rw [decide_eq_false (p := n = (flatF row).2.n) (fun h => h2 h.symm)]; simp
      · have ev : (atP (flatF row).1 (flatF row).2 name).var = -1 := by rw [atP, decide_eq_false ho]; rfl
        simp only [ev]
        rw [decide_eq_false (p := ¬ (-1 : Int) < 0) (by decide)]; rfl
    rw [hm]
    simp only [cond_false]
    congr 1
    rw [atP, atP, w2]
    rw [show atBase (flatF (canonF (putF n tail row))).1 name = lessN (flatF (canonF (putF n tail row))).1 name from rfl, w1]; rfl
theorem hit_var {row : Ty} {n : Int} {name : ByteArray} (hn : 0 ≤ n) (h : (atP (flatF row).1 (flatF row).2 name).var = n) : (atP (flatF row).1 (flatF row).2 name).name = name ∧ hitB n (flatF row).2 = true := by
  rw [atP] at h ⊢
  by_cases ho : (flatF row).2.op = 10
  · rw [decide_eq_true ho] at h ⊢
    refine ⟨rfl, ?_⟩
    unfold hitB
    rw [decide_eq_true ho, decide_eq_true (show (flatF row).2.n = n from h)]; rfl
  · rw [decide_eq_false ho] at h
    have : (-1 : Int) = n := h
    omega
/-- Both come to the same. -/
theorem whole_res {row tail : Ty} {n : Int} {name : ByteArray} (hn : 0 ≤ n) (hr : rowB row = true) (ht : rowB tail = true) (hw : rowB (canonF (putF n tail row)) = true) (hv : (atP (flatF row).1 (flatF row).2 name).var = n) (hv2 : (atP (flatF tail).1 (flatF tail).2 name).var < 0) :
    resF (atP (flatF row).1 (flatF row).2 name) [⟨n, name, (atP (flatF tail).1 (flatF tail).2 name).base⟩] = ((atP (flatF (canonF (putF n tail row))).1 (flatF (canonF (putF n tail row))).2 name).base, 0) ∧ resF (atP (flatF (canonF (putF n tail row))).1 (flatF (canonF (putF n tail row))).2 name) [] = ((atP (flatF (canonF (putF n tail row))).1 (flatF (canonF (putF n tail row))).2 name).base, 0) := by
  obtain ⟨en, hh⟩ := hit_var hn hv
  obtain ⟨w1, w2⟩ := whole_at (name := name) hr ht hw
  rw [hh] at w1 w2
  simp only [cond_true] at w1 w2
  have ev : (atP (flatF (canonF (putF n tail row))).1 (flatF (canonF (putF n tail row))).2 name).var = (atP (flatF tail).1 (flatF tail).2 name).var := by rw [atP, w2]; rfl
  refine ⟨?_, resF_neg (by rw [ev]; exact hv2)⟩
  have hm : evM (atP (flatF row).1 (flatF row).2 name) ⟨n, name, (atP (flatF tail).1 (flatF tail).2 name).base⟩ = true := by
    unfold evM
    rw [decide_eq_true hv.symm, decide_eq_true en.symm]; rfl
  rw [resF_at (i := 0) (by omega) (by simp) hm (fun k x hk => by omega)]
  show (((lessN (flatF row).1 name : Nat) : Int) + ((lessN (flatF tail).1 name : Nat) : Int), (0 : Int)) = (((lessN (flatF (canonF (putF n tail row))).1 name : Nat) : Int), 0)
  rw [w1]
  congr 1 <;> omega
theorem spine_words {t : Ty} : shapeF t 114 = true → ∀ f ∈ (spineF t).1, isWordB f.name = true := by
  induction t using Ty.ind with
  | h t ih =>
    intro h f hf
    by_cases ho : t.op = 11
    · obtain ⟨k, r, hk, _, hr⟩ := shape_row h ho
      rw [spine_yes ho hk] at hf
      rcases List.mem_cons.1 hf with rfl | hf
      · obtain ⟨_, _, _, _, h4, _⟩ := shape_pos h
        unfold headOk at h4
        rw [if_pos ho, Bool.and_eq_true] at h4
        exact h4.1
      · exact ih r (by rw [hk]; simp) hr f hf
    · rw [spine_no ho] at hf; cases hf
theorem slot_nth {row : Ty} {i : Nat} {l : List Fld} (hr : rowB row = true) (el : (flatF row).1 = l) (hi : i < l.length) : ((nthF row l[i].name (cntN (l.take i) l[i].name : Nat)).1.base = i ∧ (nthF row l[i].name (cntN (l.take i) l[i].name : Nat)).2 = 0) ∧ isWordB l[i].name = true := by
  have hs : Srt l := el ▸ flt_srt row
  have hw : isWordB l[i].name = true := by
    have hm : l[i] ∈ (flatF row).1 := by rw [el]; exact List.getElem_mem hi
    rw [flat_yes hr] at hm
    exact spine_words (rowB_of hr).1 _ (fields_mem hm)
  refine ⟨?_, hw⟩
  have h1 := cnt_at hi
  have h2 := srt_idx hs hi
  have e := nthF_some (t := row) (name := l[i].name) (n := (cntN (l.take i) l[i].name : Nat)) (by rw [hr, hw]; rfl) ⟨by omega, by rw [el]; omega⟩
  rw [e, el]
  exact ⟨by show ((lessN l l[i].name : Nat) : Int) + _ = _; omega, rfl⟩
end Rw
