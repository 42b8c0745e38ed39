/- Plain laws: two that say as much as each other are the same, and a loosened type says no more. No program in sight. -/
import Derived.Test.YtpoahmeacjggfaaPlainRa
import Derived.Test.YtpoahmeacjggfaaPlainE
namespace Rw

/-! ## Leaves -/

theorem kids_leaf {t : Ty} {c : UInt8} (h : shapeF t c = true) (h4 : t.op ≠ 4) (h5 : t.op ≠ 5) (h6 : t.op ≠ 6) (h11 : t.op ≠ 11) : t.kids = [] ∧ t.name = ⟨#[]⟩ ∧ (t.op ≠ 7 → t.op ≠ 10 → t.n = 0) := by
  obtain ⟨ks, hk, hl, _, hh, _⟩ := shape_pos h
  have : ks = ⟨#[]⟩ := by
    unfold kidsOf at hk
    split at hk
    · cases hk; rfl
    · simp [h4, h5, h6, h11] at hk
  subst this
  unfold headOk at hh
  simp only [Bool.and_eq_true, Bool.or_eq_true, decide_eq_true_eq, if_neg h11] at hh
  exact ⟨List.eq_nil_of_length_eq_zero (by rw [hl]; rfl), hh.1, fun h7 h10 => by omega⟩
theorem name_empty {t : Ty} {c : UInt8} (h : shapeF t c = true) (h11 : t.op ≠ 11) : t.name = ⟨#[]⟩ := by
  obtain ⟨ks, hk, hl, _, hh, _⟩ := shape_pos h
  unfold headOk at hh
  simp only [Bool.and_eq_true, decide_eq_true_eq, if_neg h11] at hh
  exact hh.1
theorem leaf_eq {a b : Ty} {c d : UInt8} (ha : shapeF a c = true) (hb : shapeF b d = true) (h : a.op = b.op) (hn : a.n = b.n) (h4 : a.op ≠ 4) (h5 : a.op ≠ 5) (h6 : a.op ≠ 6) (h11 : a.op ≠ 11) : a = b := by
  obtain ⟨p1, p2, _⟩ := kids_leaf ha h4 h5 h6 h11
  obtain ⟨q1, q2, _⟩ := kids_leaf hb (by omega) (by omega) (by omega) (by omega)
  exact Ty.ext' h (by rw [p2, q2]) hn (by rw [p1, q1])
theorem right_not11 {t : Ty} (h : rightB t = true) : t.op ≠ 11 := by have := right_op h; omega

/-! ## Canonical rows -/

theorem canon_ofF {r : Ty} (hr : rowB r = true) : canonF r = ofF ((fieldsF (spineF r).1).map canonFld) (spineF r).2 := by
  by_cases ho : r.op = 11
  · exact canon_row ho
  · have h8 := row_op hr
    obtain ⟨hk, _, _⟩ := kids_leaf (rowB_of hr).1 (by omega) (by omega) (by omega) ho
    rw [canon_other ho, spine_no ho, hk]
    conv => rhs; rw [show fieldsF [] = [] from rfl]
    show _ = r
    conv => rhs; rw [ty_eta r, hk]
    rfl
theorem spine_canonF {r : Ty} (hr : rowB r = true) : spineF (canonF r) = ((fieldsF (spineF r).1).map canonFld, (spineF r).2) := by
  rw [canon_ofF hr, spine_of (spine_right hr).2.2]
theorem nthT_map (l : List Fld) (s : ByteArray) (n : Nat) : nthT (l.map canonFld) s n = (nthT l s n).map canonF := by
  induction l generalizing n with
  | nil => rfl
  | cons f l ih =>
    rw [List.map_cons]
    by_cases e : f.name = s
    · have e' : (canonFld f).name = s := e
      cases n with
      | zero => rw [(nthT_yes e').1, (nthT_yes e).1]; rfl
      | succ n => rw [(nthT_yes e').2, (nthT_yes e).2, ih]
    · have e' : (canonFld f).name ≠ s := e
      rw [nthT_no e', nthT_no e, ih]
theorem stP_of_nth {l m : List Fld} (h : ∀ s n, nthT l s n = nthT m s n) : StP l m := fun s => by
  apply List.ext_getElem?
  intro n
  have h1 := h s n
  unfold nthT at h1
  have key : ∀ {k : List Fld} {x : Fld}, (k.filter fun f => decide (f.name = s))[n]? = some x → x.name = s := fun {k x} hx => by
    have := (List.mem_filter.1 (List.mem_of_getElem? hx)).2
    simpa using this
  cases e1 : (l.filter fun f => decide (f.name = s))[n]? with
  | none =>
    cases e2 : (m.filter fun f => decide (f.name = s))[n]? with
    | none => rfl
    | some y => rw [e1, e2] at h1; cases h1
  | some x =>
    cases e2 : (m.filter fun f => decide (f.name = s))[n]? with
    | none => rw [e1, e2] at h1; cases h1
    | some y =>
      rw [e1, e2] at h1
      have h2 : x.ty = y.ty := Option.some.inj h1
      have h3 : x.name = y.name := (key e1).trans (key e2).symm
      cases x; cases y
      simp only at h2 h3
      subst h2; subst h3; rfl
theorem row_same {a b : Ty} (ha : rowB a = true) (hb : rowB b = true) (h : ∀ s n, (nthT (spineF a).1 s n).map canonF = (nthT (spineF b).1 s n).map canonF) (he : (spineF a).2 = (spineF b).2) : canonF a = canonF b := by
  rw [canon_ofF ha, canon_ofF hb, he]
  congr 1
  refine srt_uniq (srt_map (fieldsF_srt _)) (srt_map (fieldsF_srt _)) (stP_of_nth fun s n => ?_)
  rw [nthT_map, nthT_map, nthT_fields, nthT_fields]
  exact h s n
theorem row_nth {a b : Ty} (ha : rowB a = true) (hb : rowB b = true) (h : canonF a = canonF b) : (∀ s n, (nthT (spineF a).1 s n).map canonF = (nthT (spineF b).1 s n).map canonF) ∧ (spineF a).2 = (spineF b).2 := by
  have h1 := spine_canonF ha
  rw [h, spine_canonF hb] at h1
  have h2 := congrArg Prod.fst h1
  have h3 := congrArg Prod.snd h1
  simp only at h2 h3
  refine ⟨fun s n => ?_, h3.symm⟩
  rw [← nthT_fields (spineF a).1, ← nthT_fields (spineF b).1, ← nthT_map, ← nthT_map, h2]

/-- The same: each says at least as much. -/
theorem same_less : ∀ (N : Nat) (a b : Ty), psz a ≤ N → rightB a = true → rightB b = true → canonF a = canonF b → holdsF true a b = true
  | 0, a, _, h, _, _, _ => by have := psz_pos a; omega
  | N + 1, a, b, h, ha, hb, e => by
    rw [canon_other (right_not11 ha), canon_other (right_not11 hb)] at e
    simp only [Ty.mk.injEq] at e
    obtain ⟨e1, _, e3, e4⟩ := e
    by_cases h4 : a.op = 4
    · obtain ⟨k, r, hk, h1, h2⟩ := fun_kids ha h4
      obtain ⟨k', r', hk', h1', h2'⟩ := fun_kids hb (by omega)
      have p1 := kid_psz (t := a) (k := k) (by rw [hk]; simp)
      have p2 := kid_psz (t := a) (k := r) (by rw [hk]; simp)
      rw [hk, hk'] at e4
      simp only [List.map_cons, List.map_nil, List.cons.injEq, and_true] at e4
      exact holds_fun h4 (by omega) e3 hk hk' (same_less N k k' (by omega) h1 h1' e4.1) (same_less N r r' (by omega) h2 h2' e4.2)
    · by_cases h5 : a.op = 5 ∨ a.op = 6
      · obtain ⟨k, hk, h1⟩ := rec_kids ha h5
        obtain ⟨k', hk', h1'⟩ := rec_kids hb (by omega)
        have p1 := kid_psz (t := a) (k := k) (by rw [hk]; simp)
        rw [hk, hk'] at e4
        simp only [List.map_cons, List.map_nil, List.cons.injEq, and_true] at e4
        obtain ⟨g1, g2⟩ := row_nth h1 h1' e4
        refine holds_rec h5 e1 e3 hk hk' ((rows_iff h1 h1').2 ⟨fun s n x y hx hy => ?_, fun s n x hx hy => ?_, fun s n y hy hx => ?_, ?_⟩)
        · have := g1 s n
          rw [hx, hy] at this
          have hp := nthT_psz hx
          exact same_less N x y (by omega) (nthT_right h1 hx) (nthT_right h1' hy) (Option.some.inj this)
        · have := g1 s n; rw [hx, hy] at this; cases this
        · have := g1 s n; rw [hx, hy] at this; cases this
        · rw [g2]; unfold tailF; simp
      · exact holds_base e1 e3 h4 (by omega) (by omega)
/-- Two that say as much as each other are the same. -/
theorem less_anti : ∀ (N : Nat) (a b : Ty), psz a ≤ N → rightB a = true → rightB b = true → holdsF true a b = true → holdsF true b a = true → canonF a = canonF b
  | 0, a, _, h, _, _, _, _ => by have := psz_pos a; omega
  | N + 1, a, b, h, ha, hb, hab, hba => by
    have sa := (rightB_of ha).1
    have sb := (rightB_of hb).1
    have na := right_not11 ha
    have nb := right_not11 hb
    rcases holds_cases ha hb hab with h3 | ⟨h0, _⟩ | ⟨e1, e2, h3 | ⟨h4, k, r, k', r', hk, hk', q1, q2, q3, q4, h5, h6⟩ | ⟨h4, k, k', hk, hk', q1, q2, h5⟩⟩
    · have h3a : a.op = 3 := by
        rcases holds_cases hb ha hba with g3 | ⟨h0, _⟩ | ⟨g1, _⟩
        · exact g3
        · cases h0
        · omega
      rw [leaf_eq sa sb (by omega) (by rw [right_n ha (by omega), right_n hb (by omega)]) (by omega) (by omega) (by omega) na]
    · cases h0
    · rw [leaf_eq sa sb e1 e2 h3.1 h3.2.1 h3.2.2 na]
    · have p1 := kid_psz (t := a) (k := k) (by rw [hk]; simp)
      have p2 := kid_psz (t := a) (k := r) (by rw [hk]; simp)
      rcases holds_cases hb ha hba with g3 | ⟨h0, _⟩ | ⟨_, _, g3 | ⟨_, l, s, l', s', hl, hl', _, _, _, _, g5, g6⟩ | ⟨g4, _⟩⟩
      · omega
      · cases h0
      · omega
      · rw [hk'] at hl
        rw [hk] at hl'
        simp only [List.cons.injEq, and_true] at hl hl'
        obtain ⟨rfl, rfl⟩ := hl
        obtain ⟨rfl, rfl⟩ := hl'
        rw [canon_other na, canon_other nb, hk, hk', e1, e2, name_empty sa na, name_empty sb nb]
        simp only [List.map_cons, List.map_nil]
        rw [less_anti N k k' (by omega) q1 q3 h5 g5, less_anti N r r' (by omega) q2 q4 h6 g6]
      · omega
    · have p1 := kid_psz (t := a) (k := k) (by rw [hk]; simp)
      rcases holds_cases hb ha hba with g3 | ⟨h0, _⟩ | ⟨_, _, g3 | ⟨g4, _⟩ | ⟨_, l, l', hl, hl', _, _, g5⟩⟩
      · omega
      · cases h0
      · omega
      · omega
      · rw [hk'] at hl
        rw [hk] at hl'
        simp only [List.cons.injEq, and_true] at hl hl'
        subst hl; subst hl'
        obtain ⟨r1, r2, r3, r4⟩ := (rows_iff q1 q2).1 h5
        obtain ⟨s1, s2, s3, s4⟩ := (rows_iff q2 q1).1 g5
        rw [canon_other na, canon_other nb, hk, hk', e1, e2, name_empty sa na, name_empty sb nb]
        simp only [List.map_cons, List.map_nil]
        have hrow : canonF k = canonF k' := by
          refine row_same q1 q2 (fun s n => ?_) ?_
          · rcases some_or_none (nthT (spineF k).1 s n) with ⟨x, hx⟩ | hx
            · rcases some_or_none (nthT (spineF k').1 s n) with ⟨y, hy⟩ | hy
              · have := nthT_psz hx
                rw [hx, hy, Option.map_some, Option.map_some, less_anti N x y (by omega) (nthT_right q1 hx) (nthT_right q2 hy) (r1 s n x y hx hy) (s1 s n y x hy hx)]
              · have := (s3 s n x hx hy).1; cases this
            · rcases some_or_none (nthT (spineF k').1 s n) with ⟨y, hy⟩ | hy
              · have := (r3 s n y hy hx).1; cases this
              · rw [hx, hy]
          · rw [tail_true (tail_ne3 q2)] at r4
            rw [tail_true (tail_ne3 q1)] at s4
            obtain ⟨_, te, t11⟩ := spine_right q1
            obtain ⟨_, tf, f11⟩ := spine_right q2
            have o1 := row_op te
            have o2 := row_op tf
            have hop : (spineF k).2.op = (spineF k').2.op := by omega
            have hnn : (spineF k).2.n = (spineF k').2.n := by
              rcases r4 with r4 | r4
              · have z1 := (kids_leaf (rowB_of te).1 (by omega) (by omega) (by omega) t11).2.2 (by omega) (by omega)
                have z2 := (kids_leaf (rowB_of tf).1 (by omega) (by omega) (by omega) f11).2.2 (by omega) (by omega)
                omega
              · exact r4.2
            exact leaf_eq (rowB_of te).1 (rowB_of tf).1 hop hnn (by omega) (by omega) (by omega) t11
        rw [hrow]

/-! ## What is loosened -/

theorem shape_leafF {t : Ty} {c : UInt8} (h : shapeF t c = true) : shapeF (leafF t.op) c = true := by
  obtain ⟨_, _, _, _, _, h5⟩ := shape_pos h
  unfold leafF
  by_cases h8 : 8 ≤ t.op
  · rw [decide_eq_true h8] at h5
    rw [if_pos h8]
    exact shape_yes (ks := ⟨#[]⟩) rfl rfl (by simpa [Ty.op] using h5) rfl (fun j x d hx _ => by simp [Ty.kids] at hx)
  · rw [decide_eq_false h8] at h5
    rw [if_neg h8]
    exact shape_yes (ks := ⟨#[]⟩) rfl rfl (by simpa [Ty.op] using h5) rfl (fun j x d hx _ => by simp [Ty.kids] at hx)
theorem shape_loos (t : Ty) : ∀ (c : UInt8) (b : List UInt8), shapeF t c = true → shapeF (loosF t b) c = true := by
  induction t using Ty.ind with
  | h t ih =>
    intro c b hs
    cases ho : oddH b with
    | true => rw [loos_odd ho]; exact shape_leafF hs
    | false =>
      rw [loos_even ho]
      obtain ⟨ks, hk, hl, hall, hh, h5⟩ := shape_pos hs
      refine shape_yes (t := .mk t.op t.name t.n (loosK t.kids (b.drop 1))) hk (by show (loosK t.kids (b.drop 1)).length = _; rw [loosK_len]; exact hl) h5 hh fun j x d hx hd => ?_
      replace hx : (loosK t.kids (b.drop 1))[j]? = some x := hx
      have hj : j < t.kids.length := by rw [← loosK_len t.kids (b.drop 1)]; exact (List.getElem?_eq_some_iff.1 hx).1
      rw [loosK_get _ _ _ hj] at hx
      rw [← Option.some.inj hx]
      exact ih _ (List.getElem_mem hj) d _ (hall j _ d (List.getElem?_eq_getElem hj) hd)
/-- Its variables are variables of what it is of. -/
def VarsIn (x t : Ty) : Prop := ∀ y ∈ partsL x, numB y.op = true → ∃ z ∈ partsL t, z.op = y.op ∧ z.n = y.n
theorem once_in {x t : Ty} (h : VarsIn x t) (ho : onceB t = true) : onceB x = true := by
  rw [once_true] at ho ⊢
  intro y hy z hz ⟨h7, h10, hn⟩
  obtain ⟨y', hy', e1, e2⟩ := h y hy (by simp [numB, h7])
  obtain ⟨z', hz', e3, e4⟩ := h z hz (by simp [numB, h10])
  exact ho y' hy' z' hz' ⟨by omega, by omega, by omega⟩
theorem vars_kid {x k t : Ty} (hk : k ∈ t.kids) (h : VarsIn x k) : VarsIn x t := fun y hy hn => by
  obtain ⟨z, hz, e⟩ := h y hy hn
  exact ⟨z, by rw [partsL_eq t]; exact List.mem_cons_of_mem _ (List.mem_flatMap.2 ⟨k, hk, hz⟩), e⟩
theorem vars_loos (t : Ty) : ∀ b : List UInt8, VarsIn (loosF t b) t := by
  induction t using Ty.ind with
  | h t ih =>
    intro b
    cases ho : oddH b with
    | true =>
      rw [loos_odd ho]
      intro y hy hn
      have : partsL (leafF t.op) = [leafF t.op] := by unfold leafF; split <;> rw [partsL_eq] <;> rfl
      rw [this, List.mem_singleton] at hy
      subst hy
      unfold leafF at hn
      split at hn <;> simp [numB, Ty.op] at hn
    | false =>
      rw [loos_even ho]
      intro y hy hn
      rw [partsL_eq] at hy
      rcases List.mem_cons.1 hy with rfl | hy
      · exact ⟨t, by rw [partsL_eq]; exact List.mem_cons_self, rfl, rfl⟩
      · obtain ⟨x, hx, hyx⟩ := List.mem_flatMap.1 hy
        replace hx : x ∈ loosK t.kids (b.drop 1) := hx
        obtain ⟨j, hj, rfl⟩ := List.getElem_of_mem hx
        have hj' : j < t.kids.length := by rw [← loosK_len t.kids (b.drop 1)]; exact hj
        rw [loosK_at hj'] at hyx
        exact vars_kid (List.getElem_mem hj') (ih _ (List.getElem_mem hj') _) y hyx hn
theorem right_loos {t : Ty} (h : rightB t = true) (b : List UInt8) : rightB (loosF t b) = true :=
  rightB_mk (shape_loos t _ b (rightB_of h).1) (once_in (vars_loos t b) (rightB_of h).2)
theorem row_loos {t : Ty} (h : rowB t = true) (b : List UInt8) : rowB (loosF t b) = true :=
  rowB_mk (shape_loos t _ b (rowB_of h).1) (once_in (vars_loos t b) (rowB_of h).2)

theorem parts_spine (t : Ty) : (∀ f ∈ (spineF t).1, ∀ y ∈ partsL f.ty, y ∈ partsL t) ∧ ∀ y ∈ partsL (spineF t).2, y ∈ partsL t := by
  induction t using Ty.ind with
  | h t ih =>
    have hin : ∀ k ∈ t.kids, ∀ y ∈ partsL k, y ∈ partsL t := fun k hk y hy => by rw [partsL_eq t]; exact List.mem_cons_of_mem _ (List.mem_flatMap.2 ⟨k, hk, hy⟩)
    by_cases ho : t.op = 11
    · rcases e : t.kids with _ | ⟨k, _ | ⟨r, _ | ⟨x, l⟩⟩⟩
      · rw [spineF_eq, e]; exact ⟨fun f hf => (by cases hf), fun y hy => hy⟩
      · rw [spineF_eq, e]; exact ⟨fun f hf => (by cases hf), fun y hy => hy⟩
      · rw [spine_yes ho e]
        obtain ⟨h1, h2⟩ := ih r (by rw [e]; simp)
        refine ⟨fun f hf y hy => ?_, fun y hy => hin r (by rw [e]; simp) y (h2 y hy)⟩
        rcases List.mem_cons.1 hf with rfl | hf
        · exact hin k (by rw [e]; simp) y hy
        · exact hin r (by rw [e]; simp) y (h1 f hf y hy)
      · rw [spineF_eq, e]; exact ⟨fun f hf => (by cases hf), fun y hy => hy⟩
    · rw [spine_no ho]; exact ⟨fun f hf => (by cases hf), fun y hy => hy⟩
theorem vars_ofF {e t : Ty} (he : VarsIn e t) : ∀ l : List Fld, (∀ f ∈ l, VarsIn f.ty t) → VarsIn (ofF l e) t
  | [], _ => he
  | f :: l, h => fun y hy hn => by
    rw [ofF_cons, partsL_eq] at hy
    rcases List.mem_cons.1 hy with rfl | hy
    · simp [numB, Ty.op] at hn
    · simp only [Ty.kids, List.flatMap_cons, List.flatMap_nil, List.append_nil, List.mem_append] at hy
      rcases hy with hy | hy
      · exact h f List.mem_cons_self y hy hn
      · exact vars_ofF he l (fun g hg => h g (List.mem_cons_of_mem _ hg)) y hy hn
theorem vars_canonF : ∀ (N : Nat) (t : Ty), psz t ≤ N → VarsIn (canonF t) t
  | 0, t, h => by have := psz_pos t; omega
  | N + 1, t, h => by
    by_cases ho : t.op = 11
    · rw [canon_row ho]
      obtain ⟨h1, h2⟩ := parts_spine t
      refine vars_ofF (fun y hy hn => ⟨y, h2 y hy, rfl, rfl⟩) _ fun f hf => ?_
      obtain ⟨g, hg, rfl⟩ := List.mem_map.1 hf
      have := fields_psz hg
      intro y hy hn
      obtain ⟨z, hz, e⟩ := vars_canonF N g.ty (by omega) y hy hn
      exact ⟨z, h1 g (fields_mem hg) z hz, e⟩
    · rw [canon_other ho]
      intro y hy hn
      rw [partsL_eq] at hy
      rcases List.mem_cons.1 hy with rfl | hy
      · exact ⟨t, by rw [partsL_eq]; exact List.mem_cons_self, rfl, rfl⟩
      · obtain ⟨x, hx, hyx⟩ := List.mem_flatMap.1 hy
        replace hx : x ∈ t.kids.map canonF := hx
        obtain ⟨k, hk, rfl⟩ := List.mem_map.1 hx
        have := kid_psz hk
        exact vars_kid hk (vars_canonF N k (by omega)) y hyx hn
theorem right_canon {t : Ty} (h : rightB t = true) : rightB (canonF t) = true :=
  rightB_mk (shape_canon _ t _ (Nat.le_refl _) (rightB_of h).1) (once_in (vars_canonF _ t (Nat.le_refl _)) (rightB_of h).2)
theorem row_canonB {t : Ty} (h : rowB t = true) : rowB (canonF t) = true :=
  rowB_mk (shape_canon _ t _ (Nat.le_refl _) (rowB_of h).1) (once_in (vars_canonF _ t (Nat.le_refl _)) (rowB_of h).2)

/-- Fields of a loosened row: the first of the row's, each one's type saying no more. -/
inductive PreL : List Fld → List Fld → Prop
  | nil (l : List Fld) : PreL l []
  | cons {f g : Fld} {l m : List Fld} (hn : f.name = g.name) (hh : holdsF true f.ty g.ty = true) (h : PreL l m) : PreL (f :: l) (g :: m)
theorem PreL.len {l m : List Fld} (h : PreL l m) : m.length ≤ l.length := by
  induction h with
  | nil l => simp
  | cons _ _ _ ih => simpa using ih
theorem PreL.of {l m : List Fld} (h : PreL l m) : ∀ {s : ByteArray} {n : Nat} {y : Ty}, nthT m s n = some y → ∃ x, nthT l s n = some x ∧ holdsF true x y = true := by
  induction h with
  | nil l => intro s n y hy; rw [nthT_nil] at hy; cases hy
  | @cons f g l m hn hh h ih =>
    intro s n y hy
    by_cases e : g.name = s
    · have e' : f.name = s := hn.trans e
      cases n with
      | zero => rw [(nthT_yes e).1] at hy; cases hy; exact ⟨f.ty, (nthT_yes e').1, hh⟩
      | succ n => rw [(nthT_yes e).2] at hy; rw [(nthT_yes e').2]; exact ih hy
    · have e' : f.name ≠ s := fun h => e (hn.symm.trans h)
      rw [nthT_no e] at hy; rw [nthT_no e']; exact ih hy
theorem PreL.full {l m : List Fld} (h : PreL l m) : m.length = l.length → ∀ {s : ByteArray} {n : Nat} {x : Ty}, nthT l s n = some x → ∃ y, nthT m s n = some y := by
  induction h with
  | nil l =>
    intro hl s n x hx
    have : l = [] := List.eq_nil_of_length_eq_zero (by simpa using hl.symm)
    subst this
    rw [nthT_nil] at hx; cases hx
  | @cons f g l m hn hh h ih =>
    intro hl s n x hx
    by_cases e : g.name = s
    · have e' : f.name = s := hn.trans e
      cases n with
      | zero => exact ⟨g.ty, (nthT_yes e).1⟩
      | succ n => rw [(nthT_yes e').2] at hx; rw [(nthT_yes e).2]; exact ih (by simpa using hl) hx
    · have e' : f.name ≠ s := fun h => e (hn.symm.trans h)
      rw [nthT_no e'] at hx; rw [nthT_no e]; exact ih (by simpa using hl) hx
theorem pre_loos (N : Nat) (hN : ∀ (x : Ty) (b : List UInt8), psz x ≤ N → rightB x = true → holdsF true x (loosF x b) = true) (r : Ty) : ∀ b : List UInt8, psz r ≤ N + 1 → rowB r = true →
    PreL (spineF r).1 (spineF (loosF r b)).1 ∧ (((spineF (loosF r b)).1.length = (spineF r).1.length ∧ (spineF (loosF r b)).2.op = (spineF r).2.op ∧ (spineF (loosF r b)).2.n = (spineF r).2.n) ∨ (spineF (loosF r b)).2.op = 9) := by
  induction r using Ty.ind with
  | h r ih =>
    intro b hp hr
    cases ho : oddH b with
    | true =>
      have h8 := row_op hr
      rw [loos_odd ho, leafF, if_pos h8, spine_no (t := .mk 9 ⟨#[]⟩ 0 []) (by decide)]
      exact ⟨.nil _, .inr rfl⟩
    | false =>
      by_cases h11 : r.op = 11
      · obtain ⟨k, q, hk, h1, h2⟩ := shape_row (rowB_of hr).1 h11
        have hk1 : rightB k = true := rightB_mk h1 (once_kid (rowB_of hr).2 (by rw [hk]; simp))
        have hq1 : rowB q = true := rowB_mk h2 (once_kid (rowB_of hr).2 (by rw [hk]; simp))
        have p1 := kid_psz (t := r) (k := k) (by rw [hk]; simp)
        have p2 := kid_psz (t := r) (k := q) (by rw [hk]; simp)
        obtain ⟨i1, i2⟩ := ih q (by rw [hk]; simp) ((b.drop 1).drop (psz k)) (by omega) hq1
        have e1 : spineF (loosF r b) = (⟨r.name, loosF k (b.drop 1)⟩ :: (spineF (loosF q ((b.drop 1).drop (psz k)))).1, (spineF (loosF q ((b.drop 1).drop (psz k)))).2) := by
          rw [loos_even ho, hk]
          exact spine_yes (t := .mk r.op r.name r.n (loosK [k, q] (b.drop 1))) h11 rfl
        rw [e1, spine_yes h11 hk]
        refine ⟨.cons rfl (hN k _ (by omega) hk1) i1, ?_⟩
        rcases i2 with ⟨j1, j2, j3⟩ | i2
        · exact .inl ⟨by simpa using j1, j2, j3⟩
        · exact .inr i2
      · have h8 := row_op hr
        obtain ⟨hk, _, _⟩ := kids_leaf (rowB_of hr).1 (by omega) (by omega) (by omega) h11
        rw [loos_even ho, spine_no (t := .mk r.op r.name r.n (loosK r.kids (b.drop 1))) h11, spine_no h11]
        exact ⟨.nil _, .inl ⟨rfl, rfl, rfl⟩⟩
/-- A loosened type says no more. -/
theorem less_loos : ∀ (N : Nat) (a : Ty) (b : List UInt8), psz a ≤ N → rightB a = true → holdsF true a (loosF a b) = true
  | 0, a, _, h, _ => by have := psz_pos a; omega
  | N + 1, a, b, h, ha => by
    have o := right_op ha
    cases ho : oddH b with
    | true => rw [loos_odd ho, leafF, if_neg (by omega)]; exact holds_dynR rfl
    | false =>
      rw [loos_even ho]
      by_cases h4 : a.op = 4
      · obtain ⟨k, r, hk, h1, h2⟩ := fun_kids ha h4
        have p1 := kid_psz (t := a) (k := k) (by rw [hk]; simp)
        have p2 := kid_psz (t := a) (k := r) (by rw [hk]; simp)
        rw [hk]
        exact holds_fun (b := .mk a.op a.name a.n (loosK [k, r] (b.drop 1))) h4 h4 rfl hk rfl (less_loos N k _ (by omega) h1) (less_loos N r _ (by omega) h2)
      · by_cases h5 : a.op = 5 ∨ a.op = 6
        · obtain ⟨k, hk, h1⟩ := rec_kids ha h5
          have p1 := kid_psz (t := a) (k := k) (by rw [hk]; simp)
          rw [hk]
          have hr2 := row_loos h1 (b.drop 1)
          obtain ⟨i1, i2⟩ := pre_loos N (fun x b hx hr => less_loos N x b hx hr) k (b.drop 1) (by omega) h1
          refine holds_rec (b := .mk a.op a.name a.n (loosK [k] (b.drop 1))) h5 rfl rfl hk rfl ((rows_iff h1 hr2).2 ⟨fun s n x y hx hy => ?_, fun s n x hx hy => ?_, fun s n y hy hx => ?_, ?_⟩)
          · obtain ⟨x', hx', hh⟩ := i1.of hy
            rw [hx] at hx'; cases hx'; exact hh
          · rcases i2 with ⟨j1, _, _⟩ | i2
            · obtain ⟨y, hy'⟩ := i1.full j1 hx
              rw [hy] at hy'; cases hy'
            · exact i2
          · obtain ⟨x', hx', _⟩ := i1.of hy
            rw [hx] at hx'; cases hx'
          · rw [tail_true (tail_ne3 hr2)]
            rcases i2 with ⟨_, j2, j3⟩ | i2
            · exact .inr ⟨j2.symm, j3.symm⟩
            · exact .inl i2
        · exact holds_base (b := .mk a.op a.name a.n (loosK a.kids (b.drop 1))) rfl rfl h4 (by omega) (by omega)

/-! ## Loosen, of what is right -/

theorem psz_loos (t : Ty) : ∀ b : List UInt8, psz (loosF t b) ≤ psz t := by
  induction t using Ty.ind with
  | h t ih =>
    intro b
    cases ho : oddH b with
    | true =>
      rw [loos_odd ho]
      have : psz (leafF t.op) = 1 := by unfold leafF; split <;> rw [psz_eq] <;> rfl
      have := psz_pos t
      omega
    | false =>
      rw [loos_even ho, psz_eq, psz_eq t]
      show pszs (loosK t.kids (b.drop 1)) + 1 ≤ _
      have key : ∀ (l : List Ty) (b : List UInt8), (∀ k ∈ l, ∀ b, psz (loosF k b) ≤ psz k) → pszs (loosK l b) ≤ pszs l := by
        intro l
        induction l with
        | nil => intro b _; simp [loosK_nil]
        | cons k l il =>
          intro b hk
          rw [loosK_cons, pszs_cons, pszs_cons]
          have h1 := hk k List.mem_cons_self b
          have h2 := il (b.drop (psz k)) fun x hx => hk x (List.mem_cons_of_mem _ hx)
          omega
      have := key t.kids (b.drop 1) ih
      omega
theorem psz_LoosF {t : Ty} (h : rightB t = true) (b : List UInt8) : psz (LoosF t b) ≤ psz t := by
  unfold LoosF; rw [h]
  have h1 := psz_loos (canonF t) b
  rw [psz_canon _ t (Nat.le_refl _)] at h1
  exact h1

theorem LoosF_right {t : Ty} (h : rightB t = true) (b : List UInt8) : LoosF t b = loosF (canonF t) b := by unfold LoosF; rw [h]; rfl
theorem right_LoosF {t : Ty} (h : rightB t = true) (b : List UInt8) : rightB (LoosF t b) = true := by rw [LoosF_right h]; exact right_loos (right_canon h) b
theorem less_LoosF {t : Ty} (h : rightB t = true) (b : List UInt8) : holdsF true t (LoosF t b) = true := by
  rw [LoosF_right h]
  have hc := right_canon h
  exact less_trans _ t (canonF t) _ (Nat.le_refl _) h hc (right_loos hc b) (same_less _ t (canonF t) (Nat.le_refl _) h hc (canon_idem _ t _ (Nat.le_refl _) (rightB_of h).1).symm) (less_loos _ _ b (Nat.le_refl _) hc)
theorem asked_right {less : Bool} {a b : Ty} (ha : rightB a = true) (hb : rightB b = true) : askedF less a b = holdsF less a b := by
  unfold askedF; rw [right_row ha, ha, hb]; rfl
theorem cons_comm {a b : Ty} (ha : rightB a = true) (hb : rightB b = true) : holdsF false a b = holdsF false b a := by
  rw [Bool.eq_iff_iff]
  exact ⟨cons_symm _ a b (Nat.le_refl _) ha hb, cons_symm _ b a (Nat.le_refl _) hb ha⟩
end Rw
