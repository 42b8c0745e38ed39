/- Walks: canonical forms. Printed by wip/walks/kinds13.py. -/
import Derived.Test.YtohfnpmehgpphaaWj
import Derived.Test.YtohfnpmehgpphaaPlainC
import Derived.Test.YtohfnpmehgpphaaMore
namespace Go.Proofs.Ytohfnpmehgpphaa
open Go Rw Go.RowKit
set_option maxRecDepth 100000

/-- kinds.canon: the canonical form. -/
theorem canon_own (n : Nat) : ∀ (t : Ty) (c : UInt8) (M : Nat → Prop) (w : World) (v : Value), psz t ≤ n → shapeF t c = true → Rep.R M w v t → Low M w → psz t ≤ 2000000 →
    Calls Try.prog 156 #[v] w (Ret fun r w' => OTy 40 w.heap.size w' (canonF t) r (Plus NoM w w') ∧ Ext w w') := by
  induction n with
  | zero => intro t c M w v h; have := psz_pos t; omega
  | succ n ih =>
  intro t c M w v hn hsh ht hlow0 hsz
  have hlow := hlow0
  have hB : w.heap.size ≤ w.heap.size := Nat.le_refl _
  have hE : Below w.heap.size w w := Below.refl _ _
  have hsub : ∀ b, M b → M b := fun _ h => h
  obtain ⟨kv, rfl, op, nm, n64, hk⟩ := ty_open ht
  have hps := psz_eq t
  have hkl := len_psz t.kids
  refine c_enter (n := 52) Try.func156 rfl rfl rfl ?_
  refine q0 ?_
  refine l_cons (o_box rfl rfl rfl ?_)
  intro b1 w1 qb1 ew1 hb1
  have sw1 := Stp.add ew1 hlow hB (Nat.le_of_eq qb1.symm) hb1.lt
  have h1 : MB w.heap.size (Rw.Add M b1) w1 b1 40 [.int .u8 t.op, .string t.name, .int .i64 t.n, kv] := MB.mk' hb1 qb1 hB
  replace hE := hE.trans sw1.below
  replace ht := Rep.stp ht sw1
  replace hk := hk.stp sw1
  replace hsub := fun b h => sw1.sub b (hsub b h)
  replace hlow := sw1.low
  replace hB := Nat.le_trans hB sw1.upd.1
  refine l_cons (o_new tbOk rfl rfl rfl ?_)
  intro b2 w2 qb2 ew2 hb2
  have ne_h1_h2 : b1 ≠ b2 := by have := h1.lt; omega
  have sw2 := Stp.add ew2 hlow hB (Nat.le_of_eq qb2.symm) hb2.lt
  have h2 : MB w.heap.size (Rw.Add (Rw.Add M b1) b2) w2 b2 40 [.int .u8 0, .string ⟨#[]⟩, .int .i64 0, .slice none 0 0] := MB.mk' hb2 qb2 hB
  replace h1 := h1.stp sw2 (ew2.block b1 h1.lt)
  replace hE := hE.trans sw2.below
  replace ht := Rep.stp ht sw2
  replace hk := hk.stp sw2
  replace hsub := fun b h => sw2.sub b (hsub b h)
  replace hlow := sw2.low
  replace hB := Nat.le_trans hB sw2.upd.1
  refine q1 (c_seq (q0 (l_p 1 tbOk rfl ?_)))
  refine l_cons (o_ld tbOk (h1.cell 0 _ rfl) rfl rfl rfl rfl rfl ?_)
  refine l_p 1 tbOk rfl (q1 ?_)
  refine c_ifP _ rfl (fun hc0 => ?_) (fun hc0 => ?_)
  · have hop : t.op = 11 := by omega
    refine q0 ?_
    refine l_cons (o_lds tbOk (fun j v hv => h1.cell j v hv) rfl rfl rfl rfl rfl rfl ?_)
    have hsh2 := shape_114 hsh hop
    have hsl := spine_len t
    have hfl0 := fieldsF_len (spineF t).1
    have lh1 := h1.lt
    have lh2 := h2.lt
    refine l_cons (o_call fo92 rfl rfl rfl (flat_spec t _ _ _ hsh2 ht hlow hsz) ?_)
    rintro _ w3 ⟨xv, tv, M2, rfl, ho, htl, sw3⟩
    have blw3 := sw3.below
    have d_ho_h1 : ∀ x, (xv : Value).ownBlock = some x → x ≠ b1 := fun x hx => by have := (ho.lt x hx).1; omega
    have d_ho_h2 : ∀ x, (xv : Value).ownBlock = some x → x ≠ b2 := fun x hx => by have := (ho.lt x hx).1; omega
    replace sw3 := sw3.mono hB
    replace ho := ho.mono hB
    replace h1 := h1.stp sw3 (blw3.block b1 lh1)
    replace h2 := h2.stp sw3 (blw3.block b2 lh2)
    replace hE := hE.trans sw3.below
    replace ht := Rep.stp ht sw3
    replace hk := hk.stp sw3
    replace hsub := fun b h => sw3.sub b (hsub b h)
    replace hlow := sw3.low
    replace hB := Nat.le_trans hB sw3.upd.1
    obtain ⟨kve, rfl, ope, nme, n64e, hke⟩ := ty_open htl
    refine l_p 3 tbOk rfl ?_
    refine l_cons (o_new tbOk rfl rfl rfl ?_)
    intro b4 w4 qb4 ew4 hb4
    have nb4 := nM_of hlow qb4
    refine l_p 1 tbOk rfl ?_
    refine l_cons (o_st tbOk hb4 rfl rfl rfl rfl (Rep.one htl) rfl rfl ?_)
    intro w5 h4 uw5 bew5
    have ew5 : Ext w3 w5 := ew4.trans (bew5 _ (Nat.le_of_eq qb4.symm))
    replace h1 := h1.ext hlow hB ew5
    replace h2 := h2.ext hlow hB ew5
    replace ho := ho.ext hlow hB ew5
    replace hE := hE.trans (Below.mono ew5 hB)
    replace ht := Rep.ext ht ew5
    replace hk := hk.ext ew5
    replace htl := Rep.ext htl ew5
    replace hke := hke.ext ew5
    replace hlow := hlow.ext ew5
    replace hB := Nat.le_trans hB ew5.size
    replace h4 : Box w5 b4 40 [.int .u8 (spineF t).2.op, .string (spineF t).2.name, .int .i64 (spineF t).2.n, kve] := h4
    replace h4 := h4.at nb4
    refine q1 (c_seq (q0 (l_p 1 tbOk rfl ?_)))
    refine l_cons (o_lenO tbOk ho rfl rfl rfl rfl rfl ?_)
    refine l_p 1 tbOk rfl (q1 (c_blk ?_))
    refine c_loop (X := Nat) (fun i => [(2, .pointer (some ⟨b2, 0, none⟩)), (3, xv), (4, .pointer (some ⟨b4, 0, none⟩)), (18, .int .i64 ((fieldsF (spineF t).1).length : Int)), (19, .int .i64 (i : Nat))]) (fun i w' => i ≤ (fieldsF (spineF t).1).length ∧ OwnSl 56 w.heap.size M2 w' xv (canTo (fieldsF (spineF t).1) i) ∧ MB w.heap.size M2 w' b1 40 [.int .u8 t.op, .string t.name, .int .i64 t.n, kv] ∧ MB w.heap.size M2 w' b2 40 [.int .u8 0, .string ⟨#[]⟩, .int .i64 0, .slice none 0 0] ∧ At M2 w' b4 0 [.int .u8 (spineF t).2.op, .string (spineF t).2.name, .int .i64 (spineF t).2.n, kve] ∧ Rep.R M2 w' (.agg #[.int .u8 (spineF t).2.op, .string (spineF t).2.name, .int .i64 (spineF t).2.n, kve]) (spineF t).2 ∧ Low M2 w' ∧ (∀ b, M b → M2 b) ∧ Below w.heap.size w w' ∧ w.heap.size ≤ w'.heap.size) (fun i => (fieldsF (spineF t).1).length - i) (0) (s5 rfl rfl rfl (get_num rfl (by omega)) (get_num rfl rfl)) ?_ ?_
    · refine ⟨Nat.zero_le _, ?_, h1, h2, h4, htl, hlow, hsub, hE, hB⟩
      rw [canTo_zero]; exact ho
    clear hsub
    rintro i w6 ⟨hi, ho, h1, h2, h4, htl, hlow, hsub, hE, hB⟩
    have hcl := canTo_len (fieldsF (spineF t).1) i
    refine q0 (l_p 1 tbOk rfl (q1 (c_seq ?_)))
    refine c_ifP _ rfl (fun c1 => ?_) (fun c1 => ?_)
    · have hil : i < (fieldsF (spineF t).1).length := by omega
      refine c_skip (x_seq (c_seq (c_blk (q0 (l_p 2 tbOk rfl (q1 (c_reg (l_p 4 tbOk rfl ?_))))))))
      refine l_cons (o_ixO tbOk ho (canTo_get hil) rfl rfl rfl rfl rfl rfl rfl rfl rfl ?_)
      intro ibx iux hobx hrx hatx
      obtain ⟨szx, kvx, rfl, hyx⟩ := fld_open hrx
      replace hatx : At NoM w6 ibx _ [.string (fieldsF (spineF t).1)[i].name, .int .u8 (fieldsF (spineF t).1)[i].ty.op, .string (fieldsF (spineF t).1)[i].ty.name, .int .i64 (fieldsF (spineF t).1)[i].ty.n, kvx] := ⟨(ho.lt _ hobx).2, fun h => h, hatx.cell⟩
      refine l_p 1 tbOk rfl ?_
      refine l_cons (o_lds tbOk (fun j v hv => (hatx).drop 1 (sub := [.int .u8 (fieldsF (spineF t).1)[i].ty.op, .string (fieldsF (spineF t).1)[i].ty.name, .int .i64 (fieldsF (spineF t).1)[i].ty.n, kvx]) rfl j v hv) rfl rfl rfl rfl rfl rfl ?_)
      have hfm := List.getElem_mem hil
      have hfp := fields_psz hfm
      have hfs := spine_shape t hsh2 _ (fields_mem hfm)
      refine l_cons (o_call fo156 rfl rfl rfl (ih _ 116 _ _ _ (by omega) hfs hyx hlow (by omega)) ?_)
      rintro vc w7 ⟨hc, ew7⟩
      replace hc := hc.repNew hlow
      replace ho := ho.ext hlow hB ew7
      replace h1 := h1.ext hlow hB ew7
      replace h2 := h2.ext hlow hB ew7
      replace hE := hE.trans (Below.mono ew7 hB)
      replace h4 := h4.ext ew7
      replace htl := Rep.ext htl ew7
      replace hrx := Rep.ext hrx ew7
      replace hyx := Rep.ext hyx ew7
      replace hlow := hlow.ext ew7
      replace hB := Nat.le_trans hB ew7.size
      obtain ⟨kvc, rfl, opc, nmc, n64c, hkc⟩ := ty_open hc
      refine l_cons (o_ixO tbOk ho (canTo_get hil) rfl rfl rfl rfl rfl rfl rfl rfl rfl ?_)
      intro ibz iuz hobz hrz hatz
      obtain ⟨szz, kvz, rfl, hyz⟩ := fld_open hrz
      replace hatz : OAt _ _ _ [.string (fieldsF (spineF t).1)[i].name, .int .u8 (fieldsF (spineF t).1)[i].ty.op, .string (fieldsF (spineF t).1)[i].ty.name, .int .i64 (fieldsF (spineF t).1)[i].ty.n, kvz] := hatz
      refine l_p 1 tbOk rfl ?_
      have hnf : Rep.R _ w7 (.agg #[.string (fieldsF (spineF t).1)[i].name, .int .u8 (canonF (fieldsF (spineF t).1)[i].ty).op, .string (canonF (fieldsF (spineF t).1)[i].ty).name, .int .i64 (canonF (fieldsF (spineF t).1)[i].ty).n, kvc]) (canonFld (fieldsF (spineF t).1)[i]) := fld_mk szz hc
      refine l_cons (o_stP (j := i) (k := 1) (us := [.string (fieldsF (spineF t).1)[i].name, .int .u8 (fieldsF (spineF t).1)[i].ty.op, .string (fieldsF (spineF t).1)[i].ty.name, .int .i64 (fieldsF (spineF t).1)[i].ty.n, kvz]) tbOk ho hobz (by omega) (fun q a hq => hatz.cell q a hq) rfl hnf hlow rfl rfl rfl rfl rfl rfl rfl (Rep.one hc) (by decide) rfl rfl ?_)
      intro w8 hw8 sw8 frw8
      replace h1 := h1.stp sw8 (frw8 b1 h1.lt (fun e => d_ho_h1 _ hobz e.symm))
      replace h2 := h2.stp sw8 (frw8 b2 h2.lt (fun e => d_ho_h2 _ hobz e.symm))
      replace hE := hE.trans sw8.below
      replace h4 := h4.stp sw8
      replace htl := Rep.stp htl sw8
      replace hrx := Rep.stp hrx sw8
      replace hyx := Rep.stp hyx sw8
      replace hc := Rep.stp hc sw8
      replace hsub := fun b h => sw8.sub b (hsub b h)
      replace hlow := sw8.low
      replace hB := Nat.le_trans hB sw8.upd.1
      replace ho := hw8
      clear hw8
      refine q2 (x_seq (c_reg ?_))
      refine l_cons (o_ar rfl rfl rfl (IntWalk.i64_in _ (by omega)) rfl rfl ?_)
      refine l_p 1 tbOk rfl (l_nil ?_)
      exact x_round (i + 1) (s5 rfl rfl rfl rfl (get_num rfl (by omega))) ⟨by omega, by rw [← canTo_set hil]; exact ho, h1, h2, h4, htl, hlow, hsub, hE, hB⟩ (by omega)
    refine c_exit (x_seqE (x_seqE (x_blkE (x_seq (q0 (l_p 1 tbOk rfl ?_))))))
    refine l_cons (o_lds tbOk (fun j v hv => h4.cell j v hv) rfl rfl rfl rfl rfl rfl ?_)
    have hall : canTo (fieldsF (spineF t).1) i = (fieldsF (spineF t).1).map canonFld := canTo_all (by omega)
    rw [hall] at ho
    have hml : ((fieldsF (spineF t).1).map canonFld).length = (fieldsF (spineF t).1).length := List.length_map _
    have hfz := ho.froze (by omega)
    replace h1 := h1.less (v := xv) d_ho_h1
    replace h2 := h2.less (v := xv) d_ho_h2
    replace h4 := h4.wk (fun b _ h => less_sub (v := xv) b h)
    replace htl := Rep.wk htl (fun b _ h => less_sub (v := xv) b h)
    replace hlow : Low (Less M2 xv) w6 := fun b h => hlow b h.1
    replace hsub : ∀ b, _ → Less M2 xv b := fun b h => ⟨hsub b h, fun e => by have := (ho.lt b e).1; have := hlow0 b h; omega⟩
    have l_h1 := h1.lt
    have l_h2 := h2.lt
    have hB0 := hB
    refine l_cons (o_call fo165 rfl rfl rfl (join_own _ _ _ _ _ _ 0 hfz htl hlow (canon_small hsz) (spine_small hsz)) ?_)
    rintro vj w9 ⟨hj, ew9⟩
    rw [← canon_row hop] at hj
    replace hj := hj.ge hB0
    have hGl : ∀ c, Plus NoM w6 w9 c → w6.heap.size ≤ c := fun c h => h.elim (fun h => h.elim) (fun h => h.1)
    replace h1 := h1.ext hlow hB ew9
    replace h2 := h2.ext hlow hB ew9
    replace hE := hE.trans (Below.mono ew9 hB)
    replace h4 := h4.ext ew9
    replace htl := Rep.ext htl ew9
    replace hfz := hfz.ext ew9
    replace hlow := hlow.ext ew9
    replace hB := Nat.le_trans hB ew9.size
    generalize Plus NoM w6 w9 = G at hj hGl
    have d_hj_h1 : ∀ x, G x → x ≠ b1 := fun x hx => by have := hGl x hx; omega
    have d_hj_h2 : ∀ x, G x → x ≠ b2 := fun x hx => by have := hGl x hx; omega
    obtain ⟨kvj, usj, Hj, rfl, opj, nmj, n64j, hknj, hrj, hOj, hHj⟩ := oty_open hj
    refine l_cons (o_st tbOk h2.box rfl rfl rfl rfl hj.one rfl rfl ?_)
    intro w10 hw10 qw10 bew10
    have uw10 : UpdB _ _ _ := ⟨qw10, bew10⟩
    have sw10 := uw10.stp h2.inM hlow h2.ge
    have frw10 := qw10.2
    replace h1 := h1.stp sw10 (frw10 b1 h1.lt ne_h1_h2)
    replace hj := hj.stp sw10 (fun x hx => frw10 x (hj.lt x hx).2 (d_hj_h2 x hx))
    replace hE := hE.trans sw10.below
    replace h4 := h4.stp sw10
    replace htl := Rep.stp htl sw10
    replace hfz := hfz.stp sw10
    replace hsub := fun b h => sw10.sub b (hsub b h)
    replace hlow := sw10.low
    replace hB := Nat.le_trans hB sw10.upd.1
    replace h2 : MB w.heap.size _ w10 b2 _ [.int .u8 (canonF t).op, .string (canonF t).name, .int .i64 (canonF t).n, kvj] := ⟨hw10, h2.inM, h2.ge⟩
    refine q1 (c_ret (x_seqR ?_))
    refine x_ret1s tbOk (fun j v hv => h2.cell j v hv) rfl rfl rfl rfl rfl ?_
    exact ⟨hj.mono (fun c hc => .inr (hj.lt c hc)) (fun c hc => hc.elim (fun h => h.elim) id), hE⟩
  have hop : t.op ≠ 11 := by omega
  refine c_skip (x_seq (q0 (l_p 1 tbOk rfl (q1 (c_seq (q0 (l_p 1 tbOk rfl ?_)))))))
  refine l_cons (o_ld tbOk (h1.cell 3 _ rfl) rfl rfl rfl rfl rfl ?_)
  refine l_cons (o_len tbOk hk rfl rfl rfl rfl rfl ?_)
  refine l_p 1 tbOk rfl (q1 (c_blk ?_))
  have d_ho_h1 : ∀ x, (.slice none 0 0 : Value).ownBlock = some x → x ≠ b1 := fun x hx => by simp [Value.ownBlock] at hx
  have d_ho_h2 : ∀ x, (.slice none 0 0 : Value).ownBlock = some x → x ≠ b2 := fun x hx => by simp [Value.ownBlock] at hx
  have d_hO_h1 : ∀ x, NoM x → x ≠ b1 := fun _ h => h.elim
  have d_hO_h2 : ∀ x, NoM x → x ≠ b2 := fun _ h => h.elim
  have dd_ho_hO : ∀ x y, (.slice none 0 0 : Value).ownBlock = some x → NoM y → x ≠ y := fun _ _ _ h => h.elim
  refine c_loop5 (X := Nat) (Y := Value) (Z := Nat → Prop) (U := List (VN 3)) (V := Nat → Prop) (fun i v M1 us F => [(1, .pointer (some ⟨b1, 0, none⟩)), (2, .pointer (some ⟨b2, 0, none⟩)), (6, v), (37, kv), (38, .int .i64 (t.kids.length : Int)), (39, .int .i64 (i : Nat))]) (fun i v M1 us F w' => i ≤ t.kids.length ∧ OwnSl 40 w.heap.size M1 w' v us ∧ OTs 40 w.heap.size w' us ((t.kids.take i).map canonF) F ∧ MB w.heap.size M1 w' b1 40 [.int .u8 t.op, .string t.name, .int .i64 t.n, kv] ∧ MB w.heap.size M1 w' b2 40 [.int .u8 0, .string ⟨#[]⟩, .int .i64 0, .slice none 0 0] ∧ (∀ x, (v : Value).ownBlock = some x → x ≠ b1) ∧ (∀ x, (v : Value).ownBlock = some x → x ≠ b2) ∧ (∀ x, F x → x ≠ b1) ∧ (∀ x, F x → x ≠ b2) ∧ (∀ x y, (v : Value).ownBlock = some x → F y → x ≠ y) ∧ Sl M1 w' kv t.kids ∧ Low M1 w' ∧ (∀ b, M b → M1 b) ∧ Below w.heap.size w w' ∧ w.heap.size ≤ w'.heap.size) (fun i v M1 us F => t.kids.length - i) (0) (.slice none 0 0) ((Rw.Add (Rw.Add M b1) b2)) ([]) (NoM) (s6 rfl rfl rfl rfl rfl rfl) ?_ ?_
  · exact ⟨Nat.zero_le _, own_nil, ots_nil (fun _ h => h.elim), h1, h2, d_ho_h1, d_ho_h2, d_hO_h1, d_hO_h2, dd_ho_hO, hk, hlow, hsub, hE, hB⟩
  rintro i v M1 us F w11 ⟨hi, ho, hO, h1, h2, d_ho_h1, d_ho_h2, d_hO_h1, d_hO_h2, dd_ho_hO, hk, hlow, hsub, hE, hB⟩
  have hul := hO.len
  rw [List.length_map, List.length_take] at hul
  refine q0 (l_p 1 tbOk rfl (q1 (c_seq ?_)))
  refine c_ifP _ rfl (fun c2 => ?_) (fun c2 => ?_)
  · refine c_skip (x_seq (c_seq (c_blk (q0 ?_))))
    have hik : i < t.kids.length := by omega
    have hp1 := psz_take hik
    obtain ⟨kd, hkd⟩ := kid_shape hsh hik
    refine l_cons (o_ixS tbOk hk (List.getElem?_eq_getElem hik) rfl rfl rfl rfl rfl rfl rfl rfl rfl ?_)
    intro ebx eox eux hyx hatx
    obtain ⟨kvx, rfl, opx, nmx, n64x, hkx⟩ := ty_open hyx
    replace hatx : At M1 w11 ebx eox [.int .u8 t.kids[i].op, .string t.kids[i].name, .int .i64 t.kids[i].n, kvx] := hatx
    refine l_cons (o_lds tbOk (fun j v hv => hatx.cell j v hv) rfl rfl rfl rfl rfl rfl ?_)
    refine l_cons (o_new tbOk rfl rfl rfl ?_)
    intro b8 w12 qb8 ew12 hb8
    have nb8 := nM_of hlow qb8
    refine l_cons (o_st tbOk hb8 rfl rfl rfl rfl (Rep.one hyx) rfl rfl ?_)
    intro w13 h8 uw13 bew13
    have ew13 : Ext w11 w13 := ew12.trans (bew13 _ (Nat.le_of_eq qb8.symm))
    replace ho := ho.ext hlow hB ew13
    replace hO := hO.ext hlow hB ew13
    replace h1 := h1.ext hlow hB ew13
    replace h2 := h2.ext hlow hB ew13
    replace hE := hE.trans (Below.mono ew13 hB)
    replace hk := hk.ext ew13
    replace hyx := Rep.ext hyx ew13
    replace hkx := hkx.ext ew13
    replace hatx := hatx.ext ew13
    replace hlow := hlow.ext ew13
    replace hB := Nat.le_trans hB ew13.size
    replace h8 : Box w13 b8 40 [.int .u8 t.kids[i].op, .string t.kids[i].name, .int .i64 t.kids[i].n, kvx] := h8
    replace h8 := h8.at nb8
    refine q1 (c_reg (l_p 1 tbOk rfl ?_))
    refine l_cons (o_lds tbOk (fun j v hv => h8.cell j v hv) rfl rfl rfl rfl rfl rfl ?_)
    have l_h1 := h1.lt
    have l_h2 := h2.lt
    have l_ho := ho.lt
    have l_hO := hO.lt
    have hB0 := hB
    refine l_cons (o_call fo156 rfl rfl rfl (ih _ _ _ _ _ (by omega) hkd hyx hlow (by omega)) ?_)
    rintro vc w14 ⟨hc, ew14⟩
    replace hc := hc.ge hB0
    have hGl : ∀ c, Plus NoM w13 w14 c → w13.heap.size ≤ c := fun c h => h.elim (fun h => h.elim) (fun h => h.1)
    replace ho := ho.ext hlow hB ew14
    replace hO := hO.ext hlow hB ew14
    replace h1 := h1.ext hlow hB ew14
    replace h2 := h2.ext hlow hB ew14
    replace hE := hE.trans (Below.mono ew14 hB)
    replace hk := hk.ext ew14
    replace hyx := Rep.ext hyx ew14
    replace hkx := hkx.ext ew14
    replace hatx := hatx.ext ew14
    replace h8 := h8.ext ew14
    replace hlow := hlow.ext ew14
    replace hB := Nat.le_trans hB ew14.size
    generalize Plus NoM w13 w14 = G at hc hGl
    have d_hc_h1 : ∀ x, G x → x ≠ b1 := fun x hx => by have := hGl x hx; omega
    have d_hc_h2 : ∀ x, G x → x ≠ b2 := fun x hx => by have := hGl x hx; omega
    have dd_ho_hc : ∀ x y, (v : Value).ownBlock = some x → G y → x ≠ y := fun x y hx hy => by have := hGl y hy; have := (l_ho x hx).2; omega
    have dd_hc_hO : ∀ c, G c → ¬ F c := fun c hg hf => by have := hGl c hg; have := (l_hO c hf).2; omega
    refine l_cons (o_bs tbOk rfl rfl rfl rfl rfl rfl rfl (sz1 hc.size) rfl rfl rfl ?_)
    intro bw15 w15 qbw15 ew15 hbw15
    have nbw15 := nM_of hlow qbw15
    replace ho := ho.ext hlow hB ew15
    replace hO := hO.ext hlow hB ew15
    replace h1 := h1.ext hlow hB ew15
    replace h2 := h2.ext hlow hB ew15
    replace hc := hc.ext hlow hB ew15
    replace hE := hE.trans (Below.mono ew15 hB)
    replace hk := hk.ext ew15
    replace hyx := Rep.ext hyx ew15
    replace hkx := hkx.ext ew15
    replace hatx := hatx.ext ew15
    replace h8 := h8.ext ew15
    replace hlow := hlow.ext ew15
    replace hB := Nat.le_trans hB ew15.size
    refine l_cons (o_app1 tbOk ho hbw15 nbw15 hc.vn hlow hB rfl rfl rfl rfl rfl rfl rfl (by omega) (by show (_ + _) * 56 ≤ _; omega) rfl rfl ?_)
    intro vw16 w16 Mw16 hw16 sw16 frw16 blw16
    have zd_ho_h1 := d_ho_h1
    replace d_ho_h1 : ∀ x, (vw16 : Value).ownBlock = some x → x ≠ b1 := fun x hx => (blw16 x hx).elim (d_ho_h1 x) (fun h e => by have := h1.lt; omega)
    have zd_ho_h2 := d_ho_h2
    replace d_ho_h2 : ∀ x, (vw16 : Value).ownBlock = some x → x ≠ b2 := fun x hx => (blw16 x hx).elim (d_ho_h2 x) (fun h e => by have := h2.lt; omega)
    have zdd_ho_hO := dd_ho_hO
    replace dd_ho_hO : ∀ x y, (vw16 : Value).ownBlock = some x → F y → x ≠ y := fun x y hx hy => (blw16 x hx).elim (fun h => dd_ho_hO x y h hy) (fun h e => by have := (hO.lt y hy).2; omega)
    have zdd_ho_hc := dd_ho_hc
    replace dd_ho_hc : ∀ x y, (vw16 : Value).ownBlock = some x → G y → x ≠ y := fun x y hx hy => (blw16 x hx).elim (fun h => dd_ho_hc x y h hy) (fun h e => by have := (hc.lt y hy).2; omega)
    replace hO := hO.stp sw16 (fun x hx => frw16 x (hO.lt x hx).2 (fun e => zdd_ho_hO x x e.symm hx rfl))
    replace h1 := h1.stp sw16 (frw16 b1 h1.lt (fun e => zd_ho_h1 _ e.symm rfl))
    replace h2 := h2.stp sw16 (frw16 b2 h2.lt (fun e => zd_ho_h2 _ e.symm rfl))
    replace hc := hc.stp sw16 (fun x hx => frw16 x (hc.lt x hx).2 (fun e => zdd_ho_hc x x e.symm hx rfl))
    replace hE := hE.trans sw16.below
    replace hk := hk.stp sw16
    replace hyx := Rep.stp hyx sw16
    replace hkx := hkx.stp sw16
    replace hatx := hatx.stp sw16
    replace h8 := h8.stp sw16
    replace hsub := fun b h => sw16.sub b (hsub b h)
    replace hlow := sw16.low
    replace hB := Nat.le_trans hB sw16.upd.1
    replace ho := hw16
    clear hw16
    refine l_p 1 tbOk rfl (q2 (x_seq (c_reg ?_)))
    refine l_cons (o_ar rfl rfl rfl (IntWalk.i64_in _ (by omega)) rfl rfl ?_)
    refine l_p 1 tbOk rfl (l_nil ?_)
    have hO2 := hO.app hc dd_hc_hO
    exact x_round5 (i + 1) (vw16) (Mw16) (us ++ [⟨vc⟩]) (fun c => F c ∨ G c) (s6 rfl rfl rfl rfl rfl (get_num rfl (by omega))) ⟨by omega, ho, by rw [List.take_succ_eq_append_getElem hik, List.map_append]; exact hO2, h1, h2, d_ho_h1, d_ho_h2, (fun x hx => hx.elim (d_hO_h1 x) (d_hc_h1 x)), (fun x hx => hx.elim (d_hO_h2 x) (d_hc_h2 x)), (fun x y hx hy => hy.elim (dd_ho_hO x y hx) (dd_ho_hc x y hx)), hk, hlow, hsub, hE, hB⟩ (by omega)
  refine c_exit (x_seqE (x_seqE (x_blkE (x_seq (q0 (l_p 2 tbOk rfl ?_))))))
  obtain rfl : i = t.kids.length := by omega
  rw [List.take_of_length_le (Nat.le_refl _)] at hO
  obtain ⟨av, cv, rfl, hcv⟩ := ho.val
  refine l_cons (o_st tbOk h1.box rfl rfl rfl rfl (by simp [Value.cells, Value.oneCell']) rfl rfl ?_)
  intro w17 hw17 qw17 bew17
  have uw17 : UpdB _ _ _ := ⟨qw17, bew17⟩
  have sw17 := uw17.stp h1.inM hlow h1.ge
  have frw17 := qw17.2
  replace ho := ho.stp sw17 (fun x hx => frw17 x (ho.lt x hx).2 (d_ho_h1 x hx))
  replace hO := hO.stp sw17 (fun x hx => frw17 x (hO.lt x hx).2 (d_hO_h1 x hx))
  replace h2 := h2.stp sw17 (frw17 b2 h2.lt ne_h1_h2.symm)
  replace hE := hE.trans sw17.below
  replace hk := hk.stp sw17
  replace hsub := fun b h => sw17.sub b (hsub b h)
  replace hlow := sw17.low
  replace hB := Nat.le_trans hB sw17.upd.1
  replace h1 : MB w.heap.size _ w17 b1 _ [.int .u8 t.op, .string t.name, .int .i64 t.n, .slice av us.length cv] := ⟨hw17, h1.inM, h1.ge⟩
  refine q1 (q0 ?_)
  refine l_cons (o_lds tbOk (fun j v hv => h1.cell j v hv) rfl rfl rfl rfl rfl rfl ?_)
  refine l_cons (o_st tbOk h2.box rfl rfl rfl rfl (by intro u hu; simp [Value.cells] at hu; rcases hu with rfl | rfl | rfl | rfl <;> rfl) rfl rfl ?_)
  intro w18 hw18 qw18 bew18
  have uw18 : UpdB _ _ _ := ⟨qw18, bew18⟩
  have sw18 := uw18.stp h2.inM hlow h2.ge
  have frw18 := qw18.2
  replace ho := ho.stp sw18 (fun x hx => frw18 x (ho.lt x hx).2 (d_ho_h2 x hx))
  replace hO := hO.stp sw18 (fun x hx => frw18 x (hO.lt x hx).2 (d_hO_h2 x hx))
  replace h1 := h1.stp sw18 (frw18 b1 h1.lt ne_h1_h2)
  replace hE := hE.trans sw18.below
  replace hk := hk.stp sw18
  replace hsub := fun b h => sw18.sub b (hsub b h)
  replace hlow := sw18.low
  replace hB := Nat.le_trans hB sw18.upd.1
  replace h2 : MB w.heap.size _ w18 b2 _ [.int .u8 t.op, .string t.name, .int .i64 t.n, .slice av us.length cv] := ⟨hw18, h2.inM, h2.ge⟩
  refine q1 (c_ret ?_)
  refine x_ret1s tbOk (fun j v hv => h2.cell j v hv) rfl rfl rfl rfl rfl ?_
  have hfin := oty_fin op nm n64 (by simp; omega) ho hO dd_ho_hO
  rw [← canon_other hop] at hfin
  exact ⟨hfin, hE⟩

theorem canon_all (n : Nat) (t : Ty) (c : UInt8) (M : Nat → Prop) (w : World) (v : Value) (hn : psz t ≤ n) (hsh : shapeF t c = true) (ht : Rep.R M w v t) (hlow : Low M w) (hsz : psz t ≤ 2000000) :
    Calls Try.prog 156 #[v] w (Ret fun r w' => Rep.R M w' r (canonF t) ∧ Ext w w') := (canon_own n t c M w v hn hsh ht hlow hsz).mono (Ret.mono fun r w' h => ⟨h.1.repNew hlow, h.2⟩)

/-- rowanref03.Canon: the canonical form. -/
theorem refCanon_all (n : Nat) : ∀ (t : Ty) (c : UInt8) (M : Nat → Prop) (w : World) (v : Value), psz t ≤ n → shapeF t c = true → Rep.R M w v t → Low M w → psz t ≤ 2000000 →
    Calls Try.prog 68 #[v] w (Ret fun r w' => Rep.R M w' r (canonF t) ∧ Ext w w') := by
  induction n with
  | zero => intro t c M w v h; have := psz_pos t; omega
  | succ n ih =>
  intro t c M w v hn hsh ht hlow0 hsz
  have hlow := hlow0
  have hB : w.heap.size ≤ w.heap.size := Nat.le_refl _
  have hE : Below w.heap.size w w := Below.refl _ _
  have hsub : ∀ b, M b → M b := fun _ h => h
  obtain ⟨kv, rfl, op, nm, n64, hk⟩ := ty_open ht
  have hps := psz_eq t
  have hkl := len_psz t.kids
  refine c_enter (n := 61) Try.func68 rfl rfl rfl ?_
  refine q0 ?_
  refine l_cons (o_box rfl rfl rfl ?_)
  intro b1 w1 hb_b1 ew1 h1
  replace h1 : Box _ b1 40 [.int .u8 t.op, .string t.name, .int .i64 t.n, kv] := h1
  replace h1 := h1.at (nM_of hlow hb_b1)
  replace hE := hE.trans (Below.mono ew1 hB)
  replace ht := Rep.ext ht ew1
  replace hk := hk.ext ew1
  replace hlow := hlow.ext ew1
  replace hB := Nat.le_trans hB ew1.size
  refine l_cons (o_new tbOk rfl rfl rfl ?_)
  intro b2 w2 qb2 ew2 hb2
  have sw2 := Stp.add ew2 hlow hB (Nat.le_of_eq qb2.symm) hb2.lt
  have h2 : MB w.heap.size (Rw.Add M b2) w2 b2 40 [.int .u8 0, .string ⟨#[]⟩, .int .i64 0, .slice none 0 0] := MB.mk' hb2 qb2 hB
  replace hE := hE.trans sw2.below
  replace ht := Rep.stp ht sw2
  replace hk := hk.stp sw2
  replace h1 := h1.stp sw2
  replace hsub := fun b h => sw2.sub b (hsub b h)
  replace hlow := sw2.low
  replace hB := Nat.le_trans hB sw2.upd.1
  refine q1 (c_seq (q0 (l_p 1 tbOk rfl ?_)))
  refine l_cons (o_ld tbOk (h1.cell 0 _ rfl) rfl rfl rfl rfl rfl ?_)
  refine l_p 1 tbOk rfl (q1 ?_)
  refine c_ifP _ rfl (fun hc0 => ?_) (fun hc0 => ?_)
  · have hop : t.op = 11 := by omega
    refine q0 ?_
    refine l_cons (o_lds tbOk (fun j v hv => h1.cell j v hv) rfl rfl rfl rfl rfl rfl ?_)
    have hsh2 := shape_114 hsh hop
    have hsl := spine_len t
    have hfl0 := fieldsF_len (spineF t).1
    have lh2 := h2.lt
    refine l_cons (o_call fo21 rfl rfl rfl (fields_own t _ _ _ hsh2 ht hlow hsz) ?_)
    rintro _ w3 ⟨xv, tv, M2, rfl, ho, htl, sw3⟩
    have blw3 := sw3.below
    have d_ho_h2 : ∀ x, (xv : Value).ownBlock = some x → x ≠ b2 := fun x hx => by have := (ho.lt x hx).1; omega
    replace sw3 := sw3.mono hB
    replace ho := ho.mono hB
    replace h2 := h2.stp sw3 (blw3.block b2 lh2)
    replace hE := hE.trans sw3.below
    replace ht := Rep.stp ht sw3
    replace hk := hk.stp sw3
    replace h1 := h1.stp sw3
    replace hsub := fun b h => sw3.sub b (hsub b h)
    replace hlow := sw3.low
    replace hB := Nat.le_trans hB sw3.upd.1
    obtain ⟨kve, rfl, ope, nme, n64e, hke⟩ := ty_open htl
    refine l_p 3 tbOk rfl ?_
    refine l_cons (o_new tbOk rfl rfl rfl ?_)
    intro b4 w4 qb4 ew4 hb4
    have nb4 := nM_of hlow qb4
    refine l_p 1 tbOk rfl ?_
    refine l_cons (o_st tbOk hb4 rfl rfl rfl rfl (Rep.one htl) rfl rfl ?_)
    intro w5 h4 uw5 bew5
    have ew5 : Ext w3 w5 := ew4.trans (bew5 _ (Nat.le_of_eq qb4.symm))
    replace h2 := h2.ext hlow hB ew5
    replace ho := ho.ext hlow hB ew5
    replace hE := hE.trans (Below.mono ew5 hB)
    replace ht := Rep.ext ht ew5
    replace hk := hk.ext ew5
    replace h1 := h1.ext ew5
    replace htl := Rep.ext htl ew5
    replace hke := hke.ext ew5
    replace hlow := hlow.ext ew5
    replace hB := Nat.le_trans hB ew5.size
    replace h4 : Box w5 b4 40 [.int .u8 (spineF t).2.op, .string (spineF t).2.name, .int .i64 (spineF t).2.n, kve] := h4
    replace h4 := h4.at nb4
    refine q1 (c_seq (q0 (l_p 1 tbOk rfl (q1 (c_blk ?_)))))
    refine c_loop (X := Nat) (fun i => [(2, .pointer (some ⟨b2, 0, none⟩)), (3, xv), (4, .pointer (some ⟨b4, 0, none⟩)), (5, .int .i64 (i : Nat))]) (fun i w' => i ≤ (fieldsF (spineF t).1).length ∧ OwnSl 56 w.heap.size M2 w' xv (canTo (fieldsF (spineF t).1) i) ∧ MB w.heap.size M2 w' b2 40 [.int .u8 0, .string ⟨#[]⟩, .int .i64 0, .slice none 0 0] ∧ At M2 w' b4 0 [.int .u8 (spineF t).2.op, .string (spineF t).2.name, .int .i64 (spineF t).2.n, kve] ∧ Rep.R M2 w' (.agg #[.int .u8 (spineF t).2.op, .string (spineF t).2.name, .int .i64 (spineF t).2.n, kve]) (spineF t).2 ∧ Low M2 w' ∧ (∀ b, M b → M2 b) ∧ Below w.heap.size w w' ∧ w.heap.size ≤ w'.heap.size) (fun i => (fieldsF (spineF t).1).length - i) (0) (s4 rfl rfl rfl (get_num rfl rfl)) ?_ ?_
    · refine ⟨Nat.zero_le _, ?_, h2, h4, htl, hlow, hsub, hE, hB⟩
      rw [canTo_zero]; exact ho
    clear hsub
    rintro i w6 ⟨hi, ho, h2, h4, htl, hlow, hsub, hE, hB⟩
    have hcl := canTo_len (fieldsF (spineF t).1) i
    refine c_seq (q0 (l_p 2 tbOk rfl ?_))
    refine l_cons (o_lenO tbOk ho rfl rfl rfl rfl rfl ?_)
    refine l_p 1 tbOk rfl (q1 ?_)
    refine c_ifP _ rfl (fun c1 => ?_) (fun c1 => ?_)
    · have hil : i < (fieldsF (spineF t).1).length := by omega
      refine c_skip (x_seq (c_seq (c_blk (c_reg (l_p 4 tbOk rfl ?_)))))
      refine l_cons (o_ixO tbOk ho (canTo_get hil) rfl rfl rfl rfl rfl rfl rfl rfl rfl ?_)
      intro ibx iux hobx hrx hatx
      obtain ⟨szx, kvx, rfl, hyx⟩ := fld_open hrx
      replace hatx : At NoM w6 ibx _ [.string (fieldsF (spineF t).1)[i].name, .int .u8 (fieldsF (spineF t).1)[i].ty.op, .string (fieldsF (spineF t).1)[i].ty.name, .int .i64 (fieldsF (spineF t).1)[i].ty.n, kvx] := ⟨(ho.lt _ hobx).2, fun h => h, hatx.cell⟩
      refine l_p 1 tbOk rfl ?_
      refine l_cons (o_lds tbOk (fun j v hv => (hatx).drop 1 (sub := [.int .u8 (fieldsF (spineF t).1)[i].ty.op, .string (fieldsF (spineF t).1)[i].ty.name, .int .i64 (fieldsF (spineF t).1)[i].ty.n, kvx]) rfl j v hv) rfl rfl rfl rfl rfl rfl ?_)
      have hfm := List.getElem_mem hil
      have hfp := fields_psz hfm
      have hfs := spine_shape t hsh2 _ (fields_mem hfm)
      refine l_cons (o_call fo68 rfl rfl rfl (ih _ 116 _ _ _ (by omega) hfs hyx hlow (by omega)) ?_)
      rintro vc w7 ⟨hc, ew7⟩
      replace ho := ho.ext hlow hB ew7
      replace h2 := h2.ext hlow hB ew7
      replace hE := hE.trans (Below.mono ew7 hB)
      replace h4 := h4.ext ew7
      replace htl := Rep.ext htl ew7
      replace hrx := Rep.ext hrx ew7
      replace hyx := Rep.ext hyx ew7
      replace hlow := hlow.ext ew7
      replace hB := Nat.le_trans hB ew7.size
      obtain ⟨kvc, rfl, opc, nmc, n64c, hkc⟩ := ty_open hc
      refine l_cons (o_ixO tbOk ho (canTo_get hil) rfl rfl rfl rfl rfl rfl rfl rfl rfl ?_)
      intro ibz iuz hobz hrz hatz
      obtain ⟨szz, kvz, rfl, hyz⟩ := fld_open hrz
      replace hatz : OAt _ _ _ [.string (fieldsF (spineF t).1)[i].name, .int .u8 (fieldsF (spineF t).1)[i].ty.op, .string (fieldsF (spineF t).1)[i].ty.name, .int .i64 (fieldsF (spineF t).1)[i].ty.n, kvz] := hatz
      refine l_p 1 tbOk rfl ?_
      have hnf : Rep.R _ w7 (.agg #[.string (fieldsF (spineF t).1)[i].name, .int .u8 (canonF (fieldsF (spineF t).1)[i].ty).op, .string (canonF (fieldsF (spineF t).1)[i].ty).name, .int .i64 (canonF (fieldsF (spineF t).1)[i].ty).n, kvc]) (canonFld (fieldsF (spineF t).1)[i]) := fld_mk szz hc
      refine l_cons (o_stP (j := i) (k := 1) (us := [.string (fieldsF (spineF t).1)[i].name, .int .u8 (fieldsF (spineF t).1)[i].ty.op, .string (fieldsF (spineF t).1)[i].ty.name, .int .i64 (fieldsF (spineF t).1)[i].ty.n, kvz]) tbOk ho hobz (by omega) (fun q a hq => hatz.cell q a hq) rfl hnf hlow rfl rfl rfl rfl rfl rfl rfl (Rep.one hc) (by decide) rfl rfl ?_)
      intro w8 hw8 sw8 frw8
      replace h2 := h2.stp sw8 (frw8 b2 h2.lt (fun e => d_ho_h2 _ hobz e.symm))
      replace hE := hE.trans sw8.below
      replace h4 := h4.stp sw8
      replace htl := Rep.stp htl sw8
      replace hrx := Rep.stp hrx sw8
      replace hyx := Rep.stp hyx sw8
      replace hc := Rep.stp hc sw8
      replace hsub := fun b h => sw8.sub b (hsub b h)
      replace hlow := sw8.low
      replace hB := Nat.le_trans hB sw8.upd.1
      replace ho := hw8
      clear hw8
      refine q2 (x_seq (c_reg (l_p 1 tbOk rfl ?_)))
      refine l_cons (o_ar rfl rfl rfl (IntWalk.i64_in _ (by omega)) rfl rfl ?_)
      refine l_p 1 tbOk rfl (l_nil ?_)
      exact x_round (i + 1) (s4 rfl rfl rfl (get_num rfl (by omega))) ⟨by omega, by rw [← canTo_set hil]; exact ho, h2, h4, htl, hlow, hsub, hE, hB⟩ (by omega)
    refine c_exit (x_seqE (x_seqE (x_blkE (x_seq (q0 (l_p 1 tbOk rfl ?_))))))
    refine l_cons (o_lds tbOk (fun j v hv => h4.cell j v hv) rfl rfl rfl rfl rfl rfl ?_)
    have hall : canTo (fieldsF (spineF t).1) i = (fieldsF (spineF t).1).map canonFld := canTo_all (by omega)
    rw [hall] at ho
    have hml : ((fieldsF (spineF t).1).map canonFld).length = (fieldsF (spineF t).1).length := List.length_map _
    have hfz := ho.froze (by omega)
    replace h2 := h2.less (v := xv) d_ho_h2
    replace h4 := h4.wk (fun b _ h => less_sub (v := xv) b h)
    replace htl := Rep.wk htl (fun b _ h => less_sub (v := xv) b h)
    replace hlow : Low (Less M2 xv) w6 := fun b h => hlow b h.1
    replace hsub : ∀ b, _ → Less M2 xv b := fun b h => ⟨hsub b h, fun e => by have := (ho.lt b e).1; have := hlow0 b h; omega⟩
    refine l_cons (o_call fo98 rfl rfl rfl (of_spec _ _ _ _ _ _ hfz htl hlow) ?_)
    rintro vj w9 ⟨hj, ew9⟩
    rw [← canon_row hop] at hj
    replace h2 := h2.ext hlow hB ew9
    replace hE := hE.trans (Below.mono ew9 hB)
    replace h4 := h4.ext ew9
    replace htl := Rep.ext htl ew9
    replace hfz := hfz.ext ew9
    replace hlow := hlow.ext ew9
    replace hB := Nat.le_trans hB ew9.size
    obtain ⟨kvj, rfl, opj, nmj, n64j, hkj⟩ := ty_open hj
    refine l_cons (o_st tbOk h2.box rfl rfl rfl rfl (Rep.one hj) rfl rfl ?_)
    intro w10 hw10 qw10 bew10
    have uw10 : UpdB _ _ _ := ⟨qw10, bew10⟩
    have sw10 := uw10.stp h2.inM hlow h2.ge
    have frw10 := qw10.2
    replace hE := hE.trans sw10.below
    replace h4 := h4.stp sw10
    replace htl := Rep.stp htl sw10
    replace hfz := hfz.stp sw10
    replace hj := Rep.stp hj sw10
    replace hsub := fun b h => sw10.sub b (hsub b h)
    replace hlow := sw10.low
    replace hB := Nat.le_trans hB sw10.upd.1
    replace h2 : MB w.heap.size _ w10 b2 _ [.int .u8 (canonF t).op, .string (canonF t).name, .int .i64 (canonF t).n, kvj] := ⟨hw10, h2.inM, h2.ge⟩
    refine q1 (c_ret (x_seqR ?_))
    refine x_ret1s tbOk (fun j v hv => h2.cell j v hv) rfl rfl rfl rfl rfl ?_
    exact ⟨Rep.wk hj (fun b _ h => hsub b h), hE⟩
  have hop : t.op ≠ 11 := by omega
  refine c_skip (x_seq (q0 (l_p 1 tbOk rfl ?_)))
  refine l_cons (o_ld tbOk (h1.cell 0 _ rfl) rfl rfl rfl rfl rfl ?_)
  refine l_p 1 tbOk rfl ?_
  refine l_cons (o_ld tbOk (h1.cell 1 _ rfl) rfl rfl rfl rfl rfl ?_)
  refine l_p 1 tbOk rfl ?_
  refine l_cons (o_ld tbOk (h1.cell 2 _ rfl) rfl rfl rfl rfl rfl ?_)
  refine l_cons (o_build (cells := [.int .u8 t.op, .string t.name, .int .i64 t.n, .slice none 0 0]) bd40 rfl rfl rfl rfl rfl ?_)
  refine l_cons (o_new tbOk rfl rfl rfl ?_)
  intro b6 w11 qb6 ew11 hb6
  have ne_h2_h6 : b2 ≠ b6 := by have := h2.lt; omega
  have sw11 := Stp.add ew11 hlow hB (Nat.le_of_eq qb6.symm) hb6.lt
  have h6 : MB w.heap.size (Rw.Add (Rw.Add M b2) b6) w11 b6 40 [.int .u8 0, .string ⟨#[]⟩, .int .i64 0, .slice none 0 0] := MB.mk' hb6 qb6 hB
  replace h2 := h2.stp sw11 (ew11.block b2 h2.lt)
  replace hE := hE.trans sw11.below
  replace ht := Rep.stp ht sw11
  replace hk := hk.stp sw11
  replace h1 := h1.stp sw11
  replace hsub := fun b h => sw11.sub b (hsub b h)
  replace hlow := sw11.low
  replace hB := Nat.le_trans hB sw11.upd.1
  refine l_cons (o_st tbOk h6.box rfl rfl rfl rfl (by simp [Value.cells, Value.oneCell']) rfl rfl ?_)
  intro w12 hw12 qw12 bew12
  have uw12 : UpdB _ _ _ := ⟨qw12, bew12⟩
  have sw12 := uw12.stp h6.inM hlow h6.ge
  have frw12 := qw12.2
  replace h2 := h2.stp sw12 (frw12 b2 h2.lt ne_h2_h6)
  replace hE := hE.trans sw12.below
  replace ht := Rep.stp ht sw12
  replace hk := hk.stp sw12
  replace h1 := h1.stp sw12
  replace hsub := fun b h => sw12.sub b (hsub b h)
  replace hlow := sw12.low
  replace hB := Nat.le_trans hB sw12.upd.1
  replace h6 : MB w.heap.size _ w12 b6 _ [.int .u8 t.op, .string t.name, .int .i64 t.n, .slice none 0 0] := ⟨hw12, h6.inM, h6.ge⟩
  refine q1 (c_seq (q0 (l_p 1 tbOk rfl (q1 (c_blk ?_)))))
  have d_ho_h2 : ∀ x, (.slice none 0 0 : Value).ownBlock = some x → x ≠ b2 := fun x hx => by simp [Value.ownBlock] at hx
  have d_ho_h6 : ∀ x, (.slice none 0 0 : Value).ownBlock = some x → x ≠ b6 := fun x hx => by simp [Value.ownBlock] at hx
  refine c_loop3 (X := Nat) (Y := Value) (Z := Nat → Prop) (fun i v M1 => [(1, .pointer (some ⟨b1, 0, none⟩)), (2, .pointer (some ⟨b2, 0, none⟩)), (6, .pointer (some ⟨b6, 0, none⟩)), (7, .int .i64 (i : Nat))]) (fun i v M1 w' => i ≤ t.kids.length ∧ OwnSl 40 w.heap.size M1 w' v ((t.kids.take i).map canonF) ∧ MB w.heap.size M1 w' b2 40 [.int .u8 0, .string ⟨#[]⟩, .int .i64 0, .slice none 0 0] ∧ MB w.heap.size M1 w' b6 40 [.int .u8 t.op, .string t.name, .int .i64 t.n, v] ∧ At M1 w' b1 0 [.int .u8 t.op, .string t.name, .int .i64 t.n, kv] ∧ (∀ x, (v : Value).ownBlock = some x → x ≠ b2) ∧ (∀ x, (v : Value).ownBlock = some x → x ≠ b6) ∧ Sl M1 w' kv t.kids ∧ Low M1 w' ∧ (∀ b, M b → M1 b) ∧ Below w.heap.size w w' ∧ w.heap.size ≤ w'.heap.size) (fun i v M1 => t.kids.length - i) (0) (.slice none 0 0) ((Rw.Add (Rw.Add M b2) b6)) (s4 rfl rfl rfl rfl) ?_ ?_
  · exact ⟨Nat.zero_le _, own_nil, h2, h6, h1, d_ho_h2, d_ho_h6, hk, hlow, hsub, hE, hB⟩
  rintro i v M1 w13 ⟨hi, ho, h2, h6, h1, d_ho_h2, d_ho_h6, hk, hlow, hsub, hE, hB⟩
  refine c_seq (q0 (l_p 2 tbOk rfl ?_))
  refine l_cons (o_ld tbOk (h1.cell 3 _ rfl) rfl rfl rfl rfl rfl ?_)
  refine l_cons (o_len tbOk hk rfl rfl rfl rfl rfl ?_)
  refine l_p 1 tbOk rfl (q1 ?_)
  refine c_ifP _ rfl (fun c2 => ?_) (fun c2 => ?_)
  · refine c_skip (x_seq (c_seq (c_blk ?_)))
    refine a_beg Ext rfl ?_
    intro w14 ew14
    replace ho := ho.ext hlow hB ew14
    replace h2 := h2.ext hlow hB ew14
    replace h6 := h6.ext hlow hB ew14
    replace hE := hE.trans (Below.mono ew14 hB)
    replace h1 := h1.ext ew14
    replace hk := hk.ext ew14
    replace hlow := hlow.ext ew14
    replace hB := Nat.le_trans hB ew14.size
    have hS : Ext w14 w14 := ext_refl _
    have D_h2 := h2.box
    have D_h6 := h6.box
    have D_h1 := h1
    have D_hk := hk
    refine a_p 0 tbOk rfl rfl rfl rfl (by kernel_rfl) (fun _ _ _ h => h) hS ?_
    refine a_ld 1 tbOk (fun _ hs => (D_h6.ext hs).cell 3 _ rfl) rfl rfl rfl rfl rfl rfl (by kernel_rfl) (fun _ _ _ h => h) hS ?_
    refine a_p 2 tbOk rfl rfl rfl rfl (by kernel_rfl) (fun _ _ _ h => h) hS ?_
    refine a_ld 3 tbOk (fun _ hs => (D_h1.ext hs).cell 3 _ rfl) rfl rfl rfl rfl rfl rfl (by kernel_rfl) (fun _ _ _ h => h) hS ?_
    refine a_p 4 tbOk rfl rfl rfl rfl (by kernel_rfl) (fun _ _ _ h => h) hS ?_
    have hik : i < t.kids.length := by omega
    have hp1 := psz_take hik
    obtain ⟨kd, hkd⟩ := kid_shape hsh hik
    refine a_ixS 5 tbOk D_hk (List.getElem?_eq_getElem hik) rfl rfl rfl rfl rfl rfl rfl rfl rfl rfl (by kernel_rfl) (fun _ _ _ _ h => h) hS ?_
    intro ebx eox eux hyx hatx
    obtain ⟨kvx, rfl, opx, nmx, n64x, hkx⟩ := ty_open hyx
    replace hatx : At M1 w14 ebx eox [.int .u8 t.kids[i].op, .string t.kids[i].name, .int .i64 t.kids[i].n, kvx] := hatx
    refine a_lds 6 tbOk (fun _ hs j v hv => (hatx.ext hs).cell j v hv) rfl rfl rfl rfl rfl rfl rfl (by kernel_rfl) (fun _ _ _ h => h) hS ?_
    refine a_one 7 rfl (by kernel_rfl) (o_call fo68 rfl rfl rfl (ih _ _ _ _ _ (by omega) hkd hyx hlow (by omega)) ?_)
    rintro vc w15 ⟨hc, ew15⟩
    replace hS := hS.then ew15
    replace ho := ho.ext hlow hB ew15
    replace h2 := h2.ext hlow hB ew15
    replace h6 := h6.ext hlow hB ew15
    replace hE := hE.trans (Below.mono ew15 hB)
    replace h1 := h1.ext ew15
    replace hk := hk.ext ew15
    replace hyx := Rep.ext hyx ew15
    replace hkx := hkx.ext ew15
    replace hatx := hatx.ext ew15
    replace hlow := hlow.ext ew15
    replace hB := Nat.le_trans hB ew15.size
    refine ⟨hS, ?_⟩
    refine a_one 8 rfl (by kernel_rfl) (o_bs tbOk rfl rfl rfl rfl rfl rfl rfl (sz1 (Rep.size hc)) rfl rfl rfl ?_)
    intro bw16 w16 qbw16 ew16 hbw16
    have nbw16 := nM_of hlow qbw16
    replace hS := hS.then ew16
    replace ho := ho.ext hlow hB ew16
    replace h2 := h2.ext hlow hB ew16
    replace h6 := h6.ext hlow hB ew16
    replace hE := hE.trans (Below.mono ew16 hB)
    replace h1 := h1.ext ew16
    replace hk := hk.ext ew16
    replace hyx := Rep.ext hyx ew16
    replace hkx := hkx.ext ew16
    replace hatx := hatx.ext ew16
    replace hc := Rep.ext hc ew16
    replace hlow := hlow.ext ew16
    replace hB := Nat.le_trans hB ew16.size
    refine ⟨hS, ?_⟩
    refine a_barS Ext 9 rfl (by kernel_rfl) (by kernel_rfl) (o_app1 tbOk ho hbw16 nbw16 hc hlow hB rfl rfl rfl rfl rfl rfl rfl (by simp; omega) (by show (_ + _) * 56 ≤ _; simp; omega) rfl rfl ?_)
    intro vw17 w17 Mw17 hw17 sw17 frw17 blw17
    have zd_ho_h2 := d_ho_h2
    replace d_ho_h2 : ∀ x, (vw17 : Value).ownBlock = some x → x ≠ b2 := fun x hx => (blw17 x hx).elim (d_ho_h2 x) (fun h e => by have := h2.lt; omega)
    have zd_ho_h6 := d_ho_h6
    replace d_ho_h6 : ∀ x, (vw17 : Value).ownBlock = some x → x ≠ b6 := fun x hx => (blw17 x hx).elim (d_ho_h6 x) (fun h e => by have := h6.lt; omega)
    replace h2 := h2.stp sw17 (frw17 b2 h2.lt (fun e => zd_ho_h2 _ e.symm rfl))
    replace h6 := h6.stp sw17 (frw17 b6 h6.lt (fun e => zd_ho_h6 _ e.symm rfl))
    replace hE := hE.trans sw17.below
    replace h1 := h1.stp sw17
    replace hk := hk.stp sw17
    replace hyx := Rep.stp hyx sw17
    replace hkx := hkx.stp sw17
    replace hatx := hatx.stp sw17
    replace hc := Rep.stp hc sw17
    replace hsub := fun b h => sw17.sub b (hsub b h)
    replace hlow := sw17.low
    replace hB := Nat.le_trans hB sw17.upd.1
    replace hS : Ext w17 w17 := ext_refl _
    replace ho := hw17
    clear hw17
    have D_h2 := h2.box
    have D_h6 := h6.box
    have D_h1 := h1
    have D_hk := hk
    have D_hkx := hkx
    have D_hatx := hatx
    refine a_p 10 tbOk rfl rfl rfl rfl (by kernel_rfl) (fun _ _ _ h => h) hS ?_
    obtain ⟨av6, cv6, rfl, _⟩ := ho.val
    refine a_barS Ext 11 rfl (by kernel_rfl) (by kernel_rfl) (o_st tbOk h6.box rfl rfl rfl rfl (by simp [Value.cells, Value.oneCell']) rfl rfl ?_)
    intro w18 hw18 qw18 bew18
    have uw18 : UpdB _ _ _ := ⟨qw18, bew18⟩
    have sw18 := uw18.stp h6.inM hlow h6.ge
    have frw18 := qw18.2
    replace ho := ho.stp sw18 (fun x hx => frw18 x (ho.lt x hx).2 (d_ho_h6 x hx))
    replace h2 := h2.stp sw18 (frw18 b2 h2.lt ne_h2_h6)
    replace hE := hE.trans sw18.below
    replace h1 := h1.stp sw18
    replace hk := hk.stp sw18
    replace hyx := Rep.stp hyx sw18
    replace hkx := hkx.stp sw18
    replace hatx := hatx.stp sw18
    replace hc := Rep.stp hc sw18
    replace hsub := fun b h => sw18.sub b (hsub b h)
    replace hlow := sw18.low
    replace hB := Nat.le_trans hB sw18.upd.1
    replace hS : Ext w18 w18 := ext_refl _
    replace h6 : MB w.heap.size _ w18 b6 _ [.int .u8 t.op, .string t.name, .int .i64 t.n, (.slice av6 ((t.kids.take i).map canonF ++ [canonF t.kids[i]]).length cv6)] := ⟨hw18, h6.inM, h6.ge⟩
    have D_h2 := h2.box
    have D_h6 := h6.box
    have D_h1 := h1
    have D_hk := hk
    have D_hkx := hkx
    have D_hatx := hatx
    refine a_end (by kernel_rfl) ?_
    refine x_blk (x_seq (c_reg (l_p 1 tbOk rfl ?_)))
    refine l_cons (o_ar rfl rfl rfl (IntWalk.i64_in _ (by omega)) rfl rfl ?_)
    refine l_p 1 tbOk rfl (l_nil ?_)
    exact x_round3 (i + 1) ((.slice av6 ((t.kids.take i).map canonF ++ [canonF t.kids[i]]).length cv6)) (Mw17) (s4 rfl rfl rfl (get_num rfl (by omega))) ⟨by omega, by rw [List.take_succ_eq_append_getElem hik, List.map_append]; exact ho, h2, h6, h1, d_ho_h2, d_ho_h6, hk, hlow, hsub, hE, hB⟩ (by omega)
  refine c_exit (x_seqE (x_seqE (x_blkE (x_seq (q0 ?_)))))
  refine l_cons (o_lds tbOk (fun j v hv => h6.cell j v hv) rfl rfl rfl rfl rfl rfl ?_)
  obtain rfl : i = t.kids.length := by omega
  rw [List.take_of_length_le (Nat.le_refl _)] at ho
  obtain ⟨av, cv, rfl, hcv⟩ := ho.val
  have hml : (t.kids.map canonF).length = t.kids.length := List.length_map _
  refine l_cons (o_st tbOk h2.box rfl rfl rfl rfl (by intro u hu; simp [Value.cells] at hu; rcases hu with rfl | rfl | rfl | rfl <;> rfl) rfl rfl ?_)
  intro w19 hw19 qw19 bew19
  have uw19 : UpdB _ _ _ := ⟨qw19, bew19⟩
  have sw19 := uw19.stp h2.inM hlow h2.ge
  have frw19 := qw19.2
  replace ho := ho.stp sw19 (fun x hx => frw19 x (ho.lt x hx).2 (d_ho_h2 x hx))
  replace h6 := h6.stp sw19 (frw19 b6 h6.lt ne_h2_h6.symm)
  replace hE := hE.trans sw19.below
  replace h1 := h1.stp sw19
  replace hk := hk.stp sw19
  replace hsub := fun b h => sw19.sub b (hsub b h)
  replace hlow := sw19.low
  replace hB := Nat.le_trans hB sw19.upd.1
  replace h2 : MB w.heap.size _ w19 b2 _ [.int .u8 t.op, .string t.name, .int .i64 t.n, .slice av (t.kids.map canonF).length cv] := ⟨hw19, h2.inM, h2.ge⟩
  refine q1 (c_ret ?_)
  refine x_ret1s tbOk (fun j v hv => h2.cell j v hv) rfl rfl rfl rfl rfl ?_
  have hfin := ty_mk op nm n64 (ho.sl (by omega) hlow0 hsub)
  rw [← canon_other hop] at hfin
  exact ⟨hfin, hE⟩

theorem kRight_specB (t : Ty) (M : Nat → Prop) (w : World) (v : Value) (ht : Rep.R M w v t) (hlow : Low M w) : Calls Try.prog 78 #[v] w (Ret fun r w' => r = .bool (rightB t) ∧ Ext w w') := by
  have h := kRight_spec t M w v ht hlow
  rwa [rightB_law] at h
theorem kRow_specB (t : Ty) (M : Nat → Prop) (w : World) (v : Value) (ht : Rep.R M w v t) (hlow : Low M w) : Calls Try.prog 55 #[v] w (Ret fun r w' => r = .bool (rowB t) ∧ Ext w w') := by
  have h := kRow_spec t M w v ht hlow
  rwa [rowB_law] at h

theorem either_specB (t : Ty) (M : Nat → Prop) (w : World) (v : Value) (ht : Rep.R M w v t) (hlow : Low M w) : Calls Try.prog 141 #[v] w (Ret fun r w' => r = .bool (rightB t || rowB t) ∧ Ext w w') := by
  have h := either_spec t M w v ht hlow
  rwa [rightB_law, rowB_law] at h
theorem shape_either {t : Ty} (h : (rightB t || rowB t) = true) : ∃ c, shapeF t c = true := by
  rw [Bool.or_eq_true] at h
  rcases h with h | h
  · unfold rightB at h; rw [Bool.and_eq_true] at h; exact ⟨_, h.1⟩
  · unfold rowB at h; rw [Bool.and_eq_true] at h; exact ⟨_, h.1⟩

end Go.Proofs.Ytohfnpmehgpphaa
