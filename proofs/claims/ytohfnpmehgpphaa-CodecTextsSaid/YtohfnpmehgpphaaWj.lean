/- Walks: the document's rows. Printed by wip/walks/kinds11.py. -/
import Derived.Test.YtohfnpmehgpphaaWi
namespace Go.Proofs.Ytohfnpmehgpphaa
open Go Rw Go.RowKit
set_option maxRecDepth 100000

/-- Of: a row of fields and a tail. -/
theorem of_spec (l : List Fld) (e : Ty) (M : Nat → Prop) (w : World) (v u : Value) (hs : Sl M w v l) (he : Rep.R M w u e) (hlow0 : Low M w) :
    Calls Try.prog 98 #[v, u] w (Ret fun r w' => Rep.R M w' r (ofF l e) ∧ Ext w w') := by
  have hlow := hlow0
  have hB : w.heap.size ≤ w.heap.size := Nat.le_refl _
  have hE : Below w.heap.size w w := Below.refl _ _
  have hsub : ∀ b, M b → M b := fun _ h => h
  obtain ⟨kve, rfl, ope, nme, n64e, hke⟩ := ty_open he
  have hL := hs.lt
  refine c_enter (n := 28) Try.func98 rfl rfl rfl ?_
  refine q0 ?_
  refine l_cons (o_box rfl rfl rfl ?_)
  intro b3 w1 hb_b3 ew1 h3
  replace h3 : Box _ b3 40 [.int .u8 e.op, .string e.name, .int .i64 e.n, kve] := h3
  replace h3 := h3.at (nM_of hlow hb_b3)
  replace hE := hE.trans (Below.mono ew1 hB)
  replace he := Rep.ext he ew1
  replace hke := hke.ext ew1
  replace hs := hs.ext ew1
  replace hlow := hlow.ext ew1
  replace hB := Nat.le_trans hB ew1.size
  refine l_cons (o_new tbOk rfl rfl rfl ?_)
  intro b4 w2 qb4 ew2 hb4
  have sw2 := Stp.add ew2 hlow hB (Nat.le_of_eq qb4.symm) hb4.lt
  have h4 : MB w.heap.size (Rw.Add M b4) w2 b4 40 [.int .u8 0, .string ⟨#[]⟩, .int .i64 0, .slice none 0 0] := MB.mk' hb4 qb4 hB
  replace hE := hE.trans sw2.below
  replace he := Rep.stp he sw2
  replace hke := hke.stp sw2
  replace hs := hs.stp sw2
  replace h3 := h3.stp sw2
  replace hsub := fun b h => sw2.sub b (hsub b h)
  replace hlow := sw2.low
  replace hB := Nat.le_trans hB sw2.upd.1
  refine q1 (q0 ?_)
  refine l_cons (o_lds tbOk (fun j v hv => h3.cell j v hv) rfl rfl rfl rfl rfl rfl ?_)
  refine l_cons (o_new tbOk rfl rfl rfl ?_)
  intro b5 w3 qb5 ew3 hb5
  have ne_h4_h5 : b4 ≠ b5 := by have := h4.lt; omega
  have sw3 := Stp.add ew3 hlow hB (Nat.le_of_eq qb5.symm) hb5.lt
  have h5 : MB w.heap.size (Rw.Add (Rw.Add M b4) b5) w3 b5 40 [.int .u8 0, .string ⟨#[]⟩, .int .i64 0, .slice none 0 0] := MB.mk' hb5 qb5 hB
  replace h4 := h4.stp sw3 (ew3.block b4 h4.lt)
  replace hE := hE.trans sw3.below
  replace he := Rep.stp he sw3
  replace hke := hke.stp sw3
  replace hs := hs.stp sw3
  replace h3 := h3.stp sw3
  replace hsub := fun b h => sw3.sub b (hsub b h)
  replace hlow := sw3.low
  replace hB := Nat.le_trans hB sw3.upd.1
  refine l_cons (o_st tbOk h5.box rfl rfl rfl rfl (Rep.one he) rfl rfl ?_)
  intro w4 hw4 qw4 bew4
  have uw4 : UpdB _ _ _ := ⟨qw4, bew4⟩
  have sw4 := uw4.stp h5.inM hlow h5.ge
  have frw4 := qw4.2
  replace h4 := h4.stp sw4 (frw4 b4 h4.lt ne_h4_h5)
  replace hE := hE.trans sw4.below
  replace he := Rep.stp he sw4
  replace hke := hke.stp sw4
  replace hs := hs.stp sw4
  replace h3 := h3.stp sw4
  replace hsub := fun b h => sw4.sub b (hsub b h)
  replace hlow := sw4.low
  replace hB := Nat.le_trans hB sw4.upd.1
  replace h5 : MB w.heap.size _ w4 b5 _ [.int .u8 e.op, .string e.name, .int .i64 e.n, kve] := ⟨hw4, h5.inM, h5.ge⟩
  have hsub0 := hsub
  refine q1 (c_seq (q0 (l_p 1 tbOk rfl ?_)))
  refine l_cons (o_len tbOk hs rfl rfl rfl rfl rfl ?_)
  refine l_cons (o_ar rfl rfl rfl (IntWalk.i64_in _ (by omega)) rfl rfl ?_)
  refine l_p 1 tbOk rfl (q1 (c_blk ?_))
  refine c_loop2 (X := Nat) (Y := Value) (fun j kv => [(0, v), (4, .pointer (some ⟨b4, 0, none⟩)), (5, .pointer (some ⟨b5, 0, none⟩)), (6, .int .i64 ((j : Int) - 1))]) (fun j kv w' => j ≤ l.length ∧ Sl (Rw.Add (Rw.Add M b4) b5) w' v l ∧ MB w.heap.size (Rw.Add (Rw.Add M b4) b5) w' b5 40 [.int .u8 (ofF (l.drop j) e).op, .string (ofF (l.drop j) e).name, .int .i64 (ofF (l.drop j) e).n, kv] ∧ Rep.R (Rw.Add (Rw.Add M b4) b5) w' (.agg #[.int .u8 (ofF (l.drop j) e).op, .string (ofF (l.drop j) e).name, .int .i64 (ofF (l.drop j) e).n, kv]) (ofF (l.drop j) e) ∧ MB w.heap.size (Rw.Add (Rw.Add M b4) b5) w' b4 40 [.int .u8 0, .string ⟨#[]⟩, .int .i64 0, .slice none 0 0] ∧ Low (Rw.Add (Rw.Add M b4) b5) w' ∧ Below w.heap.size w w' ∧ w.heap.size ≤ w'.heap.size) (fun j kv => j) (l.length) (kve) (s4 rfl rfl rfl rfl) ?_ ?_
  · refine ⟨Nat.le_refl _, hs, ?_⟩
    rw [List.drop_length]
    exact ⟨h5, he, h4, hlow, hE, hB⟩
  rintro j kv w5 ⟨hj, hs, h5, hr, h4, hlow, hE, hB⟩
  refine c_seq (q0 (l_p 2 tbOk rfl (q1 ?_)))
  refine c_ifP _ rfl (fun hc => ?_) (fun hc => ?_)
  · obtain ⟨j0, rfl⟩ : ∃ j0, j = j0 + 1 := ⟨j - 1, by omega⟩
    have hj0 : j0 < l.length := by omega
    have hT := ofF_drop hj0 e
    refine c_skip (x_seq (c_seq (c_blk ?_)))
    refine a_beg Ext rfl ?_
    intro w6 ew6
    replace h5 := h5.ext hlow hB ew6
    replace h4 := h4.ext hlow hB ew6
    replace hE := hE.trans (Below.mono ew6 hB)
    replace hs := hs.ext ew6
    replace hr := Rep.ext hr ew6
    replace hlow := hlow.ext ew6
    replace hB := Nat.le_trans hB ew6.size
    have hS : Ext w6 w6 := ext_refl _
    have D_hs := hs
    have D_h5 := h5.box
    have D_h4 := h4.box
    refine a_p 0 tbOk rfl rfl rfl rfl (by kernel_rfl) (fun _ _ _ h => h) hS ?_
    refine a_p 1 tbOk rfl rfl rfl rfl (by kernel_rfl) (fun _ _ _ h => h) hS ?_
    refine a_ixS 2 tbOk D_hs (List.getElem?_eq_getElem hj0) rfl rfl rfl (by omega) rfl rfl rfl rfl rfl rfl (by kernel_rfl) (fun _ _ _ _ h => h) hS ?_
    intro ebq1 eoq1 euq1 hrq1 hatq1
    obtain ⟨szq1, kvq1, rfl, hyq1⟩ := fld_open hrq1
    replace hatq1 : At _ w6 ebq1 eoq1 [.string l[j0].name, .int .u8 l[j0].ty.op, .string l[j0].ty.name, .int .i64 l[j0].ty.n, kvq1] := hatq1
    refine a_p 3 tbOk rfl rfl rfl rfl (by kernel_rfl) (fun _ _ _ h => h) hS ?_
    refine a_ld 4 tbOk (fun _ hs => (hatq1.ext hs).cell 0 _ rfl) rfl rfl rfl rfl rfl rfl (by kernel_rfl) (fun _ _ _ h => h) hS ?_
    refine a_p 5 tbOk rfl rfl rfl rfl (by kernel_rfl) (fun _ _ _ h => h) hS ?_
    refine a_p 6 tbOk rfl rfl rfl rfl (by kernel_rfl) (fun _ _ _ h => h) hS ?_
    refine a_ixS 7 tbOk D_hs (List.getElem?_eq_getElem hj0) rfl rfl rfl (by omega) rfl rfl rfl rfl rfl rfl (by kernel_rfl) (fun _ _ _ _ h => h) hS ?_
    intro ebq2 eoq2 euq2 hrq2 hatq2
    obtain ⟨szq2, kvq2, rfl, hyq2⟩ := fld_open hrq2
    replace hatq2 : At _ w6 ebq2 eoq2 [.string l[j0].name, .int .u8 l[j0].ty.op, .string l[j0].ty.name, .int .i64 l[j0].ty.n, kvq2] := hatq2
    refine a_p 8 tbOk rfl rfl rfl rfl (by kernel_rfl) (fun _ _ _ h => h) hS ?_
    refine a_lds 9 tbOk (fun _ hs j v hv => ((hatq2.ext hs)).drop 1 (sub := [.int .u8 l[j0].ty.op, .string l[j0].ty.name, .int .i64 l[j0].ty.n, kvq2]) rfl j v hv) rfl rfl rfl rfl rfl rfl rfl (by kernel_rfl) (fun _ _ _ h => h) hS ?_
    refine a_lds 10 tbOk (fun _ hs j v hv => (D_h5.ext hs).cell j v hv) rfl rfl rfl rfl rfl rfl rfl (by kernel_rfl) (fun _ _ _ h => h) hS ?_
    refine a_bar 11 rfl (by kernel_rfl) (by kernel_rfl) (o_call fo52 rfl rfl rfl (field_spec _ _ _ _ _ _ _ szq1 hyq2 hr hlow) ?_)
    rintro vf w7 ⟨hf, ew7⟩
    replace hf : Rep.R _ _ _ (Ty.mk 11 l[j0].name 0 [l[j0].ty, (ofF (l.drop (j0 + 1)) e)]) := hf
    replace hS := hS.then ew7
    replace h5 := h5.ext hlow hB ew7
    replace h4 := h4.ext hlow hB ew7
    replace hE := hE.trans (Below.mono ew7 hB)
    replace hs := hs.ext ew7
    replace hr := Rep.ext hr ew7
    replace hrq1 := Rep.ext hrq1 ew7
    replace hyq1 := Rep.ext hyq1 ew7
    replace hatq1 := hatq1.ext ew7
    replace hrq2 := Rep.ext hrq2 ew7
    replace hyq2 := Rep.ext hyq2 ew7
    replace hatq2 := hatq2.ext ew7
    replace hlow := hlow.ext ew7
    replace hB := Nat.le_trans hB ew7.size
    obtain ⟨kvn, rfl, opn, nmn, n64n, hkn⟩ := ty_open hf
    refine a_barS Ext 12 rfl (by kernel_rfl) (by kernel_rfl) (o_st tbOk h5.box rfl rfl rfl rfl (Rep.one hf) rfl rfl ?_)
    intro w8 hw8 qw8 bew8
    have uw8 : UpdB _ _ _ := ⟨qw8, bew8⟩
    have sw8 := uw8.stp h5.inM hlow h5.ge
    have frw8 := qw8.2
    replace h4 := h4.stp sw8 (frw8 b4 h4.lt ne_h4_h5)
    replace hE := hE.trans sw8.below
    replace hs := hs.stp sw8
    replace hr := Rep.stp hr sw8
    replace hrq1 := Rep.stp hrq1 sw8
    replace hyq1 := Rep.stp hyq1 sw8
    replace hatq1 := hatq1.stp sw8
    replace hrq2 := Rep.stp hrq2 sw8
    replace hyq2 := Rep.stp hyq2 sw8
    replace hatq2 := hatq2.stp sw8
    replace hf := Rep.stp hf sw8
    replace hlow := sw8.low
    replace hB := Nat.le_trans hB sw8.upd.1
    replace hS : Ext w8 w8 := ext_refl _
    replace h5 : MB w.heap.size _ w8 b5 _ [.int .u8 (Ty.mk 11 l[j0].name 0 [l[j0].ty, (ofF (l.drop (j0 + 1)) e)]).op, .string (Ty.mk 11 l[j0].name 0 [l[j0].ty, (ofF (l.drop (j0 + 1)) e)]).name, .int .i64 (Ty.mk 11 l[j0].name 0 [l[j0].ty, (ofF (l.drop (j0 + 1)) e)]).n, kvn] := ⟨hw8, h5.inM, h5.ge⟩
    have D_hs := hs
    have D_h5 := h5.box
    have D_h4 := h4.box
    have D_hatq1 := hatq1
    have D_hatq2 := hatq2
    refine a_end (by kernel_rfl) ?_
    refine x_blk (x_seq (c_reg (l_p 1 tbOk rfl ?_)))
    refine l_cons (o_ar rfl rfl rfl (IntWalk.i64_in _ (by omega)) rfl rfl ?_)
    refine l_p 1 tbOk rfl (l_nil ?_)
    exact x_round2 (j0) (kvn) (s4 rfl rfl rfl (get_num rfl (by omega))) ⟨by omega, hs, by rw [hT]; exact h5, by rw [hT]; exact hf, h4, hlow, hE, hB⟩ (by omega)
  obtain rfl : j = 0 := by omega
  refine c_exit (x_seqE (x_seqE (x_blkE (x_seq (q0 ?_)))))
  refine l_cons (o_lds tbOk (fun j v hv => h5.cell j v hv) rfl rfl rfl rfl rfl rfl ?_)
  refine l_cons (o_st tbOk h4.box rfl rfl rfl rfl (Rep.one hr) rfl rfl ?_)
  intro w9 hw9 qw9 bew9
  have uw9 : UpdB _ _ _ := ⟨qw9, bew9⟩
  have sw9 := uw9.stp h4.inM hlow h4.ge
  have frw9 := qw9.2
  replace h5 := h5.stp sw9 (frw9 b5 h5.lt ne_h4_h5.symm)
  replace hE := hE.trans sw9.below
  replace hs := hs.stp sw9
  replace hr := Rep.stp hr sw9
  replace hlow := sw9.low
  replace hB := Nat.le_trans hB sw9.upd.1
  replace h4 : MB w.heap.size _ w9 b4 _ [.int .u8 (ofF (l.drop 0) e).op, .string (ofF (l.drop 0) e).name, .int .i64 (ofF (l.drop 0) e).n, kv] := ⟨hw9, h4.inM, h4.ge⟩
  refine q1 (c_ret ?_)
  refine x_ret1s tbOk (fun j v hv => h4.cell j v hv) rfl rfl rfl rfl rfl ?_
  exact ⟨Rep.wk hr (fun b _ h => hsub0 b h), hE⟩

/-- Fields: a row's fields, sorted, and its tail. -/
theorem fields_own (t : Ty) (M : Nat → Prop) (w : World) (v : Value) (hsh : shapeF t 114 = true) (ht : Rep.R M w v t) (hlow0 : Low M w) (hsz : psz t ≤ 2000000) :
    Calls Try.prog 21 #[v] w (Ret fun r w' => ∃ x tv M', r = .tuple #[x, tv] ∧ OwnSl 56 w.heap.size M' w' x (fieldsF (spineF t).1) ∧ Rep.R M' w' tv (spineF t).2 ∧ Stp w.heap.size M M' w w') := by
  have hlow := hlow0
  have hB : w.heap.size ≤ w.heap.size := Nat.le_refl _
  have hE : Below w.heap.size w w := Below.refl _ _
  have hsub : ∀ b, M b → M b := fun _ h => h
  obtain ⟨kv, rfl, op, nm, n64, hk⟩ := ty_open ht
  have hsl := spine_len t
  have hT : Stp w.heap.size M M w w := Stp.refl hlow
  refine c_enter (n := 61) Try.func21 rfl rfl rfl ?_
  refine q0 ?_
  refine l_cons (o_box rfl rfl rfl ?_)
  intro b1 w1 qb1 ew1 hb1
  have sw1 := Stp.add ew1 hlow hB (Nat.le_of_eq qb1.symm) hb1.lt
  have h1 : MB w.heap.size (Rw.Add M b1) w1 b1 40 [.int .u8 t.op, .string t.name, .int .i64 t.n, kv] := MB.mk' hb1 qb1 hB
  replace hT := hT.then sw1
  replace hE := hE.trans sw1.below
  replace ht := Rep.stp ht sw1
  replace hk := hk.stp sw1
  replace hsub := fun b h => sw1.sub b (hsub b h)
  replace hlow := sw1.low
  replace hB := Nat.le_trans hB sw1.upd.1
  refine l_p 1 tbOk rfl ?_
  refine l_cons (o_new tbOk rfl rfl rfl ?_)
  intro b3 w2 qb3 ew2 hb3
  have ne_h1_h3 : b1 ≠ b3 := by have := h1.lt; omega
  have sw2 := Stp.add ew2 hlow hB (Nat.le_of_eq qb3.symm) hb3.lt
  have h3 : MB w.heap.size (Rw.Add (Rw.Add M b1) b3) w2 b3 40 [.int .u8 0, .string ⟨#[]⟩, .int .i64 0, .slice none 0 0] := MB.mk' hb3 qb3 hB
  replace hT := hT.then sw2
  replace h1 := h1.stp sw2 (ew2.block b1 h1.lt)
  replace hE := hE.trans sw2.below
  replace ht := Rep.stp ht sw2
  replace hk := hk.stp sw2
  replace hsub := fun b h => sw2.sub b (hsub b h)
  replace hlow := sw2.low
  replace hB := Nat.le_trans hB sw2.upd.1
  refine q1 (q0 (l_p 1 tbOk rfl (q1 (c_seq (c_blk ?_)))))
  have d_ho_h1 : ∀ x, (.slice none 0 0 : Value).ownBlock = some x → x ≠ b1 := fun x hx => by simp [Value.ownBlock] at hx
  have d_ho_h3 : ∀ x, (.slice none 0 0 : Value).ownBlock = some x → x ≠ b3 := fun x hx => by simp [Value.ownBlock] at hx
  refine c_loop5 (X := Ty) (Y := Value) (Z := Value) (U := Nat → Prop) (V := List Fld) (fun t2 kv v M1 dn => [(1, .pointer (some ⟨b1, 0, none⟩)), (3, .pointer (some ⟨b3, 0, none⟩)), (4, v)]) (fun t2 kv v M1 dn w' => shapeF t2 114 = true ∧ dn ++ (spineF t2).1 = (spineF t).1 ∧ (spineF t2).2 = (spineF t).2 ∧ (0 ≤ t2.op ∧ t2.op ≤ 255) ∧ t2.name.size < 140737488355328 ∧ I64 t2.n ∧ OwnSl 56 w.heap.size M1 w' v (fieldsF dn) ∧ MB w.heap.size M1 w' b1 40 [.int .u8 t2.op, .string t2.name, .int .i64 t2.n, kv] ∧ MB w.heap.size M1 w' b3 40 [.int .u8 0, .string ⟨#[]⟩, .int .i64 0, .slice none 0 0] ∧ (∀ x, (v : Value).ownBlock = some x → x ≠ b1) ∧ (∀ x, (v : Value).ownBlock = some x → x ≠ b3) ∧ Sl M1 w' kv t2.kids ∧ Stp w.heap.size M M1 w w' ∧ Low M1 w' ∧ (∀ b, M b → M1 b) ∧ Below w.heap.size w w' ∧ w.heap.size ≤ w'.heap.size) (fun t2 kv v M1 dn => psz t2) (t) (kv) (.slice none 0 0) ((Rw.Add (Rw.Add M b1) b3)) ([]) (s3 rfl rfl rfl) ?_ ?_
  · exact ⟨hsh, rfl, rfl, op, nm, n64, own_nil, h1, h3, d_ho_h1, d_ho_h3, hk, hT, hlow, hsub, hE, hB⟩
  clear hk
  rintro t2 kv v M1 dn w3 ⟨hs2, hacc, htl, op2, nm2, n2, ho, h1, h3, d_ho_h1, d_ho_h3, hk, hT, hlow, hsub, hE, hB⟩
  refine c_seq (q0 (l_p 1 tbOk rfl ?_))
  refine l_cons (o_ld tbOk (h1.cell 0 _ rfl) rfl rfl rfl rfl rfl ?_)
  refine l_p 1 tbOk rfl (q1 ?_)
  refine c_ifP _ rfl (fun hc => ?_) (fun hc => ?_)
  · obtain ⟨k, r, hks, hsk, hsr⟩ := shape_row hs2 (by omega)
    have hsp := spine_yes (by omega) hks
    have hlen : (fieldsF dn).length < (spineF t).1.length := by rw [fieldsF_len, ← hacc, hsp, List.length_append, List.length_cons]; omega
    refine c_skip (x_seq (c_blk (c_seq ?_)))
    refine a_beg Ext rfl ?_
    intro w4 ew4
    replace hT := hT.then (Stp.ext ew4 hlow hB)
    replace ho := ho.ext hlow hB ew4
    replace h1 := h1.ext hlow hB ew4
    replace h3 := h3.ext hlow hB ew4
    replace hE := hE.trans (Below.mono ew4 hB)
    replace hk := hk.ext ew4
    replace hlow := hlow.ext ew4
    replace hB := Nat.le_trans hB ew4.size
    have hS : Ext w4 w4 := ext_refl _
    have D_h1 := h1.box
    have D_h3 := h3.box
    have D_hk := hk
    refine a_p 0 tbOk rfl rfl rfl rfl (by kernel_rfl) (fun _ _ _ h => h) hS ?_
    refine a_ld 1 tbOk (fun _ hs => (D_h1.ext hs).cell 1 _ rfl) rfl rfl rfl rfl rfl rfl (by kernel_rfl) (fun _ _ _ h => h) hS ?_
    refine a_p 2 tbOk rfl rfl rfl rfl (by kernel_rfl) (fun _ _ _ h => h) hS ?_
    refine a_ld 3 tbOk (fun _ hs => (D_h1.ext hs).cell 3 _ rfl) rfl rfl rfl rfl rfl rfl (by kernel_rfl) (fun _ _ _ h => h) hS ?_
    refine a_ixS 4 tbOk D_hk (show t2.kids[0]? = some k by rw [hks]; rfl) rfl rfl rfl rfl rfl rfl rfl rfl rfl rfl (by kernel_rfl) (fun _ _ _ _ h => h) hS ?_
    intro ebx eox eux hyx hatx
    obtain ⟨kvx, rfl, opx, nmx, n64x, hkx⟩ := ty_open hyx
    replace hatx : At M1 w4 ebx eox [.int .u8 k.op, .string k.name, .int .i64 k.n, kvx] := hatx
    refine a_lds 5 tbOk (fun _ hs j v hv => (hatx.ext hs).cell j v hv) rfl rfl rfl rfl rfl rfl rfl (by kernel_rfl) (fun _ _ _ h => h) hS ?_
    refine a_build (cells := [.string t2.name, .int .u8 k.op, .string k.name, .int .i64 k.n, kvx]) (css := [[.string t2.name], [.int .u8 k.op, .string k.name, .int .i64 k.n, kvx]]) 6 bd56 rfl rfl rfl rfl rfl rfl (by kernel_rfl) (fun _ _ _ h => h) hS ?_
    have hfd : Rep.R _ _ (.agg #[.string t2.name, .int .u8 k.op, .string k.name, .int .i64 k.n, kvx]) (⟨t2.name, k⟩ : Fld) := fld_mk (name := t2.name) (t := k) nm2 hyx
    refine a_one 7 rfl (by kernel_rfl) (o_new tbOk rfl rfl rfl ?_)
    intro b5 w5 qb5 ew5 hb5
    have gS_b5 := Nat.le_trans hS.size (Nat.le_of_eq qb5.symm)
    replace hS := hS.then ew5
    have ne_h1_h5 : b1 ≠ b5 := by have := h1.lt; omega
    have ne_h3_h5 : b3 ≠ b5 := by have := h3.lt; omega
    have d_ho_h5 : ∀ x, (v : Value).ownBlock = some x → x ≠ b5 := fun x hx => by have := (ho.lt x hx).2; omega
    have sw5 := Stp.add ew5 hlow hB (Nat.le_of_eq qb5.symm) hb5.lt
    have h5 : MB w.heap.size (Rw.Add M1 b5) w5 b5 56 [.string ⟨#[]⟩, .int .u8 0, .string ⟨#[]⟩, .int .i64 0, .slice none 0 0] := MB.mk' hb5 qb5 hB
    replace hT := hT.then sw5
    replace ho := ho.stp sw5 (fun x hx => ew5.block x (ho.lt x hx).2)
    replace h1 := h1.stp sw5 (ew5.block b1 h1.lt)
    replace h3 := h3.stp sw5 (ew5.block b3 h3.lt)
    replace hE := hE.trans sw5.below
    replace hk := hk.stp sw5
    replace hyx := Rep.stp hyx sw5
    replace hkx := hkx.stp sw5
    replace hatx := hatx.stp sw5
    replace hfd := Rep.stp hfd sw5
    replace hsub := fun b h => sw5.sub b (hsub b h)
    replace hlow := sw5.low
    replace hB := Nat.le_trans hB sw5.upd.1
    refine ⟨hS, ?_⟩
    refine a_barS Ext 8 rfl (by kernel_rfl) (by kernel_rfl) (o_st tbOk h5.box rfl rfl rfl rfl (Rep.one hfd) rfl rfl ?_)
    intro w6 hw6 qw6 bew6
    have uw6 : UpdB _ _ _ := ⟨qw6, bew6⟩
    have sw6 := uw6.stp h5.inM hlow h5.ge
    have frw6 := qw6.2
    replace hT := hT.then sw6
    replace ho := ho.stp sw6 (fun x hx => frw6 x (ho.lt x hx).2 (d_ho_h5 x hx))
    replace h1 := h1.stp sw6 (frw6 b1 h1.lt ne_h1_h5)
    replace h3 := h3.stp sw6 (frw6 b3 h3.lt ne_h3_h5)
    replace hE := hE.trans sw6.below
    replace hk := hk.stp sw6
    replace hyx := Rep.stp hyx sw6
    replace hkx := hkx.stp sw6
    replace hatx := hatx.stp sw6
    replace hfd := Rep.stp hfd sw6
    replace hsub := fun b h => sw6.sub b (hsub b h)
    replace hlow := sw6.low
    replace hB := Nat.le_trans hB sw6.upd.1
    replace hS : Ext w6 w6 := ext_refl _
    replace h5 : MB w.heap.size _ w6 b5 _ [.string t2.name, .int .u8 k.op, .string k.name, .int .i64 k.n, kvx] := ⟨hw6, h5.inM, h5.ge⟩
    have D_h1 := h1.box
    have D_h3 := h3.box
    have D_hk := hk
    have D_hkx := hkx
    have D_hatx := hatx
    have D_h5 := h5.box
    refine a_end (by kernel_rfl) ?_
    refine x_seq (q0 (l_p 1 tbOk rfl (q1 (q0 (l_p 1 tbOk rfl (q1 (c_seq (q0 (l_p 1 tbOk rfl (q1 (c_blk ?_)))))))))))
    have d_hn_h1 : ∀ x, (.slice none 0 0 : Value).ownBlock = some x → x ≠ b1 := fun x hx => by simp [Value.ownBlock] at hx
    have d_hn_h3 : ∀ x, (.slice none 0 0 : Value).ownBlock = some x → x ≠ b3 := fun x hx => by simp [Value.ownBlock] at hx
    have dd_hn_ho : ∀ x y, (.slice none 0 0 : Value).ownBlock = some x → (v : Value).ownBlock = some y → x ≠ y := fun x y hx => by simp [Value.ownBlock] at hx
    have d_hn_h5 : ∀ x, (.slice none 0 0 : Value).ownBlock = some x → x ≠ b5 := fun x hx => by simp [Value.ownBlock] at hx
    refine c_loop5 (X := Nat) (Y := Value) (Z := Nat → Prop) (U := Bool) (V := List Fld) (fun i v2 M2 bb nx => [(1, .pointer (some ⟨b1, 0, none⟩)), (3, .pointer (some ⟨b3, 0, none⟩)), (4, v), (5, .pointer (some ⟨b5, 0, none⟩)), (6, v2), (7, .bool bb), (8, .int .i64 (i : Nat))]) (fun i v2 M2 bb nx w' => i ≤ (fieldsF dn).length ∧ InsP (⟨t2.name, k⟩ : Fld) (fieldsF dn) i bb nx ∧ OwnSl 56 w.heap.size M2 w' v (fieldsF dn) ∧ OwnSl 56 w.heap.size M2 w' v2 nx ∧ MB w.heap.size M2 w' b1 40 [.int .u8 t2.op, .string t2.name, .int .i64 t2.n, kv] ∧ MB w.heap.size M2 w' b3 40 [.int .u8 0, .string ⟨#[]⟩, .int .i64 0, .slice none 0 0] ∧ MB w.heap.size M2 w' b5 56 [.string t2.name, .int .u8 k.op, .string k.name, .int .i64 k.n, kvx] ∧ Rep.R M2 w' (.agg #[.string t2.name, .int .u8 k.op, .string k.name, .int .i64 k.n, kvx]) (⟨t2.name, k⟩ : Fld) ∧ (∀ x, (v : Value).ownBlock = some x → x ≠ b1) ∧ (∀ x, (v : Value).ownBlock = some x → x ≠ b3) ∧ (∀ x, (v : Value).ownBlock = some x → x ≠ b5) ∧ (∀ x, (v2 : Value).ownBlock = some x → x ≠ b1) ∧ (∀ x, (v2 : Value).ownBlock = some x → x ≠ b3) ∧ (∀ x y, (v2 : Value).ownBlock = some x → (v : Value).ownBlock = some y → x ≠ y) ∧ (∀ x, (v2 : Value).ownBlock = some x → x ≠ b5) ∧ Sl M2 w' kv t2.kids ∧ Stp w.heap.size M M2 w w' ∧ Low M2 w' ∧ (∀ b, M b → M2 b) ∧ Below w.heap.size w w' ∧ w.heap.size ≤ w'.heap.size) (fun i v2 M2 bb nx => (fieldsF dn).length - i) (0) (.slice none 0 0) ((Rw.Add M1 b5)) (false) ([]) (s7 rfl rfl rfl rfl rfl rfl rfl) ?_ ?_
    · exact ⟨Nat.zero_le _, InsP.start _ _, ho, own_nil, h1, h3, h5, hfd, d_ho_h1, d_ho_h3, d_ho_h5, d_hn_h1, d_hn_h3, dd_hn_ho, d_hn_h5, hk, hT, hlow, hsub, hE, hB⟩
    rintro i v2 M2 bb nx w7 ⟨hi, hip, ho, hn, h1, h3, h5, hfd, d_ho_h1, d_ho_h3, d_ho_h5, d_hn_h1, d_hn_h3, dd_hn_ho, d_hn_h5, hk, hT, hlow, hsub, hE, hB⟩
    have hlx := hip.len
    refine c_seq (q0 (l_p 2 tbOk rfl ?_))
    refine l_cons (o_lenO tbOk ho rfl rfl rfl rfl rfl ?_)
    refine l_p 1 tbOk rfl (q1 ?_)
    refine c_ifP _ rfl (fun hc1 => ?_) (fun hc1 => ?_)
    · have hil : i < (fieldsF dn).length := by omega
      refine c_skip (x_seq (c_seq (c_blk (c_seq (c_seq ?_)))))
      refine a_beg Ext rfl ?_
      intro w8 ew8
      replace hT := hT.then (Stp.ext ew8 hlow hB)
      replace ho := ho.ext hlow hB ew8
      replace hn := hn.ext hlow hB ew8
      replace h1 := h1.ext hlow hB ew8
      replace h3 := h3.ext hlow hB ew8
      replace h5 := h5.ext hlow hB ew8
      replace hE := hE.trans (Below.mono ew8 hB)
      replace hfd := Rep.ext hfd ew8
      replace hk := hk.ext ew8
      replace hlow := hlow.ext ew8
      replace hB := Nat.le_trans hB ew8.size
      have hS : Ext w8 w8 := ext_refl _
      have D_h1 := h1.box
      have D_h3 := h3.box
      have D_h5 := h5.box
      have D_hk := hk
      refine a_p 0 tbOk rfl rfl rfl rfl (by kernel_rfl) (fun _ _ _ h => h) hS ?_
      refine a_p 1 tbOk rfl rfl rfl rfl (by kernel_rfl) (fun _ _ _ h => h) hS ?_
      refine a_p 2 tbOk rfl rfl rfl rfl (by kernel_rfl) (fun _ _ _ h => h) hS ?_
      refine a_splitB 27 _ rfl (fun hbb => ?_) (fun hbb => ?_)
      · refine a_p 3 tbOk rfl rfl rfl rfl (by kernel_rfl) (fun _ _ _ h => h) hS ?_
        refine a_ld 4 tbOk (fun _ hs => (D_h5.ext hs).cell 0 _ rfl) rfl rfl rfl rfl rfl rfl (by kernel_rfl) (fun _ _ _ h => h) hS ?_
        refine a_p 5 tbOk rfl rfl rfl rfl (by kernel_rfl) (fun _ _ _ h => h) hS ?_
        refine a_p 6 tbOk rfl rfl rfl rfl (by kernel_rfl) (fun _ _ _ h => h) hS ?_
        refine a_ixO 7 tbOk ho (List.getElem?_eq_getElem hil) rfl rfl rfl rfl rfl rfl rfl rfl rfl rfl (by kernel_rfl) (fun _ _ _ _ h => h) hS ?_
        intro ibe0 iue0 hobe0 hre0 hate0
        obtain ⟨sze0, kve0, rfl, hye0⟩ := fld_open hre0
        replace hate0 : At NoM w8 ibe0 _ [.string (fieldsF dn)[i].name, .int .u8 (fieldsF dn)[i].ty.op, .string (fieldsF dn)[i].ty.name, .int .i64 (fieldsF dn)[i].ty.n, kve0] := ⟨(ho.lt _ hobe0).2, fun h => h, hate0.cell⟩
        refine a_p 8 tbOk rfl rfl rfl rfl (by kernel_rfl) (fun _ _ _ h => h) hS ?_
        refine a_ld 9 tbOk (fun _ hs => (hate0.ext hs).cell 0 _ rfl) rfl rfl rfl rfl rfl rfl (by kernel_rfl) (fun _ _ _ h => h) hS ?_
        refine a_p 10 tbOk rfl rfl rfl rfl (by kernel_rfl) (fun _ _ _ h => h) hS ?_
        refine a_p 11 tbOk rfl rfl rfl rfl (by kernel_rfl) (fun _ _ _ h => h) hS ?_
        refine a_end (by kernel_rfl) ?_
        refine x_seq ?_
        refine c_if _ rfl (fun hc2 => ?_) (fun hc2 => ?_)
        · rw [sLt_cmpN] at hc2
          replace hc2 := of_decide_eq_true hc2
          refine q0 (l_p 1 tbOk rfl ?_)
          refine l_cons (o_lds tbOk (fun j v hv => h5.cell j v hv) rfl rfl rfl rfl rfl rfl ?_)
          refine l_cons (o_bs tbOk rfl rfl rfl rfl rfl rfl rfl (sz1 rfl) rfl rfl rfl ?_)
          intro bw9 w9 qbw9 ew9 hbw9
          have nbw9 := nM_of hlow qbw9
          replace hT := hT.then (Stp.ext ew9 hlow hB)
          replace ho := ho.ext hlow hB ew9
          replace hn := hn.ext hlow hB ew9
          replace h1 := h1.ext hlow hB ew9
          replace h3 := h3.ext hlow hB ew9
          replace h5 := h5.ext hlow hB ew9
          replace hE := hE.trans (Below.mono ew9 hB)
          replace hfd := Rep.ext hfd ew9
          replace hk := hk.ext ew9
          replace hre0 := Rep.ext hre0 ew9
          replace hye0 := Rep.ext hye0 ew9
          replace hlow := hlow.ext ew9
          replace hB := Nat.le_trans hB ew9.size
          refine l_cons (o_app1 tbOk hn hbw9 nbw9 hfd hlow hB rfl rfl rfl rfl rfl rfl rfl (by (try simp only [List.length_append, List.length_cons, List.length_nil]); omega) (by show (_ + _) * 72 ≤ _; (try simp only [List.length_append, List.length_cons, List.length_nil]); omega) rfl rfl ?_)
          intro vw10 w10 Mw10 hw10 sw10 frw10 blw10
          have zd_hn_h1 := d_hn_h1
          replace d_hn_h1 : ∀ x, (vw10 : Value).ownBlock = some x → x ≠ b1 := fun x hx => (blw10 x hx).elim (d_hn_h1 x) (fun h e => by have := h1.lt; omega)
          have zd_hn_h3 := d_hn_h3
          replace d_hn_h3 : ∀ x, (vw10 : Value).ownBlock = some x → x ≠ b3 := fun x hx => (blw10 x hx).elim (d_hn_h3 x) (fun h e => by have := h3.lt; omega)
          have zdd_hn_ho := dd_hn_ho
          replace dd_hn_ho : ∀ x y, (vw10 : Value).ownBlock = some x → (v : Value).ownBlock = some y → x ≠ y := fun x y hx hy => (blw10 x hx).elim (fun h => dd_hn_ho x y h hy) (fun h e => by have := (ho.lt y hy).2; omega)
          have zd_hn_h5 := d_hn_h5
          replace d_hn_h5 : ∀ x, (vw10 : Value).ownBlock = some x → x ≠ b5 := fun x hx => (blw10 x hx).elim (d_hn_h5 x) (fun h e => by have := h5.lt; omega)
          replace hT := hT.then sw10
          replace ho := ho.stp sw10 (fun x hx => frw10 x (ho.lt x hx).2 (fun e => zdd_hn_ho x x e.symm hx rfl))
          replace h1 := h1.stp sw10 (frw10 b1 h1.lt (fun e => zd_hn_h1 _ e.symm rfl))
          replace h3 := h3.stp sw10 (frw10 b3 h3.lt (fun e => zd_hn_h3 _ e.symm rfl))
          replace h5 := h5.stp sw10 (frw10 b5 h5.lt (fun e => zd_hn_h5 _ e.symm rfl))
          replace hE := hE.trans sw10.below
          replace hfd := Rep.stp hfd sw10
          replace hk := hk.stp sw10
          replace hre0 := Rep.stp hre0 sw10
          replace hye0 := Rep.stp hye0 sw10
          replace hsub := fun b h => sw10.sub b (hsub b h)
          replace hlow := sw10.low
          replace hB := Nat.le_trans hB sw10.upd.1
          replace hn := hw10
          clear hw10
          refine l_p 1 tbOk rfl (q1 (c_reg (l_p 1 tbOk rfl (q1 (c_reg (l_p 3 tbOk rfl ?_))))))
          refine l_cons (o_ixO tbOk ho (List.getElem?_eq_getElem hil) rfl rfl rfl rfl rfl rfl rfl rfl rfl ?_)
          intro ibe1 iue1 hobe1 hre1 hate1
          obtain ⟨sze1, kve1, rfl, hye1⟩ := fld_open hre1
          replace hate1 : At NoM w10 ibe1 _ [.string (fieldsF dn)[i].name, .int .u8 (fieldsF dn)[i].ty.op, .string (fieldsF dn)[i].ty.name, .int .i64 (fieldsF dn)[i].ty.n, kve1] := ⟨(ho.lt _ hobe1).2, fun h => h, hate1.cell⟩
          refine l_cons (o_lds tbOk (fun j v hv => hate1.cell j v hv) rfl rfl rfl rfl rfl rfl ?_)
          refine l_cons (o_bs tbOk rfl rfl rfl rfl rfl rfl rfl (sz1 rfl) rfl rfl rfl ?_)
          intro bw11 w11 qbw11 ew11 hbw11
          have nbw11 := nM_of hlow qbw11
          replace hT := hT.then (Stp.ext ew11 hlow hB)
          replace ho := ho.ext hlow hB ew11
          replace hn := hn.ext hlow hB ew11
          replace h1 := h1.ext hlow hB ew11
          replace h3 := h3.ext hlow hB ew11
          replace h5 := h5.ext hlow hB ew11
          replace hE := hE.trans (Below.mono ew11 hB)
          replace hfd := Rep.ext hfd ew11
          replace hk := hk.ext ew11
          replace hre0 := Rep.ext hre0 ew11
          replace hye0 := Rep.ext hye0 ew11
          replace hre1 := Rep.ext hre1 ew11
          replace hye1 := Rep.ext hye1 ew11
          replace hlow := hlow.ext ew11
          replace hB := Nat.le_trans hB ew11.size
          refine l_cons (o_app1 tbOk hn hbw11 nbw11 hre1 hlow hB rfl rfl rfl rfl rfl rfl rfl (by (try simp only [List.length_append, List.length_cons, List.length_nil]); omega) (by show (_ + _) * 72 ≤ _; (try simp only [List.length_append, List.length_cons, List.length_nil]); omega) rfl rfl ?_)
          intro vw12 w12 Mw12 hw12 sw12 frw12 blw12
          have zd_hn_h1 := d_hn_h1
          replace d_hn_h1 : ∀ x, (vw12 : Value).ownBlock = some x → x ≠ b1 := fun x hx => (blw12 x hx).elim (d_hn_h1 x) (fun h e => by have := h1.lt; omega)
          have zd_hn_h3 := d_hn_h3
          replace d_hn_h3 : ∀ x, (vw12 : Value).ownBlock = some x → x ≠ b3 := fun x hx => (blw12 x hx).elim (d_hn_h3 x) (fun h e => by have := h3.lt; omega)
          have zdd_hn_ho := dd_hn_ho
          replace dd_hn_ho : ∀ x y, (vw12 : Value).ownBlock = some x → (v : Value).ownBlock = some y → x ≠ y := fun x y hx hy => (blw12 x hx).elim (fun h => dd_hn_ho x y h hy) (fun h e => by have := (ho.lt y hy).2; omega)
          have zd_hn_h5 := d_hn_h5
          replace d_hn_h5 : ∀ x, (vw12 : Value).ownBlock = some x → x ≠ b5 := fun x hx => (blw12 x hx).elim (d_hn_h5 x) (fun h e => by have := h5.lt; omega)
          replace hT := hT.then sw12
          replace ho := ho.stp sw12 (fun x hx => frw12 x (ho.lt x hx).2 (fun e => zdd_hn_ho x x e.symm hx rfl))
          replace h1 := h1.stp sw12 (frw12 b1 h1.lt (fun e => zd_hn_h1 _ e.symm rfl))
          replace h3 := h3.stp sw12 (frw12 b3 h3.lt (fun e => zd_hn_h3 _ e.symm rfl))
          replace h5 := h5.stp sw12 (frw12 b5 h5.lt (fun e => zd_hn_h5 _ e.symm rfl))
          replace hE := hE.trans sw12.below
          replace hfd := Rep.stp hfd sw12
          replace hk := hk.stp sw12
          replace hre0 := Rep.stp hre0 sw12
          replace hye0 := Rep.stp hye0 sw12
          replace hre1 := Rep.stp hre1 sw12
          replace hye1 := Rep.stp hye1 sw12
          replace hsub := fun b h => sw12.sub b (hsub b h)
          replace hlow := sw12.low
          replace hB := Nat.le_trans hB sw12.upd.1
          replace hn := hw12
          clear hw12
          refine l_p 1 tbOk rfl (q2 (x_seq (c_reg (l_p 1 tbOk rfl ?_))))
          refine l_cons (o_ar rfl rfl rfl (IntWalk.i64_in _ (by omega)) rfl rfl ?_)
          refine l_p 1 tbOk rfl (l_nil ?_)
          exact x_round5 (i + 1) (vw12) (Mw12) (true) (nx ++ [(⟨t2.name, k⟩ : Fld)] ++ [(fieldsF dn)[i]]) (s7 rfl rfl rfl rfl rfl rfl (get_num rfl (by omega))) ⟨by omega, by rw [hbb] at hip; exact hip.here hil hc2, ho, hn, h1, h3, h5, hfd, d_ho_h1, d_ho_h3, d_ho_h5, d_hn_h1, d_hn_h3, dd_hn_ho, d_hn_h5, hk, hT, hlow, hsub, hE, hB⟩ (by omega)
        rw [sLt_cmpN] at hc2
        replace hc2 := of_decide_eq_false hc2
        refine c_skip (x_seq (c_reg (l_p 3 tbOk rfl ?_)))
        refine l_cons (o_ixO tbOk ho (List.getElem?_eq_getElem hil) rfl rfl rfl rfl rfl rfl rfl rfl rfl ?_)
        intro ibe1 iue1 hobe1 hre1 hate1
        obtain ⟨sze1, kve1, rfl, hye1⟩ := fld_open hre1
        replace hate1 : At NoM w8 ibe1 _ [.string (fieldsF dn)[i].name, .int .u8 (fieldsF dn)[i].ty.op, .string (fieldsF dn)[i].ty.name, .int .i64 (fieldsF dn)[i].ty.n, kve1] := ⟨(ho.lt _ hobe1).2, fun h => h, hate1.cell⟩
        refine l_cons (o_lds tbOk (fun j v hv => hate1.cell j v hv) rfl rfl rfl rfl rfl rfl ?_)
        refine l_cons (o_bs tbOk rfl rfl rfl rfl rfl rfl rfl (sz1 rfl) rfl rfl rfl ?_)
        intro bw13 w13 qbw13 ew13 hbw13
        have nbw13 := nM_of hlow qbw13
        replace hT := hT.then (Stp.ext ew13 hlow hB)
        replace ho := ho.ext hlow hB ew13
        replace hn := hn.ext hlow hB ew13
        replace h1 := h1.ext hlow hB ew13
        replace h3 := h3.ext hlow hB ew13
        replace h5 := h5.ext hlow hB ew13
        replace hE := hE.trans (Below.mono ew13 hB)
        replace hfd := Rep.ext hfd ew13
        replace hk := hk.ext ew13
        replace hre0 := Rep.ext hre0 ew13
        replace hye0 := Rep.ext hye0 ew13
        replace hre1 := Rep.ext hre1 ew13
        replace hye1 := Rep.ext hye1 ew13
        replace hlow := hlow.ext ew13
        replace hB := Nat.le_trans hB ew13.size
        refine l_cons (o_app1 tbOk hn hbw13 nbw13 hre1 hlow hB rfl rfl rfl rfl rfl rfl rfl (by (try simp only [List.length_append, List.length_cons, List.length_nil]); omega) (by show (_ + _) * 72 ≤ _; (try simp only [List.length_append, List.length_cons, List.length_nil]); omega) rfl rfl ?_)
        intro vw14 w14 Mw14 hw14 sw14 frw14 blw14
        have zd_hn_h1 := d_hn_h1
        replace d_hn_h1 : ∀ x, (vw14 : Value).ownBlock = some x → x ≠ b1 := fun x hx => (blw14 x hx).elim (d_hn_h1 x) (fun h e => by have := h1.lt; omega)
        have zd_hn_h3 := d_hn_h3
        replace d_hn_h3 : ∀ x, (vw14 : Value).ownBlock = some x → x ≠ b3 := fun x hx => (blw14 x hx).elim (d_hn_h3 x) (fun h e => by have := h3.lt; omega)
        have zdd_hn_ho := dd_hn_ho
        replace dd_hn_ho : ∀ x y, (vw14 : Value).ownBlock = some x → (v : Value).ownBlock = some y → x ≠ y := fun x y hx hy => (blw14 x hx).elim (fun h => dd_hn_ho x y h hy) (fun h e => by have := (ho.lt y hy).2; omega)
        have zd_hn_h5 := d_hn_h5
        replace d_hn_h5 : ∀ x, (vw14 : Value).ownBlock = some x → x ≠ b5 := fun x hx => (blw14 x hx).elim (d_hn_h5 x) (fun h e => by have := h5.lt; omega)
        replace hT := hT.then sw14
        replace ho := ho.stp sw14 (fun x hx => frw14 x (ho.lt x hx).2 (fun e => zdd_hn_ho x x e.symm hx rfl))
        replace h1 := h1.stp sw14 (frw14 b1 h1.lt (fun e => zd_hn_h1 _ e.symm rfl))
        replace h3 := h3.stp sw14 (frw14 b3 h3.lt (fun e => zd_hn_h3 _ e.symm rfl))
        replace h5 := h5.stp sw14 (frw14 b5 h5.lt (fun e => zd_hn_h5 _ e.symm rfl))
        replace hE := hE.trans sw14.below
        replace hfd := Rep.stp hfd sw14
        replace hk := hk.stp sw14
        replace hre0 := Rep.stp hre0 sw14
        replace hye0 := Rep.stp hye0 sw14
        replace hre1 := Rep.stp hre1 sw14
        replace hye1 := Rep.stp hye1 sw14
        replace hsub := fun b h => sw14.sub b (hsub b h)
        replace hlow := sw14.low
        replace hB := Nat.le_trans hB sw14.upd.1
        replace hn := hw14
        clear hw14
        refine l_p 1 tbOk rfl (q2 (x_seq (c_reg (l_p 1 tbOk rfl ?_))))
        refine l_cons (o_ar rfl rfl rfl (IntWalk.i64_in _ (by omega)) rfl rfl ?_)
        refine l_p 1 tbOk rfl (l_nil ?_)
        exact x_round5 (i + 1) (vw14) (Mw14) (bb) (nx ++ [(fieldsF dn)[i]]) (s7 rfl rfl rfl rfl rfl rfl (get_num rfl (by omega))) ⟨by omega, by rw [hbb] at hip ⊢; exact hip.skip hil hc2, ho, hn, h1, h3, h5, hfd, d_ho_h1, d_ho_h3, d_ho_h5, d_hn_h1, d_hn_h3, dd_hn_ho, d_hn_h5, hk, hT, hlow, hsub, hE, hB⟩ (by omega)
      refine a_skip 3 rfl rfl rfl (by kernel_rfl) (fun _ _ _ h => h) hS ?_
      refine a_skip 4 rfl rfl rfl (by kernel_rfl) (fun _ _ _ h => h) hS ?_
      refine a_skip 5 rfl rfl rfl (by kernel_rfl) (fun _ _ _ h => h) hS ?_
      refine a_skip 6 rfl rfl rfl (by kernel_rfl) (fun _ _ _ h => h) hS ?_
      refine a_skip 7 rfl rfl rfl (by kernel_rfl) (fun _ _ _ h => h) hS ?_
      refine a_skip 8 rfl rfl rfl (by kernel_rfl) (fun _ _ _ h => h) hS ?_
      refine a_skip 9 rfl rfl rfl (by kernel_rfl) (fun _ _ _ h => h) hS ?_
      refine a_skip 10 rfl rfl rfl (by kernel_rfl) (fun _ _ _ h => h) hS ?_
      refine a_p 11 tbOk rfl rfl rfl rfl (by kernel_rfl) (fun _ _ _ h => h) hS ?_
      refine a_end (by kernel_rfl) ?_
      refine x_seq (c_ifF rfl (c_skip (x_seq (c_reg (l_p 3 tbOk rfl ?_)))))
      refine l_cons (o_ixO tbOk ho (List.getElem?_eq_getElem hil) rfl rfl rfl rfl rfl rfl rfl rfl rfl ?_)
      intro ibe0 iue0 hobe0 hre0 hate0
      obtain ⟨sze0, kve0, rfl, hye0⟩ := fld_open hre0
      replace hate0 : At NoM w8 ibe0 _ [.string (fieldsF dn)[i].name, .int .u8 (fieldsF dn)[i].ty.op, .string (fieldsF dn)[i].ty.name, .int .i64 (fieldsF dn)[i].ty.n, kve0] := ⟨(ho.lt _ hobe0).2, fun h => h, hate0.cell⟩
      refine l_cons (o_lds tbOk (fun j v hv => hate0.cell j v hv) rfl rfl rfl rfl rfl rfl ?_)
      refine l_cons (o_bs tbOk rfl rfl rfl rfl rfl rfl rfl (sz1 rfl) rfl rfl rfl ?_)
      intro bw15 w15 qbw15 ew15 hbw15
      have nbw15 := nM_of hlow qbw15
      replace hT := hT.then (Stp.ext ew15 hlow hB)
      replace ho := ho.ext hlow hB ew15
      replace hn := hn.ext hlow hB ew15
      replace h1 := h1.ext hlow hB ew15
      replace h3 := h3.ext hlow hB ew15
      replace h5 := h5.ext hlow hB ew15
      replace hE := hE.trans (Below.mono ew15 hB)
      replace hfd := Rep.ext hfd ew15
      replace hk := hk.ext ew15
      replace hre0 := Rep.ext hre0 ew15
      replace hye0 := Rep.ext hye0 ew15
      replace hlow := hlow.ext ew15
      replace hB := Nat.le_trans hB ew15.size
      refine l_cons (o_app1 tbOk hn hbw15 nbw15 hre0 hlow hB rfl rfl rfl rfl rfl rfl rfl (by (try simp only [List.length_append, List.length_cons, List.length_nil]); omega) (by show (_ + _) * 72 ≤ _; (try simp only [List.length_append, List.length_cons, List.length_nil]); omega) rfl rfl ?_)
      intro vw16 w16 Mw16 hw16 sw16 frw16 blw16
      have zd_hn_h1 := d_hn_h1
      replace d_hn_h1 : ∀ x, (vw16 : Value).ownBlock = some x → x ≠ b1 := fun x hx => (blw16 x hx).elim (d_hn_h1 x) (fun h e => by have := h1.lt; omega)
      have zd_hn_h3 := d_hn_h3
      replace d_hn_h3 : ∀ x, (vw16 : Value).ownBlock = some x → x ≠ b3 := fun x hx => (blw16 x hx).elim (d_hn_h3 x) (fun h e => by have := h3.lt; omega)
      have zdd_hn_ho := dd_hn_ho
      replace dd_hn_ho : ∀ x y, (vw16 : Value).ownBlock = some x → (v : Value).ownBlock = some y → x ≠ y := fun x y hx hy => (blw16 x hx).elim (fun h => dd_hn_ho x y h hy) (fun h e => by have := (ho.lt y hy).2; omega)
      have zd_hn_h5 := d_hn_h5
      replace d_hn_h5 : ∀ x, (vw16 : Value).ownBlock = some x → x ≠ b5 := fun x hx => (blw16 x hx).elim (d_hn_h5 x) (fun h e => by have := h5.lt; omega)
      replace hT := hT.then sw16
      replace ho := ho.stp sw16 (fun x hx => frw16 x (ho.lt x hx).2 (fun e => zdd_hn_ho x x e.symm hx rfl))
      replace h1 := h1.stp sw16 (frw16 b1 h1.lt (fun e => zd_hn_h1 _ e.symm rfl))
      replace h3 := h3.stp sw16 (frw16 b3 h3.lt (fun e => zd_hn_h3 _ e.symm rfl))
      replace h5 := h5.stp sw16 (frw16 b5 h5.lt (fun e => zd_hn_h5 _ e.symm rfl))
      replace hE := hE.trans sw16.below
      replace hfd := Rep.stp hfd sw16
      replace hk := hk.stp sw16
      replace hre0 := Rep.stp hre0 sw16
      replace hye0 := Rep.stp hye0 sw16
      replace hsub := fun b h => sw16.sub b (hsub b h)
      replace hlow := sw16.low
      replace hB := Nat.le_trans hB sw16.upd.1
      replace hn := hw16
      clear hw16
      refine l_p 1 tbOk rfl (q2 (x_seq (c_reg (l_p 1 tbOk rfl ?_))))
      refine l_cons (o_ar rfl rfl rfl (IntWalk.i64_in _ (by omega)) rfl rfl ?_)
      refine l_p 1 tbOk rfl (l_nil ?_)
      exact x_round5 (i + 1) (vw16) (Mw16) (bb) (nx ++ [(fieldsF dn)[i]]) (s7 rfl rfl rfl rfl rfl rfl (get_num rfl (by omega))) ⟨by omega, by rw [hbb] at hip ⊢; exact hip.past hil, ho, hn, h1, h3, h5, hfd, d_ho_h1, d_ho_h3, d_ho_h5, d_hn_h1, d_hn_h3, dd_hn_ho, d_hn_h5, hk, hT, hlow, hsub, hE, hB⟩ (by omega)
    refine c_exit (x_seqE (x_seqE (x_blkE (x_seq (c_seq (q0 (l_p 2 tbOk rfl (q1 ?_))))))))
    refine c_ifB _ rfl (fun hc3 => ?_) (fun hc3 => ?_)
    · subst hc3
      have hins := hip.fin0 (by omega)
      refine c_reg (l_p 1 tbOk rfl ?_)
      refine l_cons (o_lds tbOk (fun j v hv => h5.cell j v hv) rfl rfl rfl rfl rfl rfl ?_)
      refine l_cons (o_bs tbOk rfl rfl rfl rfl rfl rfl rfl (sz1 rfl) rfl rfl rfl ?_)
      intro bw17 w17 qbw17 ew17 hbw17
      have nbw17 := nM_of hlow qbw17
      replace hT := hT.then (Stp.ext ew17 hlow hB)
      replace ho := ho.ext hlow hB ew17
      replace hn := hn.ext hlow hB ew17
      replace h1 := h1.ext hlow hB ew17
      replace h3 := h3.ext hlow hB ew17
      replace h5 := h5.ext hlow hB ew17
      replace hE := hE.trans (Below.mono ew17 hB)
      replace hfd := Rep.ext hfd ew17
      replace hk := hk.ext ew17
      replace hlow := hlow.ext ew17
      replace hB := Nat.le_trans hB ew17.size
      refine l_cons (o_app1 tbOk hn hbw17 nbw17 hfd hlow hB rfl rfl rfl rfl rfl rfl rfl (by (try simp only [List.length_append, List.length_cons, List.length_nil]); omega) (by show (_ + _) * 72 ≤ _; (try simp only [List.length_append, List.length_cons, List.length_nil]); omega) rfl rfl ?_)
      intro vw18 w18 Mw18 hw18 sw18 frw18 blw18
      have zd_hn_h1 := d_hn_h1
      replace d_hn_h1 : ∀ x, (vw18 : Value).ownBlock = some x → x ≠ b1 := fun x hx => (blw18 x hx).elim (d_hn_h1 x) (fun h e => by have := h1.lt; omega)
      have zd_hn_h3 := d_hn_h3
      replace d_hn_h3 : ∀ x, (vw18 : Value).ownBlock = some x → x ≠ b3 := fun x hx => (blw18 x hx).elim (d_hn_h3 x) (fun h e => by have := h3.lt; omega)
      have zdd_hn_ho := dd_hn_ho
      replace dd_hn_ho : ∀ x y, (vw18 : Value).ownBlock = some x → (v : Value).ownBlock = some y → x ≠ y := fun x y hx hy => (blw18 x hx).elim (fun h => dd_hn_ho x y h hy) (fun h e => by have := (ho.lt y hy).2; omega)
      have zd_hn_h5 := d_hn_h5
      replace d_hn_h5 : ∀ x, (vw18 : Value).ownBlock = some x → x ≠ b5 := fun x hx => (blw18 x hx).elim (d_hn_h5 x) (fun h e => by have := h5.lt; omega)
      replace hT := hT.then sw18
      replace ho := ho.stp sw18 (fun x hx => frw18 x (ho.lt x hx).2 (fun e => zdd_hn_ho x x e.symm hx rfl))
      replace h1 := h1.stp sw18 (frw18 b1 h1.lt (fun e => zd_hn_h1 _ e.symm rfl))
      replace h3 := h3.stp sw18 (frw18 b3 h3.lt (fun e => zd_hn_h3 _ e.symm rfl))
      replace h5 := h5.stp sw18 (frw18 b5 h5.lt (fun e => zd_hn_h5 _ e.symm rfl))
      replace hE := hE.trans sw18.below
      replace hfd := Rep.stp hfd sw18
      replace hk := hk.stp sw18
      replace hsub := fun b h => sw18.sub b (hsub b h)
      replace hlow := sw18.low
      replace hB := Nat.le_trans hB sw18.upd.1
      replace hn := hw18
      clear hw18
      refine l_p 1 tbOk rfl (q1 (q0 (l_p 2 tbOk rfl (q1 (c_reg (l_p 1 tbOk rfl ?_))))))
      refine l_cons (o_ld tbOk (h1.cell 3 _ rfl) rfl rfl rfl rfl rfl ?_)
      refine l_cons (o_ixS tbOk hk (show t2.kids[1]? = some r by rw [hks]; rfl) rfl rfl rfl rfl rfl rfl rfl rfl rfl ?_)
      intro eby eoy euy hyy haty
      obtain ⟨kvy, rfl, opy, nmy, n64y, hky⟩ := ty_open hyy
      replace haty : At Mw18 w18 eby eoy [.int .u8 r.op, .string r.name, .int .i64 r.n, kvy] := haty
      refine l_cons (o_lds tbOk (fun j v hv => haty.cell j v hv) rfl rfl rfl rfl rfl rfl ?_)
      refine l_cons (o_st tbOk h1.box rfl rfl rfl rfl (Rep.one hyy) rfl rfl ?_)
      intro w19 hw19 qw19 bew19
      have uw19 : UpdB _ _ _ := ⟨qw19, bew19⟩
      have sw19 := uw19.stp h1.inM hlow h1.ge
      have frw19 := qw19.2
      replace hT := hT.then sw19
      replace ho := ho.stp sw19 (fun x hx => frw19 x (ho.lt x hx).2 (d_ho_h1 x hx))
      replace hn := hn.stp sw19 (fun x hx => frw19 x (hn.lt x hx).2 (d_hn_h1 x hx))
      replace h3 := h3.stp sw19 (frw19 b3 h3.lt ne_h1_h3.symm)
      replace h5 := h5.stp sw19 (frw19 b5 h5.lt ne_h1_h5.symm)
      replace hE := hE.trans sw19.below
      replace hfd := Rep.stp hfd sw19
      replace hk := hk.stp sw19
      replace hyy := Rep.stp hyy sw19
      replace hky := hky.stp sw19
      replace haty := haty.stp sw19
      replace hsub := fun b h => sw19.sub b (hsub b h)
      replace hlow := sw19.low
      replace hB := Nat.le_trans hB sw19.upd.1
      replace h1 : MB w.heap.size _ w19 b1 _ [.int .u8 r.op, .string r.name, .int .i64 r.n, kvy] := ⟨hw19, h1.inM, h1.ge⟩
      refine q2 ?_
      rw [hins] at hn
      exact x_round5 (r) (kvy) (vw18) (Mw18) (dn ++ [(⟨t2.name, k⟩ : Fld)]) (s3 rfl rfl rfl) ⟨hsr, by rw [List.append_assoc, ← hacc, hsp]; rfl, by rw [← htl, hsp], opy, nmy, n64y, by rw [fieldsF_app]; exact hn, h1, h3, d_hn_h1, d_hn_h3, hky, hT, hlow, hsub, hE, hB⟩ (by rw [psz_eq t2, hks, pszs_cons, pszs_cons]; omega)
    subst hc3
    have hins := hip.fin1 (by omega)
    refine c_skip (x_seq (q0 (l_p 2 tbOk rfl (q1 (c_reg (l_p 1 tbOk rfl ?_))))))
    refine l_cons (o_ld tbOk (h1.cell 3 _ rfl) rfl rfl rfl rfl rfl ?_)
    refine l_cons (o_ixS tbOk hk (show t2.kids[1]? = some r by rw [hks]; rfl) rfl rfl rfl rfl rfl rfl rfl rfl rfl ?_)
    intro eby eoy euy hyy haty
    obtain ⟨kvy, rfl, opy, nmy, n64y, hky⟩ := ty_open hyy
    replace haty : At M2 w7 eby eoy [.int .u8 r.op, .string r.name, .int .i64 r.n, kvy] := haty
    refine l_cons (o_lds tbOk (fun j v hv => haty.cell j v hv) rfl rfl rfl rfl rfl rfl ?_)
    refine l_cons (o_st tbOk h1.box rfl rfl rfl rfl (Rep.one hyy) rfl rfl ?_)
    intro w20 hw20 qw20 bew20
    have uw20 : UpdB _ _ _ := ⟨qw20, bew20⟩
    have sw20 := uw20.stp h1.inM hlow h1.ge
    have frw20 := qw20.2
    replace hT := hT.then sw20
    replace ho := ho.stp sw20 (fun x hx => frw20 x (ho.lt x hx).2 (d_ho_h1 x hx))
    replace hn := hn.stp sw20 (fun x hx => frw20 x (hn.lt x hx).2 (d_hn_h1 x hx))
    replace h3 := h3.stp sw20 (frw20 b3 h3.lt ne_h1_h3.symm)
    replace h5 := h5.stp sw20 (frw20 b5 h5.lt ne_h1_h5.symm)
    replace hE := hE.trans sw20.below
    replace hfd := Rep.stp hfd sw20
    replace hk := hk.stp sw20
    replace hyy := Rep.stp hyy sw20
    replace hky := hky.stp sw20
    replace haty := haty.stp sw20
    replace hsub := fun b h => sw20.sub b (hsub b h)
    replace hlow := sw20.low
    replace hB := Nat.le_trans hB sw20.upd.1
    replace h1 : MB w.heap.size _ w20 b1 _ [.int .u8 r.op, .string r.name, .int .i64 r.n, kvy] := ⟨hw20, h1.inM, h1.ge⟩
    refine q2 ?_
    rw [hins] at hn
    exact x_round5 (r) (kvy) (v2) (M2) (dn ++ [(⟨t2.name, k⟩ : Fld)]) (s3 rfl rfl rfl) ⟨hsr, by rw [List.append_assoc, ← hacc, hsp]; rfl, by rw [← htl, hsp], opy, nmy, n64y, by rw [fieldsF_app]; exact hn, h1, h3, d_hn_h1, d_hn_h3, hky, hT, hlow, hsub, hE, hB⟩ (by rw [psz_eq t2, hks, pszs_cons, pszs_cons]; omega)
  have hne : t2.op ≠ 11 := by omega
  rw [spine_no hne] at hacc htl
  simp only [List.append_nil] at hacc htl
  have hla : dn.length = (spineF t).1.length := by rw [hacc]
  have hlf := fieldsF_len dn
  refine c_exit (x_seqE (x_seqE (x_blkE (x_seq (c_seq ?_)))))
  refine a_beg Ext rfl ?_
  intro w21 ew21
  replace hT := hT.then (Stp.ext ew21 hlow hB)
  replace ho := ho.ext hlow hB ew21
  replace h1 := h1.ext hlow hB ew21
  replace h3 := h3.ext hlow hB ew21
  replace hE := hE.trans (Below.mono ew21 hB)
  replace hk := hk.ext ew21
  replace hlow := hlow.ext ew21
  replace hB := Nat.le_trans hB ew21.size
  have hS : Ext w21 w21 := ext_refl _
  have D_h1 := h1.box
  have D_h3 := h3.box
  have D_hk := hk
  refine a_p 0 tbOk rfl rfl rfl rfl (by kernel_rfl) (fun _ _ _ h => h) hS ?_
  refine a_lds 1 tbOk (fun _ hs j v hv => (D_h1.ext hs).cell j v hv) rfl rfl rfl rfl rfl rfl rfl (by kernel_rfl) (fun _ _ _ h => h) hS ?_
  refine a_p 2 tbOk rfl rfl rfl rfl (by kernel_rfl) (fun _ _ _ h => h) hS ?_
  have htl2 := ty_mk op2 nm2 n2 hk
  rw [← ty_eta] at htl2
  refine a_barS Ext 3 rfl (by kernel_rfl) (by kernel_rfl) (o_st tbOk h3.box rfl rfl rfl rfl (Rep.one htl2) rfl rfl ?_)
  intro w22 hw22 qw22 bew22
  have uw22 : UpdB _ _ _ := ⟨qw22, bew22⟩
  have sw22 := uw22.stp h3.inM hlow h3.ge
  have frw22 := qw22.2
  replace hT := hT.then sw22
  replace ho := ho.stp sw22 (fun x hx => frw22 x (ho.lt x hx).2 (d_ho_h3 x hx))
  replace h1 := h1.stp sw22 (frw22 b1 h1.lt ne_h1_h3)
  replace hE := hE.trans sw22.below
  replace hk := hk.stp sw22
  replace htl2 := Rep.stp htl2 sw22
  replace hsub := fun b h => sw22.sub b (hsub b h)
  replace hlow := sw22.low
  replace hB := Nat.le_trans hB sw22.upd.1
  replace hS : Ext w22 w22 := ext_refl _
  replace h3 : MB w.heap.size _ w22 b3 _ [.int .u8 t2.op, .string t2.name, .int .i64 t2.n, kv] := ⟨hw22, h3.inM, h3.ge⟩
  have D_h1 := h1.box
  have D_h3 := h3.box
  have D_hk := hk
  refine a_end (by kernel_rfl) ?_
  refine x_seq (c_ret ?_)
  refine x_ret2ts tbOk (fun j v hv => h3.cell j v hv) rfl rfl rfl rfl rfl rfl ?_
  rw [hacc] at ho
  exact ⟨_, _, _, rfl, ho, by rw [← htl]; exact htl2, hT⟩

/-- .. that only are read. -/
theorem fields_spec (t : Ty) (M : Nat → Prop) (w : World) (v : Value) (hsh : shapeF t 114 = true) (ht : Rep.R M w v t) (hlow : Low M w) (hsz : psz t ≤ 2000000) :
    Calls Try.prog 21 #[v] w (Ret fun r w' => (∃ x tv, r = .tuple #[x, tv] ∧ Sl M w' x (fieldsF (spineF t).1) ∧ Rep.R M w' tv (spineF t).2) ∧ Ext w w') := by
  refine (fields_own t M w v hsh ht hlow hsz).mono fun e w' h => ?_
  cases e with
  | returned r =>
    obtain ⟨x, tv, M', rfl, ho, htl, s⟩ := h
    have := spine_len t
    exact ⟨⟨x, tv, rfl, ho.sl (by rw [fieldsF_len]; omega) hlow s.sub, Rep.wk htl (fun b _ h => s.sub b h)⟩, s.below⟩
  | panicked c => exact h
  | outgrown => exact h

end Go.Proofs.Ytohfnpmehgpphaa
