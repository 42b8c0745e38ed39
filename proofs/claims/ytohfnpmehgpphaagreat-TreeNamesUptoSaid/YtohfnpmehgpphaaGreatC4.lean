/- Part 4 of the proof: rules, plain laws and walks, merged out of smaller texts. -/
import Derived.Test.YtohfnpmehgpphaaGreatC3
namespace Go.Proofs.YtohfnpmehgpphaaGreat
open Go Rw Go.RowKit
set_option maxRecDepth 100000
theorem of_spec (l : List Fld) (e : Ty) (M : Nat → Prop) (w : World) (v u : Value) (hs : Sl M w v l) (he : Rep.R M w u e) (hlow0 : Low M w) :
  Calls Tryz.prog 56 #[v, u] w (Ret fun r w' => Rep.R M w' r (ofF l e) ∧ Ext w w') := by
 have hlow := hlow0
 have hB : w.heap.size ≤ w.heap.size := Nat.le_refl _
 have hE : Below w.heap.size w w := Below.refl _ _
 have hsub : ∀ b, M b → M b := fun _ h => h
 obtain ⟨kve, rfl, ope, nme, n64e, hke⟩ := ty_open he
 have hL := hs.lt
 refine c_enter (n := 28) Tryz.func56 rfl rfl rfl ?_
 refine q0 ?_
 refine lC (o_box rfl rfl rfl ?_)
 intro b3 w1 hb_b3 ew1 h3
 replace h3 : Box _ b3 25 [.int .u8 e.op, .string e.name, .int .i64 e.n, kve] := h3
 replace h3 := h3.at (nM_of hlow hb_b3)
 replace hE := ew1.bl hE hB
 replace he := Rep.ext he ew1
 replace hke := hke.ext ew1
 replace hs := hs.ext ew1
 replace hlow := hlow.ext ew1
 replace hB := ew1.z hB
 refine lC (o_new tK rfl rfl rfl ?_)
 intro b4 w2 qb4 ew2 hb4
 have sw2 := Stp.add ew2 hlow hB (Nat.le_of_eq qb4.symm) hb4.lt
 have h4 : MB w.heap.size (Rw.Add M b4) w2 b4 25 [.int .u8 0, .string ⟨#[]⟩, .int .i64 0, .slice none 0 0] := MB.mk' hb4 qb4 hB
 replace hE := hE.trans sw2.below
 replace he := Rep.stp he sw2
 replace hke := hke.stp sw2
 replace hs := hs.stp sw2
 replace h3 := h3.stp sw2
 replace hsub := sw2.sb hsub
 replace hlow := sw2.low
 replace hB := sw2.z hB
 refine q1 (q0 ?_)
 refine lC (o_lds tK (fun j v hv => h3.cell j v hv) rfl rfl rfl rfl rfl rfl ?_)
 refine lC (o_new tK rfl rfl rfl ?_)
 intro b5 w3 qb5 ew3 hb5
 have ne_h4_h5 : b4 ≠ b5 := by have := h4.lt; omega
 have sw3 := Stp.add ew3 hlow hB (Nat.le_of_eq qb5.symm) hb5.lt
 have h5 : MB w.heap.size (Rw.Add (Rw.Add M b4) b5) w3 b5 25 [.int .u8 0, .string ⟨#[]⟩, .int .i64 0, .slice none 0 0] := MB.mk' hb5 qb5 hB
 replace h4 := h4.stp sw3 (ew3.block b4 h4.lt)
 replace hE := hE.trans sw3.below
 replace he := Rep.stp he sw3
 replace hke := hke.stp sw3
 replace hs := hs.stp sw3
 replace h3 := h3.stp sw3
 replace hsub := sw3.sb hsub
 replace hlow := sw3.low
 replace hB := sw3.z hB
 refine lC (o_st tK h5.box rfl rfl rfl rfl (Rep.one he) rfl rfl ?_)
 intro w4 hw4 qw4 bew4
 have uw4 : UpdB _ _ _ := ⟨qw4, bew4⟩
 have sw4 := uw4.stp h5.inM hlow h5.ge
 have frw4 := qw4.2
 replace h4 := h4.stp sw4 (frw4 b4 h4.lt ne_h4_h5)
 replace hE := hE.trans sw4.below
 replace he := Rep.stp he sw4
 replace hke := hke.stp sw4
 replace hs := hs.stp sw4
 replace h3 := h3.stp sw4
 replace hsub := sw4.sb hsub
 replace hlow := sw4.low
 replace hB := sw4.z hB
 replace h5 : MB w.heap.size _ w4 b5 _ [.int .u8 e.op, .string e.name, .int .i64 e.n, kve] := ⟨hw4, h5.inM, h5.ge⟩
 have hsub0 := hsub
 refine q1 (c_seq (q0 (l_p 1 tK rfl ?_)))
 refine lC (o_len tK hs rfl rfl rfl rfl rfl ?_)
 refine lC (o_ai rfl rfl rfl (by omega) rfl rfl ?_)
 refine l_p 1 tK rfl (q1 (c_blk ?_))
 refine c_loop2 (X := Nat) (Y := Value) (fun j kv => [(0, v), (4, .pointer (some ⟨b4, 0, none⟩)), (5, .pointer (some ⟨b5, 0, none⟩)), (6, .int .i64 ((j : Int) - 1))]) (fun j kv w' => j ≤ l.length ∧ Sl (Rw.Add (Rw.Add M b4) b5) w' v l ∧ MB w.heap.size (Rw.Add (Rw.Add M b4) b5) w' b5 25 [.int .u8 (ofF (l.drop j) e).op, .string (ofF (l.drop j) e).name, .int .i64 (ofF (l.drop j) e).n, kv] ∧ Rep.R (Rw.Add (Rw.Add M b4) b5) w' (.agg #[.int .u8 (ofF (l.drop j) e).op, .string (ofF (l.drop j) e).name, .int .i64 (ofF (l.drop j) e).n, kv]) (ofF (l.drop j) e) ∧ MB w.heap.size (Rw.Add (Rw.Add M b4) b5) w' b4 25 [.int .u8 0, .string ⟨#[]⟩, .int .i64 0, .slice none 0 0] ∧ Low (Rw.Add (Rw.Add M b4) b5) w' ∧ Below w.heap.size w w' ∧ w.heap.size ≤ w'.heap.size) (fun j kv => j) (l.length) (kve) (s4 rfl rfl rfl rfl) ?_ ?_
 ·refine ⟨Nat.le_refl _, hs, ?_⟩
  rw [List.drop_length]
  exact ⟨h5, he, h4, hlow, hE, hB⟩
 rintro j kv w5 ⟨hj, hs, h5, hr, h4, hlow, hE, hB⟩
 refine c_seq (q0 (l_p 2 tK rfl (q1 ?_)))
 refine c_ifP _ rfl (fun hc => ?_) (fun hc => ?_)
 ·obtain ⟨j0, rfl⟩ : ∃ j0, j = j0 + 1 := ⟨j - 1, by omega⟩
  have hj0 : j0 < l.length := by omega
  have hT := ofF_drop hj0 e
  refine c_skip (x_seq (c_seq (c_blk ?_)))
  refine a_beg Ext rfl ?_
  intro w6 ew6
  replace h5 := h5.ext hlow hB ew6
  replace h4 := h4.ext hlow hB ew6
  replace hE := ew6.bl hE hB
  replace hs := hs.ext ew6
  replace hr := Rep.ext hr ew6
  replace hlow := hlow.ext ew6
  replace hB := ew6.z hB
  have hS : Ext w6 w6 := ext_refl _
  have D_hs := hs
  have D_h5 := h5.box
  have D_h4 := h4.box
  refine a_p 0 tK rfl rfl rfl rfl (by kernel_rfl) (fun _ _ _ h => h) hS ?_
  refine a_p 1 tK rfl rfl rfl rfl (by kernel_rfl) (fun _ _ _ h => h) hS ?_
  refine a_ixS 2 tK D_hs (List.getElem?_eq_getElem hj0) rfl rfl rfl (by omega) rfl rfl rfl rfl rfl rfl (by kernel_rfl) (fun _ _ _ _ h => h) hS ?_
  intro ebq1 eoq1 euq1 hrq1 hatq1
  obtain ⟨szq1, kvq1, rfl, hyq1⟩ := fld_open hrq1
  replace hatq1 : At _ w6 ebq1 eoq1 [.string l[j0].name, .int .u8 l[j0].ty.op, .string l[j0].ty.name, .int .i64 l[j0].ty.n, kvq1] := hatq1
  refine a_p 3 tK rfl rfl rfl rfl (by kernel_rfl) (fun _ _ _ h => h) hS ?_
  refine a_ld 4 tK (fun _ hs => (hatq1.ext hs).cell 0 _ rfl) rfl rfl rfl rfl rfl rfl (by kernel_rfl) (fun _ _ _ h => h) hS ?_
  refine a_p 5 tK rfl rfl rfl rfl (by kernel_rfl) (fun _ _ _ h => h) hS ?_
  refine a_p 6 tK rfl rfl rfl rfl (by kernel_rfl) (fun _ _ _ h => h) hS ?_
  refine a_ixS 7 tK D_hs (List.getElem?_eq_getElem hj0) rfl rfl rfl (by omega) rfl rfl rfl rfl rfl rfl (by kernel_rfl) (fun _ _ _ _ h => h) hS ?_
  intro ebq2 eoq2 euq2 hrq2 hatq2
  obtain ⟨szq2, kvq2, rfl, hyq2⟩ := fld_open hrq2
  replace hatq2 : At _ w6 ebq2 eoq2 [.string l[j0].name, .int .u8 l[j0].ty.op, .string l[j0].ty.name, .int .i64 l[j0].ty.n, kvq2] := hatq2
  refine a_p 8 tK rfl rfl rfl rfl (by kernel_rfl) (fun _ _ _ h => h) hS ?_
  refine a_lds 9 tK (fun _ hs j v hv => ((hatq2.ext hs)).drop 1 (sub := [.int .u8 l[j0].ty.op, .string l[j0].ty.name, .int .i64 l[j0].ty.n, kvq2]) rfl j v hv) rfl rfl rfl rfl rfl rfl rfl (by kernel_rfl) (fun _ _ _ h => h) hS ?_
  refine a_lds 10 tK (fun _ hs j v hv => (D_h5.ext hs).cell j v hv) rfl rfl rfl rfl rfl rfl rfl (by kernel_rfl) (fun _ _ _ h => h) hS ?_
  refine a_bar 11 rfl (by kernel_rfl) (by kernel_rfl) (o_call fo76 rfl rfl rfl (field_spec _ _ _ _ _ _ _ szq1 hyq2 hr hlow) ?_)
  rintro vf w7 ⟨hf, ew7⟩
  replace hf : Rep.R _ _ _ (Ty.mk 11 l[j0].name 0 [l[j0].ty, (ofF (l.drop (j0 + 1)) e)]) := hf
  replace hS := hS.then ew7
  replace h5 := h5.ext hlow hB ew7
  replace h4 := h4.ext hlow hB ew7
  replace hE := ew7.bl hE hB
  replace hs := hs.ext ew7
  replace hr := Rep.ext hr ew7
  replace hrq1 := Rep.ext hrq1 ew7
  replace hyq1 := Rep.ext hyq1 ew7
  replace hatq1 := hatq1.ext ew7
  replace hrq2 := Rep.ext hrq2 ew7
  replace hyq2 := Rep.ext hyq2 ew7
  replace hatq2 := hatq2.ext ew7
  replace hlow := hlow.ext ew7
  replace hB := ew7.z hB
  obtain ⟨kvn, rfl, opn, nmn, n64n, hkn⟩ := ty_open hf
  refine a_barS Ext 12 rfl (by kernel_rfl) (by kernel_rfl) (o_st tK h5.box rfl rfl rfl rfl (Rep.one hf) rfl rfl ?_)
  intro w8 hw8 qw8 bew8
  have uw8 : UpdB _ _ _ := ⟨qw8, bew8⟩
  have sw8 := uw8.stp h5.inM hlow h5.ge
  have frw8 := qw8.2
  replace h4 := h4.stp sw8 (frw8 b4 h4.lt ne_h4_h5)
  replace hE := hE.trans sw8.below
  replace hs := hs.stp sw8
  replace hr := Rep.stp hr sw8
  replace hrq1 := Rep.stp hrq1 sw8
  replace hyq1 := Rep.stp hyq1 sw8
  replace hatq1 := hatq1.stp sw8
  replace hrq2 := Rep.stp hrq2 sw8
  replace hyq2 := Rep.stp hyq2 sw8
  replace hatq2 := hatq2.stp sw8
  replace hf := Rep.stp hf sw8
  replace hlow := sw8.low
  replace hB := sw8.z hB
  replace hS : Ext w8 w8 := ext_refl _
  replace h5 : MB w.heap.size _ w8 b5 _ [.int .u8 (Ty.mk 11 l[j0].name 0 [l[j0].ty, (ofF (l.drop (j0 + 1)) e)]).op, .string (Ty.mk 11 l[j0].name 0 [l[j0].ty, (ofF (l.drop (j0 + 1)) e)]).name, .int .i64 (Ty.mk 11 l[j0].name 0 [l[j0].ty, (ofF (l.drop (j0 + 1)) e)]).n, kvn] := ⟨hw8, h5.inM, h5.ge⟩
  have D_hs := hs
  have D_h5 := h5.box
  have D_h4 := h4.box
  have D_hatq1 := hatq1
  have D_hatq2 := hatq2
  refine a_end (by kernel_rfl) ?_
  refine x_blk (x_seq (c_reg (l_p 1 tK rfl ?_)))
  refine lC (o_ai rfl rfl rfl (by omega) rfl rfl ?_)
  refine l_p 1 tK rfl (l_nil ?_)
  exact x_round2 (j0) (kvn) (s4 rfl rfl rfl (get_num rfl (by omega))) ⟨by omega, hs, by rw [hT]; exact h5, by rw [hT]; exact hf, h4, hlow, hE, hB⟩ (by omega)
 obtain rfl : j = 0 := by omega
 refine c_exit (x_seqE (x_seqE (x_blkE (x_seq (q0 ?_)))))
 refine lC (o_lds tK (fun j v hv => h5.cell j v hv) rfl rfl rfl rfl rfl rfl ?_)
 refine lC (o_st tK h4.box rfl rfl rfl rfl (Rep.one hr) rfl rfl ?_)
 intro w9 hw9 qw9 bew9
 have uw9 : UpdB _ _ _ := ⟨qw9, bew9⟩
 have sw9 := uw9.stp h4.inM hlow h4.ge
 have frw9 := qw9.2
 replace h5 := h5.stp sw9 (frw9 b5 h5.lt ne_h4_h5.symm)
 replace hE := hE.trans sw9.below
 replace hs := hs.stp sw9
 replace hr := Rep.stp hr sw9
 replace hlow := sw9.low
 replace hB := sw9.z hB
 replace h4 : MB w.heap.size _ w9 b4 _ [.int .u8 (ofF (l.drop 0) e).op, .string (ofF (l.drop 0) e).name, .int .i64 (ofF (l.drop 0) e).n, kv] := ⟨hw9, h4.inM, h4.ge⟩
 refine q1 (c_ret ?_)
 refine x_ret1s tK (fun j v hv => h4.cell j v hv) rfl rfl rfl rfl rfl ?_
 exact ⟨Rep.wk hr (fun b _ h => hsub0 b h), hE⟩
theorem fields_own (t : Ty) (M : Nat → Prop) (w : World) (v : Value) (hsh : shapeF t 114 = true) (ht : Rep.R M w v t) (hlow0 : Low M w) (hsz : psz t ≤ 2000000) :
  Calls Tryz.prog 55 #[v] w (Ret fun r w' => ∃ x tv M', r = .tuple #[x, tv] ∧ OwnSl 74 w.heap.size M' w' x (fieldsF (spineF t).1) ∧ Rep.R M' w' tv (spineF t).2 ∧ Stp w.heap.size M M' w w') := by
 have hlow := hlow0
 have hB : w.heap.size ≤ w.heap.size := Nat.le_refl _
 have hE : Below w.heap.size w w := Below.refl _ _
 have hsub : ∀ b, M b → M b := fun _ h => h
 obtain ⟨kv, rfl, op, nm, n64, hk⟩ := ty_open ht
 have hsl := spine_len t
 have hT : Stp w.heap.size M M w w := Stp.refl hlow
 refine c_enter (n := 61) Tryz.func55 rfl rfl rfl ?_
 refine q0 ?_
 refine lC (o_box rfl rfl rfl ?_)
 intro b1 w1 qb1 ew1 hb1
 have sw1 := Stp.add ew1 hlow hB (Nat.le_of_eq qb1.symm) hb1.lt
 have h1 : MB w.heap.size (Rw.Add M b1) w1 b1 25 [.int .u8 t.op, .string t.name, .int .i64 t.n, kv] := MB.mk' hb1 qb1 hB
 replace hT := hT.then sw1
 replace hE := hE.trans sw1.below
 replace ht := Rep.stp ht sw1
 replace hk := hk.stp sw1
 replace hsub := sw1.sb hsub
 replace hlow := sw1.low
 replace hB := sw1.z hB
 refine l_p 1 tK rfl ?_
 refine lC (o_new tK rfl rfl rfl ?_)
 intro b3 w2 qb3 ew2 hb3
 have ne_h1_h3 : b1 ≠ b3 := by have := h1.lt; omega
 have sw2 := Stp.add ew2 hlow hB (Nat.le_of_eq qb3.symm) hb3.lt
 have h3 : MB w.heap.size (Rw.Add (Rw.Add M b1) b3) w2 b3 25 [.int .u8 0, .string ⟨#[]⟩, .int .i64 0, .slice none 0 0] := MB.mk' hb3 qb3 hB
 replace hT := hT.then sw2
 replace h1 := h1.stp sw2 (ew2.block b1 h1.lt)
 replace hE := hE.trans sw2.below
 replace ht := Rep.stp ht sw2
 replace hk := hk.stp sw2
 replace hsub := sw2.sb hsub
 replace hlow := sw2.low
 replace hB := sw2.z hB
 refine q1 (q0 (l_p 1 tK rfl (q1 (c_seq (c_blk ?_)))))
 have d_ho_h1 : ∀ x, (.slice none 0 0 : Value).ownBlock = some x → x ≠ b1 := fun x hx => by simp [Value.ownBlock] at hx
 have d_ho_h3 : ∀ x, (.slice none 0 0 : Value).ownBlock = some x → x ≠ b3 := fun x hx => by simp [Value.ownBlock] at hx
 refine c_loop5 (X := Ty) (Y := Value) (Z := Value) (U := Nat → Prop) (V := List Fld) (fun t2 kv v M1 dn => [(1, .pointer (some ⟨b1, 0, none⟩)), (3, .pointer (some ⟨b3, 0, none⟩)), (4, v)]) (fun t2 kv v M1 dn w' => shapeF t2 114 = true ∧ dn ++ (spineF t2).1 = (spineF t).1 ∧ (spineF t2).2 = (spineF t).2 ∧ (0 ≤ t2.op ∧ t2.op ≤ 255) ∧ t2.name.size < 140737488355328 ∧ I64 t2.n ∧ OwnSl 74 w.heap.size M1 w' v (fieldsF dn) ∧ MB w.heap.size M1 w' b1 25 [.int .u8 t2.op, .string t2.name, .int .i64 t2.n, kv] ∧ MB w.heap.size M1 w' b3 25 [.int .u8 0, .string ⟨#[]⟩, .int .i64 0, .slice none 0 0] ∧ (∀ x, (v : Value).ownBlock = some x → x ≠ b1) ∧ (∀ x, (v : Value).ownBlock = some x → x ≠ b3) ∧ Sl M1 w' kv t2.kids ∧ Stp w.heap.size M M1 w w' ∧ Low M1 w' ∧ (∀ b, M b → M1 b) ∧ Below w.heap.size w w' ∧ w.heap.size ≤ w'.heap.size) (fun t2 kv v M1 dn => psz t2) (t) (kv) (.slice none 0 0) ((Rw.Add (Rw.Add M b1) b3)) ([]) (s3 rfl rfl rfl) ?_ ?_
 ·exact ⟨hsh, rfl, rfl, op, nm, n64, own_nil, h1, h3, d_ho_h1, d_ho_h3, hk, hT, hlow, hsub, hE, hB⟩
 clear hk
 rintro t2 kv v M1 dn w3 ⟨hs2, hacc, htl, op2, nm2, n2, ho, h1, h3, d_ho_h1, d_ho_h3, hk, hT, hlow, hsub, hE, hB⟩
 refine c_seq (q0 (l_p 1 tK rfl ?_))
 refine lC (o_ld tK (h1.cell 0 _ rfl) rfl rfl rfl rfl rfl ?_)
 refine l_p 1 tK rfl (q1 ?_)
 refine c_ifP _ rfl (fun hc => ?_) (fun hc => ?_)
 ·obtain ⟨k, r, hks, hsk, hsr⟩ := shape_row hs2 (by omega)
  have hsp := spine_yes (by omega) hks
  have hlen : (fieldsF dn).length < (spineF t).1.length := by rw [fieldsF_len, ← hacc, hsp, List.length_append, List.length_cons]; omega
  refine c_skip (x_seq (c_blk (c_seq ?_)))
  refine a_beg Ext rfl ?_
  intro w4 ew4
  replace hT := hT.then (Stp.ext ew4 hlow hB)
  replace ho := ho.ext hlow hB ew4
  replace h1 := h1.ext hlow hB ew4
  replace h3 := h3.ext hlow hB ew4
  replace hE := ew4.bl hE hB
  replace hk := hk.ext ew4
  replace hlow := hlow.ext ew4
  replace hB := ew4.z hB
  have hS : Ext w4 w4 := ext_refl _
  have D_h1 := h1.box
  have D_h3 := h3.box
  have D_hk := hk
  refine a_p 0 tK rfl rfl rfl rfl (by kernel_rfl) (fun _ _ _ h => h) hS ?_
  refine a_ld 1 tK (fun _ hs => (D_h1.ext hs).cell 1 _ rfl) rfl rfl rfl rfl rfl rfl (by kernel_rfl) (fun _ _ _ h => h) hS ?_
  refine a_p 2 tK rfl rfl rfl rfl (by kernel_rfl) (fun _ _ _ h => h) hS ?_
  refine a_ld 3 tK (fun _ hs => (D_h1.ext hs).cell 3 _ rfl) rfl rfl rfl rfl rfl rfl (by kernel_rfl) (fun _ _ _ h => h) hS ?_
  refine a_ixS 4 tK D_hk (show t2.kids[0]? = some k by rw [hks]; rfl) rfl rfl rfl rfl rfl rfl rfl rfl rfl rfl (by kernel_rfl) (fun _ _ _ _ h => h) hS ?_
  intro ebx eox eux hyx hatx
  obtain ⟨kvx, rfl, opx, nmx, n64x, hkx⟩ := ty_open hyx
  replace hatx : At M1 w4 ebx eox [.int .u8 k.op, .string k.name, .int .i64 k.n, kvx] := hatx
  refine a_lds 5 tK (fun _ hs j v hv => (hatx.ext hs).cell j v hv) rfl rfl rfl rfl rfl rfl rfl (by kernel_rfl) (fun _ _ _ h => h) hS ?_
  refine a_build (cells := [.string t2.name, .int .u8 k.op, .string k.name, .int .i64 k.n, kvx]) (css := [[.string t2.name], [.int .u8 k.op, .string k.name, .int .i64 k.n, kvx]]) 6 bd74 rfl rfl rfl rfl rfl rfl (by kernel_rfl) (fun _ _ _ h => h) hS ?_
  have hfd : Rep.R _ _ (.agg #[.string t2.name, .int .u8 k.op, .string k.name, .int .i64 k.n, kvx]) (⟨t2.name, k⟩ : Fld) := fld_mk (name := t2.name) (t := k) nm2 hyx
  refine a_one 7 rfl (by kernel_rfl) (o_new tK rfl rfl rfl ?_)
  intro b5 w5 qb5 ew5 hb5
  have gS_b5 := Nat.le_trans hS.size (Nat.le_of_eq qb5.symm)
  replace hS := hS.then ew5
  have ne_h1_h5 : b1 ≠ b5 := by have := h1.lt; omega
  have ne_h3_h5 : b3 ≠ b5 := by have := h3.lt; omega
  have d_ho_h5 : ∀ x, (v : Value).ownBlock = some x → x ≠ b5 := fun x hx => by have := (ho.lt x hx).2; omega
  have sw5 := Stp.add ew5 hlow hB (Nat.le_of_eq qb5.symm) hb5.lt
  have h5 : MB w.heap.size (Rw.Add M1 b5) w5 b5 74 [.string ⟨#[]⟩, .int .u8 0, .string ⟨#[]⟩, .int .i64 0, .slice none 0 0] := MB.mk' hb5 qb5 hB
  replace hT := hT.then sw5
  replace ho := ho.stp sw5 (fun x hx => ew5.block x (ho.lt x hx).2)
  replace h1 := h1.stp sw5 (ew5.block b1 h1.lt)
  replace h3 := h3.stp sw5 (ew5.block b3 h3.lt)
  replace hE := hE.trans sw5.below
  replace hk := hk.stp sw5
  replace hyx := Rep.stp hyx sw5
  replace hkx := hkx.stp sw5
  replace hatx := hatx.stp sw5
  replace hfd := Rep.stp hfd sw5
  replace hsub := sw5.sb hsub
  replace hlow := sw5.low
  replace hB := sw5.z hB
  refine ⟨hS, ?_⟩
  refine a_barS Ext 8 rfl (by kernel_rfl) (by kernel_rfl) (o_st tK h5.box rfl rfl rfl rfl (Rep.one hfd) rfl rfl ?_)
  intro w6 hw6 qw6 bew6
  have uw6 : UpdB _ _ _ := ⟨qw6, bew6⟩
  have sw6 := uw6.stp h5.inM hlow h5.ge
  have frw6 := qw6.2
  replace hT := hT.then sw6
  replace ho := ho.stp sw6 (fun x hx => frw6 x (ho.lt x hx).2 (d_ho_h5 x hx))
  replace h1 := h1.stp sw6 (frw6 b1 h1.lt ne_h1_h5)
  replace h3 := h3.stp sw6 (frw6 b3 h3.lt ne_h3_h5)
  replace hE := hE.trans sw6.below
  replace hk := hk.stp sw6
  replace hyx := Rep.stp hyx sw6
  replace hkx := hkx.stp sw6
  replace hatx := hatx.stp sw6
  replace hfd := Rep.stp hfd sw6
  replace hsub := sw6.sb hsub
  replace hlow := sw6.low
  replace hB := sw6.z hB
  replace hS : Ext w6 w6 := ext_refl _
  replace h5 : MB w.heap.size _ w6 b5 _ [.string t2.name, .int .u8 k.op, .string k.name, .int .i64 k.n, kvx] := ⟨hw6, h5.inM, h5.ge⟩
  have D_h1 := h1.box
  have D_h3 := h3.box
  have D_hk := hk
  have D_hkx := hkx
  have D_hatx := hatx
  have D_h5 := h5.box
  refine a_end (by kernel_rfl) ?_
  refine x_seq (q0 (l_p 1 tK rfl (q1 (q0 (l_p 1 tK rfl (q1 (c_seq (q0 (l_p 1 tK rfl (q1 (c_blk ?_)))))))))))
  have d_hn_h1 : ∀ x, (.slice none 0 0 : Value).ownBlock = some x → x ≠ b1 := fun x hx => by simp [Value.ownBlock] at hx
  have d_hn_h3 : ∀ x, (.slice none 0 0 : Value).ownBlock = some x → x ≠ b3 := fun x hx => by simp [Value.ownBlock] at hx
  have dd_hn_ho : ∀ x y, (.slice none 0 0 : Value).ownBlock = some x → (v : Value).ownBlock = some y → x ≠ y := fun x y hx => by simp [Value.ownBlock] at hx
  have d_hn_h5 : ∀ x, (.slice none 0 0 : Value).ownBlock = some x → x ≠ b5 := fun x hx => by simp [Value.ownBlock] at hx
  refine c_loop5 (X := Nat) (Y := Value) (Z := Nat → Prop) (U := Bool) (V := List Fld) (fun i v2 M2 bb nx => [(1, .pointer (some ⟨b1, 0, none⟩)), (3, .pointer (some ⟨b3, 0, none⟩)), (4, v), (5, .pointer (some ⟨b5, 0, none⟩)), (6, v2), (7, .bool bb), (8, .int .i64 (i : Nat))]) (fun i v2 M2 bb nx w' => i ≤ (fieldsF dn).length ∧ InsP (⟨t2.name, k⟩ : Fld) (fieldsF dn) i bb nx ∧ OwnSl 74 w.heap.size M2 w' v (fieldsF dn) ∧ OwnSl 74 w.heap.size M2 w' v2 nx ∧ MB w.heap.size M2 w' b1 25 [.int .u8 t2.op, .string t2.name, .int .i64 t2.n, kv] ∧ MB w.heap.size M2 w' b3 25 [.int .u8 0, .string ⟨#[]⟩, .int .i64 0, .slice none 0 0] ∧ MB w.heap.size M2 w' b5 74 [.string t2.name, .int .u8 k.op, .string k.name, .int .i64 k.n, kvx] ∧ Rep.R M2 w' (.agg #[.string t2.name, .int .u8 k.op, .string k.name, .int .i64 k.n, kvx]) (⟨t2.name, k⟩ : Fld) ∧ (∀ x, (v : Value).ownBlock = some x → x ≠ b1) ∧ (∀ x, (v : Value).ownBlock = some x → x ≠ b3) ∧ (∀ x, (v : Value).ownBlock = some x → x ≠ b5) ∧ (∀ x, (v2 : Value).ownBlock = some x → x ≠ b1) ∧ (∀ x, (v2 : Value).ownBlock = some x → x ≠ b3) ∧ (∀ x y, (v2 : Value).ownBlock = some x → (v : Value).ownBlock = some y → x ≠ y) ∧ (∀ x, (v2 : Value).ownBlock = some x → x ≠ b5) ∧ Sl M2 w' kv t2.kids ∧ Stp w.heap.size M M2 w w' ∧ Low M2 w' ∧ (∀ b, M b → M2 b) ∧ Below w.heap.size w w' ∧ w.heap.size ≤ w'.heap.size) (fun i v2 M2 bb nx => (fieldsF dn).length - i) (0) (.slice none 0 0) ((Rw.Add M1 b5)) (false) ([]) (s7 rfl rfl rfl rfl rfl rfl rfl) ?_ ?_
  ·exact ⟨Nat.zero_le _, InsP.start _ _, ho, own_nil, h1, h3, h5, hfd, d_ho_h1, d_ho_h3, d_ho_h5, d_hn_h1, d_hn_h3, dd_hn_ho, d_hn_h5, hk, hT, hlow, hsub, hE, hB⟩
  rintro i v2 M2 bb nx w7 ⟨hi, hip, ho, hn, h1, h3, h5, hfd, d_ho_h1, d_ho_h3, d_ho_h5, d_hn_h1, d_hn_h3, dd_hn_ho, d_hn_h5, hk, hT, hlow, hsub, hE, hB⟩
  have hlx := hip.len
  refine c_seq (q0 (l_p 2 tK rfl ?_))
  refine lC (o_lenO tK ho rfl rfl rfl rfl rfl ?_)
  refine l_p 1 tK rfl (q1 ?_)
  refine c_ifP _ rfl (fun hc1 => ?_) (fun hc1 => ?_)
  ·have hil : i < (fieldsF dn).length := by omega
   refine c_skip (x_seq (c_seq (c_blk (c_seq (c_seq ?_)))))
   refine a_beg Ext rfl ?_
   intro w8 ew8
   replace hT := hT.then (Stp.ext ew8 hlow hB)
   replace ho := ho.ext hlow hB ew8
   replace hn := hn.ext hlow hB ew8
   replace h1 := h1.ext hlow hB ew8
   replace h3 := h3.ext hlow hB ew8
   replace h5 := h5.ext hlow hB ew8
   replace hE := ew8.bl hE hB
   replace hfd := Rep.ext hfd ew8
   replace hk := hk.ext ew8
   replace hlow := hlow.ext ew8
   replace hB := ew8.z hB
   have hS : Ext w8 w8 := ext_refl _
   have D_h1 := h1.box
   have D_h3 := h3.box
   have D_h5 := h5.box
   have D_hk := hk
   refine a_p 0 tK rfl rfl rfl rfl (by kernel_rfl) (fun _ _ _ h => h) hS ?_
   refine a_p 1 tK rfl rfl rfl rfl (by kernel_rfl) (fun _ _ _ h => h) hS ?_
   refine a_p 2 tK rfl rfl rfl rfl (by kernel_rfl) (fun _ _ _ h => h) hS ?_
   refine a_splitB 27 _ rfl (fun hbb => ?_) (fun hbb => ?_)
   ·refine a_p 3 tK rfl rfl rfl rfl (by kernel_rfl) (fun _ _ _ h => h) hS ?_
    refine a_ld 4 tK (fun _ hs => (D_h5.ext hs).cell 0 _ rfl) rfl rfl rfl rfl rfl rfl (by kernel_rfl) (fun _ _ _ h => h) hS ?_
    refine a_p 5 tK rfl rfl rfl rfl (by kernel_rfl) (fun _ _ _ h => h) hS ?_
    refine a_p 6 tK rfl rfl rfl rfl (by kernel_rfl) (fun _ _ _ h => h) hS ?_
    refine a_ixO 7 tK ho (List.getElem?_eq_getElem hil) rfl rfl rfl rfl rfl rfl rfl rfl rfl rfl (by kernel_rfl) (fun _ _ _ _ h => h) hS ?_
    intro ibe0 iue0 hobe0 hre0 hate0
    obtain ⟨sze0, kve0, rfl, hye0⟩ := fld_open hre0
    replace hate0 : At NoM w8 ibe0 _ [.string (fieldsF dn)[i].name, .int .u8 (fieldsF dn)[i].ty.op, .string (fieldsF dn)[i].ty.name, .int .i64 (fieldsF dn)[i].ty.n, kve0] := ⟨(ho.lt _ hobe0).2, fun h => h, hate0.cell⟩
    refine a_p 8 tK rfl rfl rfl rfl (by kernel_rfl) (fun _ _ _ h => h) hS ?_
    refine a_ld 9 tK (fun _ hs => (hate0.ext hs).cell 0 _ rfl) rfl rfl rfl rfl rfl rfl (by kernel_rfl) (fun _ _ _ h => h) hS ?_
    refine a_p 10 tK rfl rfl rfl rfl (by kernel_rfl) (fun _ _ _ h => h) hS ?_
    refine a_p 11 tK rfl rfl rfl rfl (by kernel_rfl) (fun _ _ _ h => h) hS ?_
    refine a_end (by kernel_rfl) ?_
    refine x_seq ?_
    refine c_if _ rfl (fun hc2 => ?_) (fun hc2 => ?_)
    ·rw [sLt_cmpN] at hc2
     replace hc2 := of_decide_eq_true hc2
     refine q0 (l_p 1 tK rfl ?_)
     refine lC (o_lds tK (fun j v hv => h5.cell j v hv) rfl rfl rfl rfl rfl rfl ?_)
     refine lC (o_bs tK rfl rfl rfl rfl rfl rfl rfl (sz1 rfl) rfl rfl rfl ?_)
     intro bw9 w9 qbw9 ew9 hbw9
     have nbw9 := nM_of hlow qbw9
     replace hT := hT.then (Stp.ext ew9 hlow hB)
     replace ho := ho.ext hlow hB ew9
     replace hn := hn.ext hlow hB ew9
     replace h1 := h1.ext hlow hB ew9
     replace h3 := h3.ext hlow hB ew9
     replace h5 := h5.ext hlow hB ew9
     replace hE := ew9.bl hE hB
     replace hfd := Rep.ext hfd ew9
     replace hk := hk.ext ew9
     replace hre0 := Rep.ext hre0 ew9
     replace hye0 := Rep.ext hye0 ew9
     replace hlow := hlow.ext ew9
     replace hB := ew9.z hB
     refine lC (o_app1 tK hn hbw9 nbw9 hfd hlow hB rfl rfl rfl rfl rfl rfl rfl (by (try simp only [List.length_append, List.length_cons, List.length_nil]); omega) (by show (_ + _) * 72 ≤ _; (try simp only [List.length_append, List.length_cons, List.length_nil]); omega) rfl rfl ?_)
     intro vw10 w10 Mw10 hw10 sw10 frw10 blw10
     have zd_hn_h1 := d_hn_h1
     replace d_hn_h1 : ∀ x, (vw10 : Value).ownBlock = some x → x ≠ b1 := fun x hx => (blw10 x hx).elim (d_hn_h1 x) (fun h e => by have := h1.lt; omega)
     have zd_hn_h3 := d_hn_h3
     replace d_hn_h3 : ∀ x, (vw10 : Value).ownBlock = some x → x ≠ b3 := fun x hx => (blw10 x hx).elim (d_hn_h3 x) (fun h e => by have := h3.lt; omega)
     have zdd_hn_ho := dd_hn_ho
     replace dd_hn_ho : ∀ x y, (vw10 : Value).ownBlock = some x → (v : Value).ownBlock = some y → x ≠ y := fun x y hx hy => (blw10 x hx).elim (fun h => dd_hn_ho x y h hy) (fun h e => by have := (ho.lt y hy).2; omega)
     have zd_hn_h5 := d_hn_h5
     replace d_hn_h5 : ∀ x, (vw10 : Value).ownBlock = some x → x ≠ b5 := fun x hx => (blw10 x hx).elim (d_hn_h5 x) (fun h e => by have := h5.lt; omega)
     replace hT := hT.then sw10
     replace ho := ho.stp sw10 (fun x hx => frw10 x (ho.lt x hx).2 (fun e => zdd_hn_ho x x e.symm hx rfl))
     replace h1 := h1.stp sw10 (frw10 b1 h1.lt (fun e => zd_hn_h1 _ e.symm rfl))
     replace h3 := h3.stp sw10 (frw10 b3 h3.lt (fun e => zd_hn_h3 _ e.symm rfl))
     replace h5 := h5.stp sw10 (frw10 b5 h5.lt (fun e => zd_hn_h5 _ e.symm rfl))
     replace hE := hE.trans sw10.below
     replace hfd := Rep.stp hfd sw10
     replace hk := hk.stp sw10
     replace hre0 := Rep.stp hre0 sw10
     replace hye0 := Rep.stp hye0 sw10
     replace hsub := sw10.sb hsub
     replace hlow := sw10.low
     replace hB := sw10.z hB
     replace hn := hw10
     clear hw10
     refine l_p 1 tK rfl (q1 (c_reg (l_p 1 tK rfl (q1 (c_reg (l_p 3 tK rfl ?_))))))
     refine lC (o_ixO tK ho (List.getElem?_eq_getElem hil) rfl rfl rfl rfl rfl rfl rfl rfl rfl ?_)
     intro ibe1 iue1 hobe1 hre1 hate1
     obtain ⟨sze1, kve1, rfl, hye1⟩ := fld_open hre1
     replace hate1 : At NoM w10 ibe1 _ [.string (fieldsF dn)[i].name, .int .u8 (fieldsF dn)[i].ty.op, .string (fieldsF dn)[i].ty.name, .int .i64 (fieldsF dn)[i].ty.n, kve1] := ⟨(ho.lt _ hobe1).2, fun h => h, hate1.cell⟩
     refine lC (o_lds tK (fun j v hv => hate1.cell j v hv) rfl rfl rfl rfl rfl rfl ?_)
     refine lC (o_bs tK rfl rfl rfl rfl rfl rfl rfl (sz1 rfl) rfl rfl rfl ?_)
     intro bw11 w11 qbw11 ew11 hbw11
     have nbw11 := nM_of hlow qbw11
     replace hT := hT.then (Stp.ext ew11 hlow hB)
     replace ho := ho.ext hlow hB ew11
     replace hn := hn.ext hlow hB ew11
     replace h1 := h1.ext hlow hB ew11
     replace h3 := h3.ext hlow hB ew11
     replace h5 := h5.ext hlow hB ew11
     replace hE := ew11.bl hE hB
     replace hfd := Rep.ext hfd ew11
     replace hk := hk.ext ew11
     replace hre0 := Rep.ext hre0 ew11
     replace hye0 := Rep.ext hye0 ew11
     replace hre1 := Rep.ext hre1 ew11
     replace hye1 := Rep.ext hye1 ew11
     replace hlow := hlow.ext ew11
     replace hB := ew11.z hB
     refine lC (o_app1 tK hn hbw11 nbw11 hre1 hlow hB rfl rfl rfl rfl rfl rfl rfl (by (try simp only [List.length_append, List.length_cons, List.length_nil]); omega) (by show (_ + _) * 72 ≤ _; (try simp only [List.length_append, List.length_cons, List.length_nil]); omega) rfl rfl ?_)
     intro vw12 w12 Mw12 hw12 sw12 frw12 blw12
     have zd_hn_h1 := d_hn_h1
     replace d_hn_h1 : ∀ x, (vw12 : Value).ownBlock = some x → x ≠ b1 := fun x hx => (blw12 x hx).elim (d_hn_h1 x) (fun h e => by have := h1.lt; omega)
     have zd_hn_h3 := d_hn_h3
     replace d_hn_h3 : ∀ x, (vw12 : Value).ownBlock = some x → x ≠ b3 := fun x hx => (blw12 x hx).elim (d_hn_h3 x) (fun h e => by have := h3.lt; omega)
     have zdd_hn_ho := dd_hn_ho
     replace dd_hn_ho : ∀ x y, (vw12 : Value).ownBlock = some x → (v : Value).ownBlock = some y → x ≠ y := fun x y hx hy => (blw12 x hx).elim (fun h => dd_hn_ho x y h hy) (fun h e => by have := (ho.lt y hy).2; omega)
     have zd_hn_h5 := d_hn_h5
     replace d_hn_h5 : ∀ x, (vw12 : Value).ownBlock = some x → x ≠ b5 := fun x hx => (blw12 x hx).elim (d_hn_h5 x) (fun h e => by have := h5.lt; omega)
     replace hT := hT.then sw12
     replace ho := ho.stp sw12 (fun x hx => frw12 x (ho.lt x hx).2 (fun e => zdd_hn_ho x x e.symm hx rfl))
     replace h1 := h1.stp sw12 (frw12 b1 h1.lt (fun e => zd_hn_h1 _ e.symm rfl))
     replace h3 := h3.stp sw12 (frw12 b3 h3.lt (fun e => zd_hn_h3 _ e.symm rfl))
     replace h5 := h5.stp sw12 (frw12 b5 h5.lt (fun e => zd_hn_h5 _ e.symm rfl))
     replace hE := hE.trans sw12.below
     replace hfd := Rep.stp hfd sw12
     replace hk := hk.stp sw12
     replace hre0 := Rep.stp hre0 sw12
     replace hye0 := Rep.stp hye0 sw12
     replace hre1 := Rep.stp hre1 sw12
     replace hye1 := Rep.stp hye1 sw12
     replace hsub := sw12.sb hsub
     replace hlow := sw12.low
     replace hB := sw12.z hB
     replace hn := hw12
     clear hw12
     refine l_p 1 tK rfl (q2 (x_seq (c_reg (l_p 1 tK rfl ?_))))
     refine lC (o_ai rfl rfl rfl (by omega) rfl rfl ?_)
     refine l_p 1 tK rfl (l_nil ?_)
     exact x_round5 (i + 1) (vw12) (Mw12) (true) (nx ++ [(⟨t2.name, k⟩ : Fld)] ++ [(fieldsF dn)[i]]) (s7 rfl rfl rfl rfl rfl rfl (get_num rfl (by omega))) ⟨by omega, by rw [hbb] at hip; exact hip.here hil hc2, ho, hn, h1, h3, h5, hfd, d_ho_h1, d_ho_h3, d_ho_h5, d_hn_h1, d_hn_h3, dd_hn_ho, d_hn_h5, hk, hT, hlow, hsub, hE, hB⟩ (by omega)
    rw [sLt_cmpN] at hc2
    replace hc2 := of_decide_eq_false hc2
    refine c_skip (x_seq (c_reg (l_p 3 tK rfl ?_)))
    refine lC (o_ixO tK ho (List.getElem?_eq_getElem hil) rfl rfl rfl rfl rfl rfl rfl rfl rfl ?_)
    intro ibe1 iue1 hobe1 hre1 hate1
    obtain ⟨sze1, kve1, rfl, hye1⟩ := fld_open hre1
    replace hate1 : At NoM w8 ibe1 _ [.string (fieldsF dn)[i].name, .int .u8 (fieldsF dn)[i].ty.op, .string (fieldsF dn)[i].ty.name, .int .i64 (fieldsF dn)[i].ty.n, kve1] := ⟨(ho.lt _ hobe1).2, fun h => h, hate1.cell⟩
    refine lC (o_lds tK (fun j v hv => hate1.cell j v hv) rfl rfl rfl rfl rfl rfl ?_)
    refine lC (o_bs tK rfl rfl rfl rfl rfl rfl rfl (sz1 rfl) rfl rfl rfl ?_)
    intro bw13 w13 qbw13 ew13 hbw13
    have nbw13 := nM_of hlow qbw13
    replace hT := hT.then (Stp.ext ew13 hlow hB)
    replace ho := ho.ext hlow hB ew13
    replace hn := hn.ext hlow hB ew13
    replace h1 := h1.ext hlow hB ew13
    replace h3 := h3.ext hlow hB ew13
    replace h5 := h5.ext hlow hB ew13
    replace hE := ew13.bl hE hB
    replace hfd := Rep.ext hfd ew13
    replace hk := hk.ext ew13
    replace hre0 := Rep.ext hre0 ew13
    replace hye0 := Rep.ext hye0 ew13
    replace hre1 := Rep.ext hre1 ew13
    replace hye1 := Rep.ext hye1 ew13
    replace hlow := hlow.ext ew13
    replace hB := ew13.z hB
    refine lC (o_app1 tK hn hbw13 nbw13 hre1 hlow hB rfl rfl rfl rfl rfl rfl rfl (by (try simp only [List.length_append, List.length_cons, List.length_nil]); omega) (by show (_ + _) * 72 ≤ _; (try simp only [List.length_append, List.length_cons, List.length_nil]); omega) rfl rfl ?_)
    intro vw14 w14 Mw14 hw14 sw14 frw14 blw14
    have zd_hn_h1 := d_hn_h1
    replace d_hn_h1 : ∀ x, (vw14 : Value).ownBlock = some x → x ≠ b1 := fun x hx => (blw14 x hx).elim (d_hn_h1 x) (fun h e => by have := h1.lt; omega)
    have zd_hn_h3 := d_hn_h3
    replace d_hn_h3 : ∀ x, (vw14 : Value).ownBlock = some x → x ≠ b3 := fun x hx => (blw14 x hx).elim (d_hn_h3 x) (fun h e => by have := h3.lt; omega)
    have zdd_hn_ho := dd_hn_ho
    replace dd_hn_ho : ∀ x y, (vw14 : Value).ownBlock = some x → (v : Value).ownBlock = some y → x ≠ y := fun x y hx hy => (blw14 x hx).elim (fun h => dd_hn_ho x y h hy) (fun h e => by have := (ho.lt y hy).2; omega)
    have zd_hn_h5 := d_hn_h5
    replace d_hn_h5 : ∀ x, (vw14 : Value).ownBlock = some x → x ≠ b5 := fun x hx => (blw14 x hx).elim (d_hn_h5 x) (fun h e => by have := h5.lt; omega)
    replace hT := hT.then sw14
    replace ho := ho.stp sw14 (fun x hx => frw14 x (ho.lt x hx).2 (fun e => zdd_hn_ho x x e.symm hx rfl))
    replace h1 := h1.stp sw14 (frw14 b1 h1.lt (fun e => zd_hn_h1 _ e.symm rfl))
    replace h3 := h3.stp sw14 (frw14 b3 h3.lt (fun e => zd_hn_h3 _ e.symm rfl))
    replace h5 := h5.stp sw14 (frw14 b5 h5.lt (fun e => zd_hn_h5 _ e.symm rfl))
    replace hE := hE.trans sw14.below
    replace hfd := Rep.stp hfd sw14
    replace hk := hk.stp sw14
    replace hre0 := Rep.stp hre0 sw14
    replace hye0 := Rep.stp hye0 sw14
    replace hre1 := Rep.stp hre1 sw14
    replace hye1 := Rep.stp hye1 sw14
    replace hsub := sw14.sb hsub
    replace hlow := sw14.low
    replace hB := sw14.z hB
    replace hn := hw14
    clear hw14
    refine l_p 1 tK rfl (q2 (x_seq (c_reg (l_p 1 tK rfl ?_))))
    refine lC (o_ai rfl rfl rfl (by omega) rfl rfl ?_)
    refine l_p 1 tK rfl (l_nil ?_)
    exact x_round5 (i + 1) (vw14) (Mw14) (bb) (nx ++ [(fieldsF dn)[i]]) (s7 rfl rfl rfl rfl rfl rfl (get_num rfl (by omega))) ⟨by omega, by rw [hbb] at hip ⊢; exact hip.skip hil hc2, ho, hn, h1, h3, h5, hfd, d_ho_h1, d_ho_h3, d_ho_h5, d_hn_h1, d_hn_h3, dd_hn_ho, d_hn_h5, hk, hT, hlow, hsub, hE, hB⟩ (by omega)
   refine a_skip 3 rfl rfl rfl (by kernel_rfl) (fun _ _ _ h => h) hS ?_
   refine a_skip 4 rfl rfl rfl (by kernel_rfl) (fun _ _ _ h => h) hS ?_
   refine a_skip 5 rfl rfl rfl (by kernel_rfl) (fun _ _ _ h => h) hS ?_
   refine a_skip 6 rfl rfl rfl (by kernel_rfl) (fun _ _ _ h => h) hS ?_
   refine a_skip 7 rfl rfl rfl (by kernel_rfl) (fun _ _ _ h => h) hS ?_
   refine a_skip 8 rfl rfl rfl (by kernel_rfl) (fun _ _ _ h => h) hS ?_
   refine a_skip 9 rfl rfl rfl (by kernel_rfl) (fun _ _ _ h => h) hS ?_
   refine a_skip 10 rfl rfl rfl (by kernel_rfl) (fun _ _ _ h => h) hS ?_
   refine a_p 11 tK rfl rfl rfl rfl (by kernel_rfl) (fun _ _ _ h => h) hS ?_
   refine a_end (by kernel_rfl) ?_
   refine x_seq (c_ifF rfl (c_skip (x_seq (c_reg (l_p 3 tK rfl ?_)))))
   refine lC (o_ixO tK ho (List.getElem?_eq_getElem hil) rfl rfl rfl rfl rfl rfl rfl rfl rfl ?_)
   intro ibe0 iue0 hobe0 hre0 hate0
   obtain ⟨sze0, kve0, rfl, hye0⟩ := fld_open hre0
   replace hate0 : At NoM w8 ibe0 _ [.string (fieldsF dn)[i].name, .int .u8 (fieldsF dn)[i].ty.op, .string (fieldsF dn)[i].ty.name, .int .i64 (fieldsF dn)[i].ty.n, kve0] := ⟨(ho.lt _ hobe0).2, fun h => h, hate0.cell⟩
   refine lC (o_lds tK (fun j v hv => hate0.cell j v hv) rfl rfl rfl rfl rfl rfl ?_)
   refine lC (o_bs tK rfl rfl rfl rfl rfl rfl rfl (sz1 rfl) rfl rfl rfl ?_)
   intro bw15 w15 qbw15 ew15 hbw15
   have nbw15 := nM_of hlow qbw15
   replace hT := hT.then (Stp.ext ew15 hlow hB)
   replace ho := ho.ext hlow hB ew15
   replace hn := hn.ext hlow hB ew15
   replace h1 := h1.ext hlow hB ew15
   replace h3 := h3.ext hlow hB ew15
   replace h5 := h5.ext hlow hB ew15
   replace hE := ew15.bl hE hB
   replace hfd := Rep.ext hfd ew15
   replace hk := hk.ext ew15
   replace hre0 := Rep.ext hre0 ew15
   replace hye0 := Rep.ext hye0 ew15
   replace hlow := hlow.ext ew15
   replace hB := ew15.z hB
   refine lC (o_app1 tK hn hbw15 nbw15 hre0 hlow hB rfl rfl rfl rfl rfl rfl rfl (by (try simp only [List.length_append, List.length_cons, List.length_nil]); omega) (by show (_ + _) * 72 ≤ _; (try simp only [List.length_append, List.length_cons, List.length_nil]); omega) rfl rfl ?_)
   intro vw16 w16 Mw16 hw16 sw16 frw16 blw16
   have zd_hn_h1 := d_hn_h1
   replace d_hn_h1 : ∀ x, (vw16 : Value).ownBlock = some x → x ≠ b1 := fun x hx => (blw16 x hx).elim (d_hn_h1 x) (fun h e => by have := h1.lt; omega)
   have zd_hn_h3 := d_hn_h3
   replace d_hn_h3 : ∀ x, (vw16 : Value).ownBlock = some x → x ≠ b3 := fun x hx => (blw16 x hx).elim (d_hn_h3 x) (fun h e => by have := h3.lt; omega)
   have zdd_hn_ho := dd_hn_ho
   replace dd_hn_ho : ∀ x y, (vw16 : Value).ownBlock = some x → (v : Value).ownBlock = some y → x ≠ y := fun x y hx hy => (blw16 x hx).elim (fun h => dd_hn_ho x y h hy) (fun h e => by have := (ho.lt y hy).2; omega)
   have zd_hn_h5 := d_hn_h5
   replace d_hn_h5 : ∀ x, (vw16 : Value).ownBlock = some x → x ≠ b5 := fun x hx => (blw16 x hx).elim (d_hn_h5 x) (fun h e => by have := h5.lt; omega)
   replace hT := hT.then sw16
   replace ho := ho.stp sw16 (fun x hx => frw16 x (ho.lt x hx).2 (fun e => zdd_hn_ho x x e.symm hx rfl))
   replace h1 := h1.stp sw16 (frw16 b1 h1.lt (fun e => zd_hn_h1 _ e.symm rfl))
   replace h3 := h3.stp sw16 (frw16 b3 h3.lt (fun e => zd_hn_h3 _ e.symm rfl))
   replace h5 := h5.stp sw16 (frw16 b5 h5.lt (fun e => zd_hn_h5 _ e.symm rfl))
   replace hE := hE.trans sw16.below
   replace hfd := Rep.stp hfd sw16
   replace hk := hk.stp sw16
   replace hre0 := Rep.stp hre0 sw16
   replace hye0 := Rep.stp hye0 sw16
   replace hsub := sw16.sb hsub
   replace hlow := sw16.low
   replace hB := sw16.z hB
   replace hn := hw16
   clear hw16
   refine l_p 1 tK rfl (q2 (x_seq (c_reg (l_p 1 tK rfl ?_))))
   refine lC (o_ai rfl rfl rfl (by omega) rfl rfl ?_)
   refine l_p 1 tK rfl (l_nil ?_)
   exact x_round5 (i + 1) (vw16) (Mw16) (bb) (nx ++ [(fieldsF dn)[i]]) (s7 rfl rfl rfl rfl rfl rfl (get_num rfl (by omega))) ⟨by omega, by rw [hbb] at hip ⊢; exact hip.past hil, ho, hn, h1, h3, h5, hfd, d_ho_h1, d_ho_h3, d_ho_h5, d_hn_h1, d_hn_h3, dd_hn_ho, d_hn_h5, hk, hT, hlow, hsub, hE, hB⟩ (by omega)
  refine c_exit (x_seqE (x_seqE (x_blkE (x_seq (c_seq (q0 (l_p 2 tK rfl (q1 ?_))))))))
  refine c_ifB _ rfl (fun hc3 => ?_) (fun hc3 => ?_)
  ·subst hc3
   have hins := hip.fin0 (by omega)
   refine c_reg (l_p 1 tK rfl ?_)
   refine lC (o_lds tK (fun j v hv => h5.cell j v hv) rfl rfl rfl rfl rfl rfl ?_)
   refine lC (o_bs tK rfl rfl rfl rfl rfl rfl rfl (sz1 rfl) rfl rfl rfl ?_)
   intro bw17 w17 qbw17 ew17 hbw17
   have nbw17 := nM_of hlow qbw17
   replace hT := hT.then (Stp.ext ew17 hlow hB)
   replace ho := ho.ext hlow hB ew17
   replace hn := hn.ext hlow hB ew17
   replace h1 := h1.ext hlow hB ew17
   replace h3 := h3.ext hlow hB ew17
   replace h5 := h5.ext hlow hB ew17
   replace hE := ew17.bl hE hB
   replace hfd := Rep.ext hfd ew17
   replace hk := hk.ext ew17
   replace hlow := hlow.ext ew17
   replace hB := ew17.z hB
   refine lC (o_app1 tK hn hbw17 nbw17 hfd hlow hB rfl rfl rfl rfl rfl rfl rfl (by (try simp only [List.length_append, List.length_cons, List.length_nil]); omega) (by show (_ + _) * 72 ≤ _; (try simp only [List.length_append, List.length_cons, List.length_nil]); omega) rfl rfl ?_)
   intro vw18 w18 Mw18 hw18 sw18 frw18 blw18
   have zd_hn_h1 := d_hn_h1
   replace d_hn_h1 : ∀ x, (vw18 : Value).ownBlock = some x → x ≠ b1 := fun x hx => (blw18 x hx).elim (d_hn_h1 x) (fun h e => by have := h1.lt; omega)
   have zd_hn_h3 := d_hn_h3
   replace d_hn_h3 : ∀ x, (vw18 : Value).ownBlock = some x → x ≠ b3 := fun x hx => (blw18 x hx).elim (d_hn_h3 x) (fun h e => by have := h3.lt; omega)
   have zdd_hn_ho := dd_hn_ho
   replace dd_hn_ho : ∀ x y, (vw18 : Value).ownBlock = some x → (v : Value).ownBlock = some y → x ≠ y := fun x y hx hy => (blw18 x hx).elim (fun h => dd_hn_ho x y h hy) (fun h e => by have := (ho.lt y hy).2; omega)
   have zd_hn_h5 := d_hn_h5
   replace d_hn_h5 : ∀ x, (vw18 : Value).ownBlock = some x → x ≠ b5 := fun x hx => (blw18 x hx).elim (d_hn_h5 x) (fun h e => by have := h5.lt; omega)
   replace hT := hT.then sw18
   replace ho := ho.stp sw18 (fun x hx => frw18 x (ho.lt x hx).2 (fun e => zdd_hn_ho x x e.symm hx rfl))
   replace h1 := h1.stp sw18 (frw18 b1 h1.lt (fun e => zd_hn_h1 _ e.symm rfl))
   replace h3 := h3.stp sw18 (frw18 b3 h3.lt (fun e => zd_hn_h3 _ e.symm rfl))
   replace h5 := h5.stp sw18 (frw18 b5 h5.lt (fun e => zd_hn_h5 _ e.symm rfl))
   replace hE := hE.trans sw18.below
   replace hfd := Rep.stp hfd sw18
   replace hk := hk.stp sw18
   replace hsub := sw18.sb hsub
   replace hlow := sw18.low
   replace hB := sw18.z hB
   replace hn := hw18
   clear hw18
   refine l_p 1 tK rfl (q1 (q0 (l_p 2 tK rfl (q1 (c_reg (l_p 1 tK rfl ?_))))))
   refine lC (o_ld tK (h1.cell 3 _ rfl) rfl rfl rfl rfl rfl ?_)
   refine lC (o_ixS tK hk (show t2.kids[1]? = some r by rw [hks]; rfl) rfl rfl rfl rfl rfl rfl rfl rfl rfl ?_)
   intro eby eoy euy hyy haty
   obtain ⟨kvy, rfl, opy, nmy, n64y, hky⟩ := ty_open hyy
   replace haty : At Mw18 w18 eby eoy [.int .u8 r.op, .string r.name, .int .i64 r.n, kvy] := haty
   refine lC (o_lds tK (fun j v hv => haty.cell j v hv) rfl rfl rfl rfl rfl rfl ?_)
   refine lC (o_st tK h1.box rfl rfl rfl rfl (Rep.one hyy) rfl rfl ?_)
   intro w19 hw19 qw19 bew19
   have uw19 : UpdB _ _ _ := ⟨qw19, bew19⟩
   have sw19 := uw19.stp h1.inM hlow h1.ge
   have frw19 := qw19.2
   replace hT := hT.then sw19
   replace ho := ho.stp sw19 (fun x hx => frw19 x (ho.lt x hx).2 (d_ho_h1 x hx))
   replace hn := hn.stp sw19 (fun x hx => frw19 x (hn.lt x hx).2 (d_hn_h1 x hx))
   replace h3 := h3.stp sw19 (frw19 b3 h3.lt ne_h1_h3.symm)
   replace h5 := h5.stp sw19 (frw19 b5 h5.lt ne_h1_h5.symm)
   replace hE := hE.trans sw19.below
   replace hfd := Rep.stp hfd sw19
   replace hk := hk.stp sw19
   replace hyy := Rep.stp hyy sw19
   replace hky := hky.stp sw19
   replace haty := haty.stp sw19
   replace hsub := sw19.sb hsub
   replace hlow := sw19.low
   replace hB := sw19.z hB
   replace h1 : MB w.heap.size _ w19 b1 _ [.int .u8 r.op, .string r.name, .int .i64 r.n, kvy] := ⟨hw19, h1.inM, h1.ge⟩
   refine q2 ?_
   rw [hins] at hn
   exact x_round5 (r) (kvy) (vw18) (Mw18) (dn ++ [(⟨t2.name, k⟩ : Fld)]) (s3 rfl rfl rfl) ⟨hsr, by rw [List.append_assoc, ← hacc, hsp]; rfl, by rw [← htl, hsp], opy, nmy, n64y, by rw [fieldsF_app]; exact hn, h1, h3, d_hn_h1, d_hn_h3, hky, hT, hlow, hsub, hE, hB⟩ (by rw [psz_eq t2, hks, pszs_cons, pszs_cons]; omega)
  subst hc3
  have hins := hip.fin1 (by omega)
  refine c_skip (x_seq (q0 (l_p 2 tK rfl (q1 (c_reg (l_p 1 tK rfl ?_))))))
  refine lC (o_ld tK (h1.cell 3 _ rfl) rfl rfl rfl rfl rfl ?_)
  refine lC (o_ixS tK hk (show t2.kids[1]? = some r by rw [hks]; rfl) rfl rfl rfl rfl rfl rfl rfl rfl rfl ?_)
  intro eby eoy euy hyy haty
  obtain ⟨kvy, rfl, opy, nmy, n64y, hky⟩ := ty_open hyy
  replace haty : At M2 w7 eby eoy [.int .u8 r.op, .string r.name, .int .i64 r.n, kvy] := haty
  refine lC (o_lds tK (fun j v hv => haty.cell j v hv) rfl rfl rfl rfl rfl rfl ?_)
  refine lC (o_st tK h1.box rfl rfl rfl rfl (Rep.one hyy) rfl rfl ?_)
  intro w20 hw20 qw20 bew20
  have uw20 : UpdB _ _ _ := ⟨qw20, bew20⟩
  have sw20 := uw20.stp h1.inM hlow h1.ge
  have frw20 := qw20.2
  replace hT := hT.then sw20
  replace ho := ho.stp sw20 (fun x hx => frw20 x (ho.lt x hx).2 (d_ho_h1 x hx))
  replace hn := hn.stp sw20 (fun x hx => frw20 x (hn.lt x hx).2 (d_hn_h1 x hx))
  replace h3 := h3.stp sw20 (frw20 b3 h3.lt ne_h1_h3.symm)
  replace h5 := h5.stp sw20 (frw20 b5 h5.lt ne_h1_h5.symm)
  replace hE := hE.trans sw20.below
  replace hfd := Rep.stp hfd sw20
  replace hk := hk.stp sw20
  replace hyy := Rep.stp hyy sw20
  replace hky := hky.stp sw20
  replace haty := haty.stp sw20
  replace hsub := sw20.sb hsub
  replace hlow := sw20.low
  replace hB := sw20.z hB
  replace h1 : MB w.heap.size _ w20 b1 _ [.int .u8 r.op, .string r.name, .int .i64 r.n, kvy] := ⟨hw20, h1.inM, h1.ge⟩
  refine q2 ?_
  rw [hins] at hn
  exact x_round5 (r) (kvy) (v2) (M2) (dn ++ [(⟨t2.name, k⟩ : Fld)]) (s3 rfl rfl rfl) ⟨hsr, by rw [List.append_assoc, ← hacc, hsp]; rfl, by rw [← htl, hsp], opy, nmy, n64y, by rw [fieldsF_app]; exact hn, h1, h3, d_hn_h1, d_hn_h3, hky, hT, hlow, hsub, hE, hB⟩ (by rw [psz_eq t2, hks, pszs_cons, pszs_cons]; omega)
 have hne : t2.op ≠ 11 := by omega
 rw [spine_no hne] at hacc htl
 simp only [List.append_nil] at hacc htl
 have hla : dn.length = (spineF t).1.length := by rw [hacc]
 have hlf := fieldsF_len dn
 refine c_exit (x_seqE (x_seqE (x_blkE (x_seq (c_seq ?_)))))
 refine a_beg Ext rfl ?_
 intro w21 ew21
 replace hT := hT.then (Stp.ext ew21 hlow hB)
 replace ho := ho.ext hlow hB ew21
 replace h1 := h1.ext hlow hB ew21
 replace h3 := h3.ext hlow hB ew21
 replace hE := ew21.bl hE hB
 replace hk := hk.ext ew21
 replace hlow := hlow.ext ew21
 replace hB := ew21.z hB
 have hS : Ext w21 w21 := ext_refl _
 have D_h1 := h1.box
 have D_h3 := h3.box
 have D_hk := hk
 refine a_p 0 tK rfl rfl rfl rfl (by kernel_rfl) (fun _ _ _ h => h) hS ?_
 refine a_lds 1 tK (fun _ hs j v hv => (D_h1.ext hs).cell j v hv) rfl rfl rfl rfl rfl rfl rfl (by kernel_rfl) (fun _ _ _ h => h) hS ?_
 refine a_p 2 tK rfl rfl rfl rfl (by kernel_rfl) (fun _ _ _ h => h) hS ?_
 have htl2 := ty_mk op2 nm2 n2 hk
 rw [← ty_eta] at htl2
 refine a_barS Ext 3 rfl (by kernel_rfl) (by kernel_rfl) (o_st tK h3.box rfl rfl rfl rfl (Rep.one htl2) rfl rfl ?_)
 intro w22 hw22 qw22 bew22
 have uw22 : UpdB _ _ _ := ⟨qw22, bew22⟩
 have sw22 := uw22.stp h3.inM hlow h3.ge
 have frw22 := qw22.2
 replace hT := hT.then sw22
 replace ho := ho.stp sw22 (fun x hx => frw22 x (ho.lt x hx).2 (d_ho_h3 x hx))
 replace h1 := h1.stp sw22 (frw22 b1 h1.lt ne_h1_h3)
 replace hE := hE.trans sw22.below
 replace hk := hk.stp sw22
 replace htl2 := Rep.stp htl2 sw22
 replace hsub := sw22.sb hsub
 replace hlow := sw22.low
 replace hB := sw22.z hB
 replace hS : Ext w22 w22 := ext_refl _
 replace h3 : MB w.heap.size _ w22 b3 _ [.int .u8 t2.op, .string t2.name, .int .i64 t2.n, kv] := ⟨hw22, h3.inM, h3.ge⟩
 have D_h1 := h1.box
 have D_h3 := h3.box
 have D_hk := hk
 refine a_end (by kernel_rfl) ?_
 refine x_seq (c_ret ?_)
 refine x_ret2ts tK (fun j v hv => h3.cell j v hv) rfl rfl rfl rfl rfl rfl ?_
 rw [hacc] at ho
 exact ⟨_, _, _, rfl, ho, by rw [← htl]; exact htl2, hT⟩
end Go.Proofs.YtohfnpmehgpphaaGreat
namespace Rw
/-- The canonical form; n: how deep, at most. -/
def canonN : Nat → Ty → Ty
  | 0, t => t
  | n + 1, t => bif decide (t.op = 11) then ofF ((fieldsF (spineF t).1).map fun f => ⟨f.name, canonN n f.ty⟩) (spineF t).2 else .mk t.op t.name t.n (t.kids.map (canonN n))
def canonF (t : Ty) : Ty := canonN (psz t) t
theorem spine_psz (t : Ty) : ∀ f ∈ (spineF t).1, psz f.ty < psz t := by
  induction t using Ty.ind with
  | h t ih =>
    intro f hf
    by_cases ho : t.op = 11
    · rw [spineF_eq] at hf
      split at hf
      · rename_i k r e
        have e1 : t.kids = [k.1, r.1] := by
          have := congrArg (List.map Prod.fst) e
          simpa [List.map_map, Function.comp_def] using this
        have e2 : r.2 = spineF r.1 := by
          rw [e1] at e
          simp at e
          rw [← e.2]
        rw [ho] at hf
        simp only [decide_true, cond_true] at hf
        rw [psz_eq t, e1, pszs_cons, pszs_cons]
        rcases List.mem_cons.1 hf with rfl | hf
        · simp only; omega
        · rw [e2] at hf
          have := ih r.1 (by rw [e1]; simp) f hf
          omega
      · cases hf
    · rw [spine_no ho] at hf
      cases hf
theorem fields_mem {l : List Fld} {f : Fld} (h : f ∈ fieldsF l) : f ∈ l := (fieldsF_st l).symm.mem h
theorem fields_psz {t : Ty} {f : Fld} (h : f ∈ fieldsF (spineF t).1) : psz f.ty < psz t := spine_psz t f (fields_mem h)
theorem kid_psz {t k : Ty} (h : k ∈ t.kids) : psz k < psz t := by
  have := psz_mem h
  rw [psz_eq t]; omega
theorem canonN_eq : ∀ (n m : Nat) (t : Ty), psz t ≤ n → psz t ≤ m → canonN n t = canonN m t
  | 0, _, t, h, _ => by have := psz_pos t; omega
  | _ + 1, 0, t, _, h => by have := psz_pos t; omega
  | n + 1, m + 1, t, h, k => by
    rw [canonN, canonN]
    have e1 : (fieldsF (spineF t).1).map (fun f => (⟨f.name, canonN n f.ty⟩ : Fld)) = (fieldsF (spineF t).1).map fun f => ⟨f.name, canonN m f.ty⟩ := by
      refine List.map_congr_left fun f hf => ?_
      have := fields_psz hf
      rw [canonN_eq n m f.ty (by omega) (by omega)]
    have e2 : t.kids.map (canonN n) = t.kids.map (canonN m) := by
      refine List.map_congr_left fun x hx => ?_
      have := kid_psz hx
      exact canonN_eq n m x (by omega) (by omega)
    rw [e1, e2]
def canonFld (f : Fld) : Fld := ⟨f.name, canonF f.ty⟩
theorem canonF_eq (t : Ty) : canonF t = bif decide (t.op = 11) then ofF ((fieldsF (spineF t).1).map canonFld) (spineF t).2 else .mk t.op t.name t.n (t.kids.map canonF) := by
  unfold canonF
  have hp := psz_pos t
  obtain ⟨n, hn⟩ : ∃ n, psz t = n + 1 := ⟨psz t - 1, by omega⟩
  rw [hn, canonN]
  have e1 : (fieldsF (spineF t).1).map (fun f => (⟨f.name, canonN n f.ty⟩ : Fld)) = (fieldsF (spineF t).1).map canonFld := by
    refine List.map_congr_left fun f hf => ?_
    have := fields_psz hf
    unfold canonFld canonF
    rw [canonN_eq n (psz f.ty) f.ty (by omega) (Nat.le_refl _)]
  have e2 : t.kids.map (canonN n) = t.kids.map fun x => canonN (psz x) x := by
    refine List.map_congr_left fun x hx => ?_
    have := kid_psz hx
    exact canonN_eq n (psz x) x (by omega) (Nat.le_refl _)
  rw [e1, e2]
theorem canon_row {t : Ty} (h : t.op = 11) : canonF t = ofF ((fieldsF (spineF t).1).map canonFld) (spineF t).2 := by rw [canonF_eq, h]; rfl
theorem canon_other {t : Ty} (h : t.op ≠ 11) : canonF t = .mk t.op t.name t.n (t.kids.map canonF) := by rw [canonF_eq, decide_eq_false h]; rfl
theorem shape_114 {t : Ty} {c : UInt8} (h : shapeF t c = true) (ho : t.op = 11) : shapeF t 114 = true := by
  obtain ⟨_, _, _, _, _, h5⟩ := shape_pos h
  rw [ho] at h5
  have hc : (c.toNat : Int) = 114 := by simpa using h5
  have : c = 114 := UInt8.toNat_inj.1 (by
    show c.toNat = 114
    omega)
  rw [← this]; exact h
theorem spine_shape (t : Ty) : shapeF t 114 = true → ∀ f ∈ (spineF t).1, shapeF f.ty 116 = true := by
  induction t using Ty.ind with
  | h t ih =>
    intro hs f hf
    by_cases ho : t.op = 11
    · obtain ⟨k, r, hk, h1, h2⟩ := shape_row hs ho
      rw [spine_yes ho hk] at hf
      rcases List.mem_cons.1 hf with rfl | hf
      · exact h1
      · exact ih r (by rw [hk]; simp) h2 f hf
    · rw [spine_no ho] at hf
      cases hf
theorem kid_shape {t : Ty} {c : UInt8} (h : shapeF t c = true) {i : Nat} (hi : i < t.kids.length) : ∃ d, shapeF t.kids[i] d = true := by
  obtain ⟨ks, _, hl, hall, _, _⟩ := shape_pos h
  have hi2 : i < ks.data.size := by
    have : ks.data.size = ks.size := rfl
    omega
  exact ⟨ks.data[i], hall i _ _ (List.getElem?_eq_getElem hi) (Array.getElem?_eq_getElem hi2)⟩
theorem psz_take {t : Ty} {i : Nat} (hi : i < t.kids.length) : psz t.kids[i] < psz t := kid_psz (List.getElem_mem hi)
/-- The first i have been made canonical. -/
def canTo (l : List Fld) (i : Nat) : List Fld := (l.take i).map canonFld ++ l.drop i
theorem canTo_zero (l : List Fld) : canTo l 0 = l := by simp [canTo]
theorem canTo_len (l : List Fld) (i : Nat) : (canTo l i).length = l.length := by simp [canTo]; omega
theorem canTo_get {l : List Fld} {i : Nat} (hi : i < l.length) : (canTo l i)[i]? = some l[i] := by
  unfold canTo
  rw [List.getElem?_append_right (by simp; omega), List.getElem?_drop]
  simp only [List.length_map, List.length_take]
  rw [show i + (i - min i l.length) = i by omega, List.getElem?_eq_getElem hi]
theorem canTo_set {l : List Fld} {i : Nat} (hi : i < l.length) : (canTo l i).set i (canonFld l[i]) = canTo l (i + 1) := by
  unfold canTo
  rw [take_snoc hi, List.map_append, List.drop_eq_getElem_cons hi, List.set_append_right _ _ (by simp; omega)]
  simp only [List.length_map, List.length_take]
  rw [show i - min i l.length = 0 by omega, List.set_cons_zero, List.append_assoc]
  rfl
theorem canTo_all {l : List Fld} {i : Nat} (hi : l.length ≤ i) : canTo l i = l.map canonFld := by
  unfold canTo
  rw [List.take_of_length_le hi, List.drop_eq_nil_of_le hi, List.append_nil]
def fsum (l : List Fld) : Nat := (l.map fun f => 1 + psz f.ty).sum
theorem fsum_ins (f : Fld) : ∀ l : List Fld, fsum (insF f l) = 1 + psz f.ty + fsum l
  | [] => by simp [fsum, insF]
  | x :: r => by
    unfold insF
    split
    · simp [fsum]
    · have := fsum_ins f r
      simp only [fsum, List.map_cons, List.sum_cons] at this ⊢
      omega
theorem fsum_fields (l : List Fld) : fsum (fieldsF l) = fsum l := by
  have : ∀ (l acc : List Fld), fsum (l.foldl (fun acc f => insF f acc) acc) = fsum acc + fsum l := by
    intro l
    induction l with
    | nil => intro acc; simp [fsum]
    | cons f l ih =>
      intro acc
      rw [List.foldl_cons, ih, fsum_ins]
      simp only [fsum, List.map_cons, List.sum_cons]
      omega
  have h := this l []
  simpa [fsum, fieldsF] using h
theorem row_psz (t : Ty) : psz t = fsum (spineF t).1 + psz (spineF t).2 := by
  induction t using Ty.ind with
  | h t ih =>
    by_cases ho : t.op = 11
    · rcases e : t.kids with _ | ⟨k, _ | ⟨r, _ | ⟨x, l⟩⟩⟩
      · rw [spineF_eq, e]; simp [fsum]
      · rw [spineF_eq, e]; simp [fsum]
      · rw [spine_yes ho e]
        have := ih r (by rw [e]; simp)
        rw [psz_eq t, e, pszs_cons, pszs_cons, pszs_nil]
        simp only [fsum, List.map_cons, List.sum_cons] at this ⊢
        omega
      · rw [spineF_eq, e]; simp [fsum]
    · rw [spine_no ho]; simp [fsum]
theorem psz_of (l : List Fld) (e : Ty) : psz (ofF l e) = fsum l + psz e := by
  induction l with
  | nil => simp [ofF, fsum]
  | cons f l ih =>
    rw [ofF_cons, psz_eq]
    simp only [Ty.kids, pszs_cons, pszs_nil, ih]
    simp only [fsum, List.map_cons, List.sum_cons]
    omega
theorem pszs_map {g : Ty → Ty} : ∀ {l : List Ty}, (∀ x ∈ l, psz (g x) = psz x) → pszs (l.map g) = pszs l
  | [], _ => rfl
  | x :: l, h => by
    rw [List.map_cons, pszs_cons, pszs_cons, h x List.mem_cons_self, pszs_map fun y hy => h y (List.mem_cons_of_mem _ hy)]
theorem psz_canon : ∀ (n : Nat) (t : Ty), psz t ≤ n → psz (canonF t) = psz t
  | 0, t, h => by have := psz_pos t; omega
  | n + 1, t, h => by
    by_cases ho : t.op = 11
    · rw [canon_row ho, psz_of, row_psz t]
      congr 1
      rw [← fsum_fields (spineF t).1]
      unfold fsum
      rw [List.map_map]
      congr 1
      refine List.map_congr_left fun f hf => ?_
      have := fields_psz hf
      show 1 + psz (canonF f.ty) = _
      rw [psz_canon n f.ty (by omega)]
    · rw [canon_other ho, psz_eq, psz_eq t]
      congr 1
      exact pszs_map fun x hx => psz_canon n x (by have := kid_psz hx; omega)
theorem canon_small {t : Ty} {N : Nat} (h : psz t ≤ N) : ∀ x ∈ (fieldsF (spineF t).1).map canonFld, psz x.ty ≤ N := fun x hx => by
  obtain ⟨f, hf, rfl⟩ := List.mem_map.1 hx
  have := fields_psz hf
  show psz (canonF f.ty) ≤ N
  rw [psz_canon _ _ (Nat.le_refl _)]; omega
theorem spine_small {t : Ty} {N : Nat} (h : psz t ≤ N) : psz (spineF t).2 ≤ N := by have := row_psz t; omega
end Rw
namespace Go.Proofs.YtohfnpmehgpphaaGreat
open Go Rw Go.RowKit
set_option maxRecDepth 100000
theorem canon_own (n : Nat) : ∀ (t : Ty) (c : UInt8) (M : Nat → Prop) (w : World) (v : Value), psz t ≤ n → shapeF t c = true → Rep.R M w v t → Low M w → psz t ≤ 2000000 →
  Calls Tryz.prog 79 #[v] w (Ret fun r w' => OTy 25 w.heap.size w' (canonF t) r (Plus NoM w w') ∧ Ext w w') := by
 induction n with
 | zero => intro t c M w v h; have := psz_pos t; omega
 | succ n ih =>
 intro t c M w v hn hsh ht hlow0 hsz
 have hlow := hlow0
 have hB : w.heap.size ≤ w.heap.size := Nat.le_refl _
 have hE : Below w.heap.size w w := Below.refl _ _
 have hsub : ∀ b, M b → M b := fun _ h => h
 obtain ⟨kv, rfl, op, nm, n64, hk⟩ := ty_open ht
 have hps := psz_eq t
 have hkl := len_psz t.kids
 refine c_enter (n := 52) Tryz.func79 rfl rfl rfl ?_
 refine q0 ?_
 refine lC (o_box rfl rfl rfl ?_)
 intro b1 w1 qb1 ew1 hb1
 have sw1 := Stp.add ew1 hlow hB (Nat.le_of_eq qb1.symm) hb1.lt
 have h1 : MB w.heap.size (Rw.Add M b1) w1 b1 25 [.int .u8 t.op, .string t.name, .int .i64 t.n, kv] := MB.mk' hb1 qb1 hB
 replace hE := hE.trans sw1.below
 replace ht := Rep.stp ht sw1
 replace hk := hk.stp sw1
 replace hsub := sw1.sb hsub
 replace hlow := sw1.low
 replace hB := sw1.z hB
 refine lC (o_new tK rfl rfl rfl ?_)
 intro b2 w2 qb2 ew2 hb2
 have ne_h1_h2 : b1 ≠ b2 := by have := h1.lt; omega
 have sw2 := Stp.add ew2 hlow hB (Nat.le_of_eq qb2.symm) hb2.lt
 have h2 : MB w.heap.size (Rw.Add (Rw.Add M b1) b2) w2 b2 25 [.int .u8 0, .string ⟨#[]⟩, .int .i64 0, .slice none 0 0] := MB.mk' hb2 qb2 hB
 replace h1 := h1.stp sw2 (ew2.block b1 h1.lt)
 replace hE := hE.trans sw2.below
 replace ht := Rep.stp ht sw2
 replace hk := hk.stp sw2
 replace hsub := sw2.sb hsub
 replace hlow := sw2.low
 replace hB := sw2.z hB
 refine q1 (c_seq (q0 (l_p 1 tK rfl ?_)))
 refine lC (o_ld tK (h1.cell 0 _ rfl) rfl rfl rfl rfl rfl ?_)
 refine l_p 1 tK rfl (q1 ?_)
 refine c_ifP _ rfl (fun hc0 => ?_) (fun hc0 => ?_)
 ·have hop : t.op = 11 := by omega
  refine q0 ?_
  refine lC (o_lds tK (fun j v hv => h1.cell j v hv) rfl rfl rfl rfl rfl rfl ?_)
  have hsh2 := shape_114 hsh hop
  have hsl := spine_len t
  have hfl0 := fieldsF_len (spineF t).1
  have lh1 := h1.lt
  have lh2 := h2.lt
  refine lC (o_call fo95 rfl rfl rfl (flat_spec t _ _ _ hsh2 ht hlow hsz) ?_)
  rintro _ w3 ⟨xv, tv, M2, rfl, ho, htl, sw3⟩
  have blw3 := sw3.below
  have d_ho_h1 : ∀ x, (xv : Value).ownBlock = some x → x ≠ b1 := fun x hx => by have := (ho.lt x hx).1; omega
  have d_ho_h2 : ∀ x, (xv : Value).ownBlock = some x → x ≠ b2 := fun x hx => by have := (ho.lt x hx).1; omega
  replace sw3 := sw3.mono hB
  replace ho := ho.mono hB
  replace h1 := h1.stp sw3 (blw3.block b1 lh1)
  replace h2 := h2.stp sw3 (blw3.block b2 lh2)
  replace hE := hE.trans sw3.below
  replace ht := Rep.stp ht sw3
  replace hk := hk.stp sw3
  replace hsub := sw3.sb hsub
  replace hlow := sw3.low
  replace hB := sw3.z hB
  obtain ⟨kve, rfl, ope, nme, n64e, hke⟩ := ty_open htl
  refine l_p 3 tK rfl ?_
  refine lC (o_new tK rfl rfl rfl ?_)
  intro b4 w4 qb4 ew4 hb4
  have nb4 := nM_of hlow qb4
  refine l_p 1 tK rfl ?_
  refine lC (o_st tK hb4 rfl rfl rfl rfl (Rep.one htl) rfl rfl ?_)
  intro w5 h4 uw5 bew5
  have ew5 : Ext w3 w5 := ew4.trans (bew5 _ (Nat.le_of_eq qb4.symm))
  replace h1 := h1.ext hlow hB ew5
  replace h2 := h2.ext hlow hB ew5
  replace ho := ho.ext hlow hB ew5
  replace hE := ew5.bl hE hB
  replace ht := Rep.ext ht ew5
  replace hk := hk.ext ew5
  replace htl := Rep.ext htl ew5
  replace hke := hke.ext ew5
  replace hlow := hlow.ext ew5
  replace hB := ew5.z hB
  replace h4 : Box w5 b4 25 [.int .u8 (spineF t).2.op, .string (spineF t).2.name, .int .i64 (spineF t).2.n, kve] := h4
  replace h4 := h4.at nb4
  refine q1 (c_seq (q0 (l_p 1 tK rfl ?_)))
  refine lC (o_lenO tK ho rfl rfl rfl rfl rfl ?_)
  refine l_p 1 tK rfl (q1 (c_blk ?_))
  refine c_loop (X := Nat) (fun i => [(2, .pointer (some ⟨b2, 0, none⟩)), (3, xv), (4, .pointer (some ⟨b4, 0, none⟩)), (18, .int .i64 ((fieldsF (spineF t).1).length : Int)), (19, .int .i64 (i : Nat))]) (fun i w' => i ≤ (fieldsF (spineF t).1).length ∧ OwnSl 74 w.heap.size M2 w' xv (canTo (fieldsF (spineF t).1) i) ∧ MB w.heap.size M2 w' b1 25 [.int .u8 t.op, .string t.name, .int .i64 t.n, kv] ∧ MB w.heap.size M2 w' b2 25 [.int .u8 0, .string ⟨#[]⟩, .int .i64 0, .slice none 0 0] ∧ At M2 w' b4 0 [.int .u8 (spineF t).2.op, .string (spineF t).2.name, .int .i64 (spineF t).2.n, kve] ∧ Rep.R M2 w' (.agg #[.int .u8 (spineF t).2.op, .string (spineF t).2.name, .int .i64 (spineF t).2.n, kve]) (spineF t).2 ∧ Low M2 w' ∧ (∀ b, M b → M2 b) ∧ Below w.heap.size w w' ∧ w.heap.size ≤ w'.heap.size) (fun i => (fieldsF (spineF t).1).length - i) (0) (s5 rfl rfl rfl (get_num rfl (by omega)) (get_num rfl rfl)) ?_ ?_
  ·refine ⟨Nat.zero_le _, ?_, h1, h2, h4, htl, hlow, hsub, hE, hB⟩
   rw [canTo_zero]; exact ho
  clear hsub
  rintro i w6 ⟨hi, ho, h1, h2, h4, htl, hlow, hsub, hE, hB⟩
  have hcl := canTo_len (fieldsF (spineF t).1) i
  refine q0 (l_p 1 tK rfl (q1 (c_seq ?_)))
  refine c_ifP _ rfl (fun c1 => ?_) (fun c1 => ?_)
  ·have hil : i < (fieldsF (spineF t).1).length := by omega
   refine c_skip (x_seq (c_seq (c_blk (q0 (l_p 2 tK rfl (q1 (c_reg (l_p 4 tK rfl ?_))))))))
   refine lC (o_ixO tK ho (canTo_get hil) rfl rfl rfl rfl rfl rfl rfl rfl rfl ?_)
   intro ibx iux hobx hrx hatx
   obtain ⟨szx, kvx, rfl, hyx⟩ := fld_open hrx
   replace hatx : At NoM w6 ibx _ [.string (fieldsF (spineF t).1)[i].name, .int .u8 (fieldsF (spineF t).1)[i].ty.op, .string (fieldsF (spineF t).1)[i].ty.name, .int .i64 (fieldsF (spineF t).1)[i].ty.n, kvx] := ⟨(ho.lt _ hobx).2, fun h => h, hatx.cell⟩
   refine l_p 1 tK rfl ?_
   refine lC (o_lds tK (fun j v hv => (hatx).drop 1 (sub := [.int .u8 (fieldsF (spineF t).1)[i].ty.op, .string (fieldsF (spineF t).1)[i].ty.name, .int .i64 (fieldsF (spineF t).1)[i].ty.n, kvx]) rfl j v hv) rfl rfl rfl rfl rfl rfl ?_)
   have hfm := List.getElem_mem hil
   have hfp := fields_psz hfm
   have hfs := spine_shape t hsh2 _ (fields_mem hfm)
   refine lC (o_call fo79 rfl rfl rfl (ih _ 116 _ _ _ (by omega) hfs hyx hlow (by omega)) ?_)
   rintro vc w7 ⟨hc, ew7⟩
   replace hc := hc.repNew hlow
   replace ho := ho.ext hlow hB ew7
   replace h1 := h1.ext hlow hB ew7
   replace h2 := h2.ext hlow hB ew7
   replace hE := ew7.bl hE hB
   replace h4 := h4.ext ew7
   replace htl := Rep.ext htl ew7
   replace hrx := Rep.ext hrx ew7
   replace hyx := Rep.ext hyx ew7
   replace hlow := hlow.ext ew7
   replace hB := ew7.z hB
   obtain ⟨kvc, rfl, opc, nmc, n64c, hkc⟩ := ty_open hc
   refine lC (o_ixO tK ho (canTo_get hil) rfl rfl rfl rfl rfl rfl rfl rfl rfl ?_)
   intro ibz iuz hobz hrz hatz
   obtain ⟨szz, kvz, rfl, hyz⟩ := fld_open hrz
   replace hatz : OAt _ _ _ [.string (fieldsF (spineF t).1)[i].name, .int .u8 (fieldsF (spineF t).1)[i].ty.op, .string (fieldsF (spineF t).1)[i].ty.name, .int .i64 (fieldsF (spineF t).1)[i].ty.n, kvz] := hatz
   refine l_p 1 tK rfl ?_
   have hnf : Rep.R _ w7 (.agg #[.string (fieldsF (spineF t).1)[i].name, .int .u8 (canonF (fieldsF (spineF t).1)[i].ty).op, .string (canonF (fieldsF (spineF t).1)[i].ty).name, .int .i64 (canonF (fieldsF (spineF t).1)[i].ty).n, kvc]) (canonFld (fieldsF (spineF t).1)[i]) := fld_mk szz hc
   refine lC (o_stP (j := i) (k := 1) (us := [.string (fieldsF (spineF t).1)[i].name, .int .u8 (fieldsF (spineF t).1)[i].ty.op, .string (fieldsF (spineF t).1)[i].ty.name, .int .i64 (fieldsF (spineF t).1)[i].ty.n, kvz]) tK ho hobz (by omega) (fun q a hq => hatz.cell q a hq) rfl hnf hlow rfl rfl rfl rfl rfl rfl rfl (Rep.one hc) (by decide) rfl rfl ?_)
   intro w8 hw8 sw8 frw8
   replace h1 := h1.stp sw8 (frw8 b1 h1.lt (fun e => d_ho_h1 _ hobz e.symm))
   replace h2 := h2.stp sw8 (frw8 b2 h2.lt (fun e => d_ho_h2 _ hobz e.symm))
   replace hE := hE.trans sw8.below
   replace h4 := h4.stp sw8
   replace htl := Rep.stp htl sw8
   replace hrx := Rep.stp hrx sw8
   replace hyx := Rep.stp hyx sw8
   replace hc := Rep.stp hc sw8
   replace hsub := sw8.sb hsub
   replace hlow := sw8.low
   replace hB := sw8.z hB
   replace ho := hw8
   clear hw8
   refine q2 (x_seq (c_reg ?_))
   refine lC (o_ai rfl rfl rfl (by omega) rfl rfl ?_)
   refine l_p 1 tK rfl (l_nil ?_)
   exact x_round (i + 1) (s5 rfl rfl rfl rfl (get_num rfl (by omega))) ⟨by omega, by rw [← canTo_set hil]; exact ho, h1, h2, h4, htl, hlow, hsub, hE, hB⟩ (by omega)
  refine c_exit (x_seqE (x_seqE (x_blkE (x_seq (q0 (l_p 1 tK rfl ?_))))))
  refine lC (o_lds tK (fun j v hv => h4.cell j v hv) rfl rfl rfl rfl rfl rfl ?_)
  have hall : canTo (fieldsF (spineF t).1) i = (fieldsF (spineF t).1).map canonFld := canTo_all (by omega)
  rw [hall] at ho
  have hml : ((fieldsF (spineF t).1).map canonFld).length = (fieldsF (spineF t).1).length := List.length_map _
  have hfz := ho.froze (by omega)
  replace h1 := h1.less (v := xv) d_ho_h1
  replace h2 := h2.less (v := xv) d_ho_h2
  replace h4 := h4.wk (fun b _ h => less_sub (v := xv) b h)
  replace htl := Rep.wk htl (fun b _ h => less_sub (v := xv) b h)
  replace hlow : Low (Less M2 xv) w6 := fun b h => hlow b h.1
  replace hsub : ∀ b, _ → Less M2 xv b := fun b h => ⟨hsub b h, fun e => by have := (ho.lt b e).1; have := hlow0 b h; omega⟩
  have l_h1 := h1.lt
  have l_h2 := h2.lt
  have hB0 := hB
  refine lC (o_call fo96 rfl rfl rfl (join_own _ _ _ _ _ _ 0 hfz htl hlow (canon_small hsz) (spine_small hsz)) ?_)
  rintro vj w9 ⟨hj, ew9⟩
  rw [← canon_row hop] at hj
  replace hj := hj.ge hB0
  have hGl : ∀ c, Plus NoM w6 w9 c → w6.heap.size ≤ c := fun c h => h.elim (fun h => h.elim) (fun h => h.1)
  replace h1 := h1.ext hlow hB ew9
  replace h2 := h2.ext hlow hB ew9
  replace hE := ew9.bl hE hB
  replace h4 := h4.ext ew9
  replace htl := Rep.ext htl ew9
  replace hfz := hfz.ext ew9
  replace hlow := hlow.ext ew9
  replace hB := ew9.z hB
  generalize Plus NoM w6 w9 = G at hj hGl
  have d_hj_h1 : ∀ x, G x → x ≠ b1 := fun x hx => by have := hGl x hx; omega
  have d_hj_h2 : ∀ x, G x → x ≠ b2 := fun x hx => by have := hGl x hx; omega
  obtain ⟨kvj, usj, Hj, rfl, opj, nmj, n64j, hknj, hrj, hOj, hHj⟩ := oty_open hj
  refine lC (o_st tK h2.box rfl rfl rfl rfl hj.one rfl rfl ?_)
  intro w10 hw10 qw10 bew10
  have uw10 : UpdB _ _ _ := ⟨qw10, bew10⟩
  have sw10 := uw10.stp h2.inM hlow h2.ge
  have frw10 := qw10.2
  replace h1 := h1.stp sw10 (frw10 b1 h1.lt ne_h1_h2)
  replace hj := hj.stp sw10 (fun x hx => frw10 x (hj.lt x hx).2 (d_hj_h2 x hx))
  replace hE := hE.trans sw10.below
  replace h4 := h4.stp sw10
  replace htl := Rep.stp htl sw10
  replace hfz := hfz.stp sw10
  replace hsub := sw10.sb hsub
  replace hlow := sw10.low
  replace hB := sw10.z hB
  replace h2 : MB w.heap.size _ w10 b2 _ [.int .u8 (canonF t).op, .string (canonF t).name, .int .i64 (canonF t).n, kvj] := ⟨hw10, h2.inM, h2.ge⟩
  refine q1 (c_ret (x_seqR ?_))
  refine x_ret1s tK (fun j v hv => h2.cell j v hv) rfl rfl rfl rfl rfl ?_
  exact ⟨hj.mono (fun c hc => .inr (hj.lt c hc)) (fun c hc => hc.elim (fun h => h.elim) id), hE⟩
 have hop : t.op ≠ 11 := by omega
 refine c_skip (x_seq (q0 (l_p 1 tK rfl (q1 (c_seq (q0 (l_p 1 tK rfl ?_)))))))
 refine lC (o_ld tK (h1.cell 3 _ rfl) rfl rfl rfl rfl rfl ?_)
 refine lC (o_len tK hk rfl rfl rfl rfl rfl ?_)
 refine l_p 1 tK rfl (q1 (c_blk ?_))
 have d_ho_h1 : ∀ x, (.slice none 0 0 : Value).ownBlock = some x → x ≠ b1 := fun x hx => by simp [Value.ownBlock] at hx
 have d_ho_h2 : ∀ x, (.slice none 0 0 : Value).ownBlock = some x → x ≠ b2 := fun x hx => by simp [Value.ownBlock] at hx
 have d_hO_h1 : ∀ x, NoM x → x ≠ b1 := fun _ h => h.elim
 have d_hO_h2 : ∀ x, NoM x → x ≠ b2 := fun _ h => h.elim
 have dd_ho_hO : ∀ x y, (.slice none 0 0 : Value).ownBlock = some x → NoM y → x ≠ y := fun _ _ _ h => h.elim
 refine c_loop5 (X := Nat) (Y := Value) (Z := Nat → Prop) (U := List (VN 3)) (V := Nat → Prop) (fun i v M1 us F => [(1, .pointer (some ⟨b1, 0, none⟩)), (2, .pointer (some ⟨b2, 0, none⟩)), (6, v), (37, kv), (38, .int .i64 (t.kids.length : Int)), (39, .int .i64 (i : Nat))]) (fun i v M1 us F w' => i ≤ t.kids.length ∧ OwnSl 25 w.heap.size M1 w' v us ∧ OTs 25 w.heap.size w' us ((t.kids.take i).map canonF) F ∧ MB w.heap.size M1 w' b1 25 [.int .u8 t.op, .string t.name, .int .i64 t.n, kv] ∧ MB w.heap.size M1 w' b2 25 [.int .u8 0, .string ⟨#[]⟩, .int .i64 0, .slice none 0 0] ∧ (∀ x, (v : Value).ownBlock = some x → x ≠ b1) ∧ (∀ x, (v : Value).ownBlock = some x → x ≠ b2) ∧ (∀ x, F x → x ≠ b1) ∧ (∀ x, F x → x ≠ b2) ∧ (∀ x y, (v : Value).ownBlock = some x → F y → x ≠ y) ∧ Sl M1 w' kv t.kids ∧ Low M1 w' ∧ (∀ b, M b → M1 b) ∧ Below w.heap.size w w' ∧ w.heap.size ≤ w'.heap.size) (fun i v M1 us F => t.kids.length - i) (0) (.slice none 0 0) ((Rw.Add (Rw.Add M b1) b2)) ([]) (NoM) (s6 rfl rfl rfl rfl rfl rfl) ?_ ?_
 ·exact ⟨Nat.zero_le _, own_nil, ots_nil (fun _ h => h.elim), h1, h2, d_ho_h1, d_ho_h2, d_hO_h1, d_hO_h2, dd_ho_hO, hk, hlow, hsub, hE, hB⟩
 rintro i v M1 us F w11 ⟨hi, ho, hO, h1, h2, d_ho_h1, d_ho_h2, d_hO_h1, d_hO_h2, dd_ho_hO, hk, hlow, hsub, hE, hB⟩
 have hul := hO.len
 rw [List.length_map, List.length_take] at hul
 refine q0 (l_p 1 tK rfl (q1 (c_seq ?_)))
 refine c_ifP _ rfl (fun c2 => ?_) (fun c2 => ?_)
 ·refine c_skip (x_seq (c_seq (c_blk (q0 ?_))))
  have hik : i < t.kids.length := by omega
  have hp1 := psz_take hik
  obtain ⟨kd, hkd⟩ := kid_shape hsh hik
  refine lC (o_ixS tK hk (List.getElem?_eq_getElem hik) rfl rfl rfl rfl rfl rfl rfl rfl rfl ?_)
  intro ebx eox eux hyx hatx
  obtain ⟨kvx, rfl, opx, nmx, n64x, hkx⟩ := ty_open hyx
  replace hatx : At M1 w11 ebx eox [.int .u8 t.kids[i].op, .string t.kids[i].name, .int .i64 t.kids[i].n, kvx] := hatx
  refine lC (o_lds tK (fun j v hv => hatx.cell j v hv) rfl rfl rfl rfl rfl rfl ?_)
  refine lC (o_new tK rfl rfl rfl ?_)
  intro b8 w12 qb8 ew12 hb8
  have nb8 := nM_of hlow qb8
  refine lC (o_st tK hb8 rfl rfl rfl rfl (Rep.one hyx) rfl rfl ?_)
  intro w13 h8 uw13 bew13
  have ew13 : Ext w11 w13 := ew12.trans (bew13 _ (Nat.le_of_eq qb8.symm))
  replace ho := ho.ext hlow hB ew13
  replace hO := hO.ext hlow hB ew13
  replace h1 := h1.ext hlow hB ew13
  replace h2 := h2.ext hlow hB ew13
  replace hE := ew13.bl hE hB
  replace hk := hk.ext ew13
  replace hyx := Rep.ext hyx ew13
  replace hkx := hkx.ext ew13
  replace hatx := hatx.ext ew13
  replace hlow := hlow.ext ew13
  replace hB := ew13.z hB
  replace h8 : Box w13 b8 25 [.int .u8 t.kids[i].op, .string t.kids[i].name, .int .i64 t.kids[i].n, kvx] := h8
  replace h8 := h8.at nb8
  refine q1 (c_reg (l_p 1 tK rfl ?_))
  refine lC (o_lds tK (fun j v hv => h8.cell j v hv) rfl rfl rfl rfl rfl rfl ?_)
  have l_h1 := h1.lt
  have l_h2 := h2.lt
  have l_ho := ho.lt
  have l_hO := hO.lt
  have hB0 := hB
  refine lC (o_call fo79 rfl rfl rfl (ih _ _ _ _ _ (by omega) hkd hyx hlow (by omega)) ?_)
  rintro vc w14 ⟨hc, ew14⟩
  replace hc := hc.ge hB0
  have hGl : ∀ c, Plus NoM w13 w14 c → w13.heap.size ≤ c := fun c h => h.elim (fun h => h.elim) (fun h => h.1)
  replace ho := ho.ext hlow hB ew14
  replace hO := hO.ext hlow hB ew14
  replace h1 := h1.ext hlow hB ew14
  replace h2 := h2.ext hlow hB ew14
  replace hE := ew14.bl hE hB
  replace hk := hk.ext ew14
  replace hyx := Rep.ext hyx ew14
  replace hkx := hkx.ext ew14
  replace hatx := hatx.ext ew14
  replace h8 := h8.ext ew14
  replace hlow := hlow.ext ew14
  replace hB := ew14.z hB
  generalize Plus NoM w13 w14 = G at hc hGl
  have d_hc_h1 : ∀ x, G x → x ≠ b1 := fun x hx => by have := hGl x hx; omega
  have d_hc_h2 : ∀ x, G x → x ≠ b2 := fun x hx => by have := hGl x hx; omega
  have dd_ho_hc : ∀ x y, (v : Value).ownBlock = some x → G y → x ≠ y := fun x y hx hy => by have := hGl y hy; have := (l_ho x hx).2; omega
  have dd_hc_hO : ∀ c, G c → ¬ F c := fun c hg hf => by have := hGl c hg; have := (l_hO c hf).2; omega
  refine lC (o_bs tK rfl rfl rfl rfl rfl rfl rfl (sz1 hc.size) rfl rfl rfl ?_)
  intro bw15 w15 qbw15 ew15 hbw15
  have nbw15 := nM_of hlow qbw15
  replace ho := ho.ext hlow hB ew15
  replace hO := hO.ext hlow hB ew15
  replace h1 := h1.ext hlow hB ew15
  replace h2 := h2.ext hlow hB ew15
  replace hc := hc.ext hlow hB ew15
  replace hE := ew15.bl hE hB
  replace hk := hk.ext ew15
  replace hyx := Rep.ext hyx ew15
  replace hkx := hkx.ext ew15
  replace hatx := hatx.ext ew15
  replace h8 := h8.ext ew15
  replace hlow := hlow.ext ew15
  replace hB := ew15.z hB
  refine lC (o_app1 tK ho hbw15 nbw15 hc.vn hlow hB rfl rfl rfl rfl rfl rfl rfl (by omega) (by show (_ + _) * 56 ≤ _; omega) rfl rfl ?_)
  intro vw16 w16 Mw16 hw16 sw16 frw16 blw16
  have zd_ho_h1 := d_ho_h1
  replace d_ho_h1 : ∀ x, (vw16 : Value).ownBlock = some x → x ≠ b1 := fun x hx => (blw16 x hx).elim (d_ho_h1 x) (fun h e => by have := h1.lt; omega)
  have zd_ho_h2 := d_ho_h2
  replace d_ho_h2 : ∀ x, (vw16 : Value).ownBlock = some x → x ≠ b2 := fun x hx => (blw16 x hx).elim (d_ho_h2 x) (fun h e => by have := h2.lt; omega)
  have zdd_ho_hO := dd_ho_hO
  replace dd_ho_hO : ∀ x y, (vw16 : Value).ownBlock = some x → F y → x ≠ y := fun x y hx hy => (blw16 x hx).elim (fun h => dd_ho_hO x y h hy) (fun h e => by have := (hO.lt y hy).2; omega)
  have zdd_ho_hc := dd_ho_hc
  replace dd_ho_hc : ∀ x y, (vw16 : Value).ownBlock = some x → G y → x ≠ y := fun x y hx hy => (blw16 x hx).elim (fun h => dd_ho_hc x y h hy) (fun h e => by have := (hc.lt y hy).2; omega)
  replace hO := hO.stp sw16 (fun x hx => frw16 x (hO.lt x hx).2 (fun e => zdd_ho_hO x x e.symm hx rfl))
  replace h1 := h1.stp sw16 (frw16 b1 h1.lt (fun e => zd_ho_h1 _ e.symm rfl))
  replace h2 := h2.stp sw16 (frw16 b2 h2.lt (fun e => zd_ho_h2 _ e.symm rfl))
  replace hc := hc.stp sw16 (fun x hx => frw16 x (hc.lt x hx).2 (fun e => zdd_ho_hc x x e.symm hx rfl))
  replace hE := hE.trans sw16.below
  replace hk := hk.stp sw16
  replace hyx := Rep.stp hyx sw16
  replace hkx := hkx.stp sw16
  replace hatx := hatx.stp sw16
  replace h8 := h8.stp sw16
  replace hsub := sw16.sb hsub
  replace hlow := sw16.low
  replace hB := sw16.z hB
  replace ho := hw16
  clear hw16
  refine l_p 1 tK rfl (q2 (x_seq (c_reg ?_)))
  refine lC (o_ai rfl rfl rfl (by omega) rfl rfl ?_)
  refine l_p 1 tK rfl (l_nil ?_)
  have hO2 := hO.app hc dd_hc_hO
  exact x_round5 (i + 1) (vw16) (Mw16) (us ++ [⟨vc⟩]) (fun c => F c ∨ G c) (s6 rfl rfl rfl rfl rfl (get_num rfl (by omega))) ⟨by omega, ho, by rw [List.take_succ_eq_append_getElem hik, List.map_append]; exact hO2, h1, h2, d_ho_h1, d_ho_h2, (fun x hx => hx.elim (d_hO_h1 x) (d_hc_h1 x)), (fun x hx => hx.elim (d_hO_h2 x) (d_hc_h2 x)), (fun x y hx hy => hy.elim (dd_ho_hO x y hx) (dd_ho_hc x y hx)), hk, hlow, hsub, hE, hB⟩ (by omega)
 refine c_exit (x_seqE (x_seqE (x_blkE (x_seq (q0 (l_p 2 tK rfl ?_))))))
 obtain rfl : i = t.kids.length := by omega
 rw [List.take_of_length_le (Nat.le_refl _)] at hO
 obtain ⟨av, cv, rfl, hcv⟩ := ho.val
 refine lC (o_st tK h1.box rfl rfl rfl rfl (by simp [Value.cells, Value.oneCell']) rfl rfl ?_)
 intro w17 hw17 qw17 bew17
 have uw17 : UpdB _ _ _ := ⟨qw17, bew17⟩
 have sw17 := uw17.stp h1.inM hlow h1.ge
 have frw17 := qw17.2
 replace ho := ho.stp sw17 (fun x hx => frw17 x (ho.lt x hx).2 (d_ho_h1 x hx))
 replace hO := hO.stp sw17 (fun x hx => frw17 x (hO.lt x hx).2 (d_hO_h1 x hx))
 replace h2 := h2.stp sw17 (frw17 b2 h2.lt ne_h1_h2.symm)
 replace hE := hE.trans sw17.below
 replace hk := hk.stp sw17
 replace hsub := sw17.sb hsub
 replace hlow := sw17.low
 replace hB := sw17.z hB
 replace h1 : MB w.heap.size _ w17 b1 _ [.int .u8 t.op, .string t.name, .int .i64 t.n, .slice av us.length cv] := ⟨hw17, h1.inM, h1.ge⟩
 refine q1 (q0 ?_)
 refine lC (o_lds tK (fun j v hv => h1.cell j v hv) rfl rfl rfl rfl rfl rfl ?_)
 refine lC (o_st tK h2.box rfl rfl rfl rfl (by intro u hu; simp [Value.cells] at hu; rcases hu with rfl | rfl | rfl | rfl <;> rfl) rfl rfl ?_)
 intro w18 hw18 qw18 bew18
 have uw18 : UpdB _ _ _ := ⟨qw18, bew18⟩
 have sw18 := uw18.stp h2.inM hlow h2.ge
 have frw18 := qw18.2
 replace ho := ho.stp sw18 (fun x hx => frw18 x (ho.lt x hx).2 (d_ho_h2 x hx))
 replace hO := hO.stp sw18 (fun x hx => frw18 x (hO.lt x hx).2 (d_hO_h2 x hx))
 replace h1 := h1.stp sw18 (frw18 b1 h1.lt ne_h1_h2)
 replace hE := hE.trans sw18.below
 replace hk := hk.stp sw18
 replace hsub := sw18.sb hsub
 replace hlow := sw18.low
 replace hB := sw18.z hB
 replace h2 : MB w.heap.size _ w18 b2 _ [.int .u8 t.op, .string t.name, .int .i64 t.n, .slice av us.length cv] := ⟨hw18, h2.inM, h2.ge⟩
 refine q1 (c_ret ?_)
 refine x_ret1s tK (fun j v hv => h2.cell j v hv) rfl rfl rfl rfl rfl ?_
 have hfin := oty_fin op nm n64 (by simp; omega) ho hO dd_ho_hO
 rw [← canon_other hop] at hfin
 exact ⟨hfin, hE⟩
theorem canon_all (n : Nat) (t : Ty) (c : UInt8) (M : Nat → Prop) (w : World) (v : Value) (hn : psz t ≤ n) (hsh : shapeF t c = true) (ht : Rep.R M w v t) (hlow : Low M w) (hsz : psz t ≤ 2000000) :
  Calls Tryz.prog 79 #[v] w (Ret fun r w' => Rep.R M w' r (canonF t) ∧ Ext w w') := (canon_own n t c M w v hn hsh ht hlow hsz).mono (Ret.mono fun r w' h => ⟨h.1.repNew hlow, h.2⟩)
theorem refCanon_all (n : Nat) : ∀ (t : Ty) (c : UInt8) (M : Nat → Prop) (w : World) (v : Value), psz t ≤ n → shapeF t c = true → Rep.R M w v t → Low M w → psz t ≤ 2000000 →
  Calls Tryz.prog 32 #[v] w (Ret fun r w' => Rep.R M w' r (canonF t) ∧ Ext w w') := by
 induction n with
 | zero => intro t c M w v h; have := psz_pos t; omega
 | succ n ih =>
 intro t c M w v hn hsh ht hlow0 hsz
 have hlow := hlow0
 have hB : w.heap.size ≤ w.heap.size := Nat.le_refl _
 have hE : Below w.heap.size w w := Below.refl _ _
 have hsub : ∀ b, M b → M b := fun _ h => h
 obtain ⟨kv, rfl, op, nm, n64, hk⟩ := ty_open ht
 have hps := psz_eq t
 have hkl := len_psz t.kids
 refine c_enter (n := 61) Tryz.func32 rfl rfl rfl ?_
 refine q0 ?_
 refine lC (o_box rfl rfl rfl ?_)
 intro b1 w1 hb_b1 ew1 h1
 replace h1 : Box _ b1 25 [.int .u8 t.op, .string t.name, .int .i64 t.n, kv] := h1
 replace h1 := h1.at (nM_of hlow hb_b1)
 replace hE := ew1.bl hE hB
 replace ht := Rep.ext ht ew1
 replace hk := hk.ext ew1
 replace hlow := hlow.ext ew1
 replace hB := ew1.z hB
 refine lC (o_new tK rfl rfl rfl ?_)
 intro b2 w2 qb2 ew2 hb2
 have sw2 := Stp.add ew2 hlow hB (Nat.le_of_eq qb2.symm) hb2.lt
 have h2 : MB w.heap.size (Rw.Add M b2) w2 b2 25 [.int .u8 0, .string ⟨#[]⟩, .int .i64 0, .slice none 0 0] := MB.mk' hb2 qb2 hB
 replace hE := hE.trans sw2.below
 replace ht := Rep.stp ht sw2
 replace hk := hk.stp sw2
 replace h1 := h1.stp sw2
 replace hsub := sw2.sb hsub
 replace hlow := sw2.low
 replace hB := sw2.z hB
 refine q1 (c_seq (q0 (l_p 1 tK rfl ?_)))
 refine lC (o_ld tK (h1.cell 0 _ rfl) rfl rfl rfl rfl rfl ?_)
 refine l_p 1 tK rfl (q1 ?_)
 refine c_ifP _ rfl (fun hc0 => ?_) (fun hc0 => ?_)
 ·have hop : t.op = 11 := by omega
  refine q0 ?_
  refine lC (o_lds tK (fun j v hv => h1.cell j v hv) rfl rfl rfl rfl rfl rfl ?_)
  have hsh2 := shape_114 hsh hop
  have hsl := spine_len t
  have hfl0 := fieldsF_len (spineF t).1
  have lh2 := h2.lt
  refine lC (o_call fo55 rfl rfl rfl (fields_own t _ _ _ hsh2 ht hlow hsz) ?_)
  rintro _ w3 ⟨xv, tv, M2, rfl, ho, htl, sw3⟩
  have blw3 := sw3.below
  have d_ho_h2 : ∀ x, (xv : Value).ownBlock = some x → x ≠ b2 := fun x hx => by have := (ho.lt x hx).1; omega
  replace sw3 := sw3.mono hB
  replace ho := ho.mono hB
  replace h2 := h2.stp sw3 (blw3.block b2 lh2)
  replace hE := hE.trans sw3.below
  replace ht := Rep.stp ht sw3
  replace hk := hk.stp sw3
  replace h1 := h1.stp sw3
  replace hsub := sw3.sb hsub
  replace hlow := sw3.low
  replace hB := sw3.z hB
  obtain ⟨kve, rfl, ope, nme, n64e, hke⟩ := ty_open htl
  refine l_p 3 tK rfl ?_
  refine lC (o_new tK rfl rfl rfl ?_)
  intro b4 w4 qb4 ew4 hb4
  have nb4 := nM_of hlow qb4
  refine l_p 1 tK rfl ?_
  refine lC (o_st tK hb4 rfl rfl rfl rfl (Rep.one htl) rfl rfl ?_)
  intro w5 h4 uw5 bew5
  have ew5 : Ext w3 w5 := ew4.trans (bew5 _ (Nat.le_of_eq qb4.symm))
  replace h2 := h2.ext hlow hB ew5
  replace ho := ho.ext hlow hB ew5
  replace hE := ew5.bl hE hB
  replace ht := Rep.ext ht ew5
  replace hk := hk.ext ew5
  replace h1 := h1.ext ew5
  replace htl := Rep.ext htl ew5
  replace hke := hke.ext ew5
  replace hlow := hlow.ext ew5
  replace hB := ew5.z hB
  replace h4 : Box w5 b4 25 [.int .u8 (spineF t).2.op, .string (spineF t).2.name, .int .i64 (spineF t).2.n, kve] := h4
  replace h4 := h4.at nb4
  refine q1 (c_seq (q0 (l_p 1 tK rfl (q1 (c_blk ?_)))))
  refine c_loop (X := Nat) (fun i => [(2, .pointer (some ⟨b2, 0, none⟩)), (3, xv), (4, .pointer (some ⟨b4, 0, none⟩)), (5, .int .i64 (i : Nat))]) (fun i w' => i ≤ (fieldsF (spineF t).1).length ∧ OwnSl 74 w.heap.size M2 w' xv (canTo (fieldsF (spineF t).1) i) ∧ MB w.heap.size M2 w' b2 25 [.int .u8 0, .string ⟨#[]⟩, .int .i64 0, .slice none 0 0] ∧ At M2 w' b4 0 [.int .u8 (spineF t).2.op, .string (spineF t).2.name, .int .i64 (spineF t).2.n, kve] ∧ Rep.R M2 w' (.agg #[.int .u8 (spineF t).2.op, .string (spineF t).2.name, .int .i64 (spineF t).2.n, kve]) (spineF t).2 ∧ Low M2 w' ∧ (∀ b, M b → M2 b) ∧ Below w.heap.size w w' ∧ w.heap.size ≤ w'.heap.size) (fun i => (fieldsF (spineF t).1).length - i) (0) (s4 rfl rfl rfl (get_num rfl rfl)) ?_ ?_
  ·refine ⟨Nat.zero_le _, ?_, h2, h4, htl, hlow, hsub, hE, hB⟩
   rw [canTo_zero]; exact ho
  clear hsub
  rintro i w6 ⟨hi, ho, h2, h4, htl, hlow, hsub, hE, hB⟩
  have hcl := canTo_len (fieldsF (spineF t).1) i
  refine c_seq (q0 (l_p 2 tK rfl ?_))
  refine lC (o_lenO tK ho rfl rfl rfl rfl rfl ?_)
  refine l_p 1 tK rfl (q1 ?_)
  refine c_ifP _ rfl (fun c1 => ?_) (fun c1 => ?_)
  ·have hil : i < (fieldsF (spineF t).1).length := by omega
   refine c_skip (x_seq (c_seq (c_blk (c_reg (l_p 4 tK rfl ?_)))))
   refine lC (o_ixO tK ho (canTo_get hil) rfl rfl rfl rfl rfl rfl rfl rfl rfl ?_)
   intro ibx iux hobx hrx hatx
   obtain ⟨szx, kvx, rfl, hyx⟩ := fld_open hrx
   replace hatx : At NoM w6 ibx _ [.string (fieldsF (spineF t).1)[i].name, .int .u8 (fieldsF (spineF t).1)[i].ty.op, .string (fieldsF (spineF t).1)[i].ty.name, .int .i64 (fieldsF (spineF t).1)[i].ty.n, kvx] := ⟨(ho.lt _ hobx).2, fun h => h, hatx.cell⟩
   refine l_p 1 tK rfl ?_
   refine lC (o_lds tK (fun j v hv => (hatx).drop 1 (sub := [.int .u8 (fieldsF (spineF t).1)[i].ty.op, .string (fieldsF (spineF t).1)[i].ty.name, .int .i64 (fieldsF (spineF t).1)[i].ty.n, kvx]) rfl j v hv) rfl rfl rfl rfl rfl rfl ?_)
   have hfm := List.getElem_mem hil
   have hfp := fields_psz hfm
   have hfs := spine_shape t hsh2 _ (fields_mem hfm)
   refine lC (o_call fo32 rfl rfl rfl (ih _ 116 _ _ _ (by omega) hfs hyx hlow (by omega)) ?_)
   rintro vc w7 ⟨hc, ew7⟩
   replace ho := ho.ext hlow hB ew7
   replace h2 := h2.ext hlow hB ew7
   replace hE := ew7.bl hE hB
   replace h4 := h4.ext ew7
   replace htl := Rep.ext htl ew7
   replace hrx := Rep.ext hrx ew7
   replace hyx := Rep.ext hyx ew7
   replace hlow := hlow.ext ew7
   replace hB := ew7.z hB
   obtain ⟨kvc, rfl, opc, nmc, n64c, hkc⟩ := ty_open hc
   refine lC (o_ixO tK ho (canTo_get hil) rfl rfl rfl rfl rfl rfl rfl rfl rfl ?_)
   intro ibz iuz hobz hrz hatz
   obtain ⟨szz, kvz, rfl, hyz⟩ := fld_open hrz
   replace hatz : OAt _ _ _ [.string (fieldsF (spineF t).1)[i].name, .int .u8 (fieldsF (spineF t).1)[i].ty.op, .string (fieldsF (spineF t).1)[i].ty.name, .int .i64 (fieldsF (spineF t).1)[i].ty.n, kvz] := hatz
   refine l_p 1 tK rfl ?_
   have hnf : Rep.R _ w7 (.agg #[.string (fieldsF (spineF t).1)[i].name, .int .u8 (canonF (fieldsF (spineF t).1)[i].ty).op, .string (canonF (fieldsF (spineF t).1)[i].ty).name, .int .i64 (canonF (fieldsF (spineF t).1)[i].ty).n, kvc]) (canonFld (fieldsF (spineF t).1)[i]) := fld_mk szz hc
   refine lC (o_stP (j := i) (k := 1) (us := [.string (fieldsF (spineF t).1)[i].name, .int .u8 (fieldsF (spineF t).1)[i].ty.op, .string (fieldsF (spineF t).1)[i].ty.name, .int .i64 (fieldsF (spineF t).1)[i].ty.n, kvz]) tK ho hobz (by omega) (fun q a hq => hatz.cell q a hq) rfl hnf hlow rfl rfl rfl rfl rfl rfl rfl (Rep.one hc) (by decide) rfl rfl ?_)
   intro w8 hw8 sw8 frw8
   replace h2 := h2.stp sw8 (frw8 b2 h2.lt (fun e => d_ho_h2 _ hobz e.symm))
   replace hE := hE.trans sw8.below
   replace h4 := h4.stp sw8
   replace htl := Rep.stp htl sw8
   replace hrx := Rep.stp hrx sw8
   replace hyx := Rep.stp hyx sw8
   replace hc := Rep.stp hc sw8
   replace hsub := sw8.sb hsub
   replace hlow := sw8.low
   replace hB := sw8.z hB
   replace ho := hw8
   clear hw8
   refine q2 (x_seq (c_reg (l_p 1 tK rfl ?_)))
   refine lC (o_ai rfl rfl rfl (by omega) rfl rfl ?_)
   refine l_p 1 tK rfl (l_nil ?_)
   exact x_round (i + 1) (s4 rfl rfl rfl (get_num rfl (by omega))) ⟨by omega, by rw [← canTo_set hil]; exact ho, h2, h4, htl, hlow, hsub, hE, hB⟩ (by omega)
  refine c_exit (x_seqE (x_seqE (x_blkE (x_seq (q0 (l_p 1 tK rfl ?_))))))
  refine lC (o_lds tK (fun j v hv => h4.cell j v hv) rfl rfl rfl rfl rfl rfl ?_)
  have hall : canTo (fieldsF (spineF t).1) i = (fieldsF (spineF t).1).map canonFld := canTo_all (by omega)
  rw [hall] at ho
  have hml : ((fieldsF (spineF t).1).map canonFld).length = (fieldsF (spineF t).1).length := List.length_map _
  have hfz := ho.froze (by omega)
  replace h2 := h2.less (v := xv) d_ho_h2
  replace h4 := h4.wk (fun b _ h => less_sub (v := xv) b h)
  replace htl := Rep.wk htl (fun b _ h => less_sub (v := xv) b h)
  replace hlow : Low (Less M2 xv) w6 := fun b h => hlow b h.1
  replace hsub : ∀ b, _ → Less M2 xv b := fun b h => ⟨hsub b h, fun e => by have := (ho.lt b e).1; have := hlow0 b h; omega⟩
  refine lC (o_call fo56 rfl rfl rfl (of_spec _ _ _ _ _ _ hfz htl hlow) ?_)
  rintro vj w9 ⟨hj, ew9⟩
  rw [← canon_row hop] at hj
  replace h2 := h2.ext hlow hB ew9
  replace hE := ew9.bl hE hB
  replace h4 := h4.ext ew9
  replace htl := Rep.ext htl ew9
  replace hfz := hfz.ext ew9
  replace hlow := hlow.ext ew9
  replace hB := ew9.z hB
  obtain ⟨kvj, rfl, opj, nmj, n64j, hkj⟩ := ty_open hj
  refine lC (o_st tK h2.box rfl rfl rfl rfl (Rep.one hj) rfl rfl ?_)
  intro w10 hw10 qw10 bew10
  have uw10 : UpdB _ _ _ := ⟨qw10, bew10⟩
  have sw10 := uw10.stp h2.inM hlow h2.ge
  have frw10 := qw10.2
  replace hE := hE.trans sw10.below
  replace h4 := h4.stp sw10
  replace htl := Rep.stp htl sw10
  replace hfz := hfz.stp sw10
  replace hj := Rep.stp hj sw10
  replace hsub := sw10.sb hsub
  replace hlow := sw10.low
  replace hB := sw10.z hB
  replace h2 : MB w.heap.size _ w10 b2 _ [.int .u8 (canonF t).op, .string (canonF t).name, .int .i64 (canonF t).n, kvj] := ⟨hw10, h2.inM, h2.ge⟩
  refine q1 (c_ret (x_seqR ?_))
  refine x_ret1s tK (fun j v hv => h2.cell j v hv) rfl rfl rfl rfl rfl ?_
  exact ⟨Rep.wk hj (fun b _ h => hsub b h), hE⟩
 have hop : t.op ≠ 11 := by omega
 refine c_skip (x_seq (q0 (l_p 1 tK rfl ?_)))
 refine lC (o_ld tK (h1.cell 0 _ rfl) rfl rfl rfl rfl rfl ?_)
 refine l_p 1 tK rfl ?_
 refine lC (o_ld tK (h1.cell 1 _ rfl) rfl rfl rfl rfl rfl ?_)
 refine l_p 1 tK rfl ?_
 refine lC (o_ld tK (h1.cell 2 _ rfl) rfl rfl rfl rfl rfl ?_)
 refine lC (o_build (cells := [.int .u8 t.op, .string t.name, .int .i64 t.n, .slice none 0 0]) bd25 rfl rfl rfl rfl rfl ?_)
 refine lC (o_new tK rfl rfl rfl ?_)
 intro b6 w11 qb6 ew11 hb6
 have ne_h2_h6 : b2 ≠ b6 := by have := h2.lt; omega
 have sw11 := Stp.add ew11 hlow hB (Nat.le_of_eq qb6.symm) hb6.lt
 have h6 : MB w.heap.size (Rw.Add (Rw.Add M b2) b6) w11 b6 25 [.int .u8 0, .string ⟨#[]⟩, .int .i64 0, .slice none 0 0] := MB.mk' hb6 qb6 hB
 replace h2 := h2.stp sw11 (ew11.block b2 h2.lt)
 replace hE := hE.trans sw11.below
 replace ht := Rep.stp ht sw11
 replace hk := hk.stp sw11
 replace h1 := h1.stp sw11
 replace hsub := sw11.sb hsub
 replace hlow := sw11.low
 replace hB := sw11.z hB
 refine lC (o_st tK h6.box rfl rfl rfl rfl (by simp [Value.cells, Value.oneCell']) rfl rfl ?_)
 intro w12 hw12 qw12 bew12
 have uw12 : UpdB _ _ _ := ⟨qw12, bew12⟩
 have sw12 := uw12.stp h6.inM hlow h6.ge
 have frw12 := qw12.2
 replace h2 := h2.stp sw12 (frw12 b2 h2.lt ne_h2_h6)
 replace hE := hE.trans sw12.below
 replace ht := Rep.stp ht sw12
 replace hk := hk.stp sw12
 replace h1 := h1.stp sw12
 replace hsub := sw12.sb hsub
 replace hlow := sw12.low
 replace hB := sw12.z hB
 replace h6 : MB w.heap.size _ w12 b6 _ [.int .u8 t.op, .string t.name, .int .i64 t.n, .slice none 0 0] := ⟨hw12, h6.inM, h6.ge⟩
 refine q1 (c_seq (q0 (l_p 1 tK rfl (q1 (c_blk ?_)))))
 have d_ho_h2 : ∀ x, (.slice none 0 0 : Value).ownBlock = some x → x ≠ b2 := fun x hx => by simp [Value.ownBlock] at hx
 have d_ho_h6 : ∀ x, (.slice none 0 0 : Value).ownBlock = some x → x ≠ b6 := fun x hx => by simp [Value.ownBlock] at hx
 refine c_loop3 (X := Nat) (Y := Value) (Z := Nat → Prop) (fun i v M1 => [(1, .pointer (some ⟨b1, 0, none⟩)), (2, .pointer (some ⟨b2, 0, none⟩)), (6, .pointer (some ⟨b6, 0, none⟩)), (7, .int .i64 (i : Nat))]) (fun i v M1 w' => i ≤ t.kids.length ∧ OwnSl 25 w.heap.size M1 w' v ((t.kids.take i).map canonF) ∧ MB w.heap.size M1 w' b2 25 [.int .u8 0, .string ⟨#[]⟩, .int .i64 0, .slice none 0 0] ∧ MB w.heap.size M1 w' b6 25 [.int .u8 t.op, .string t.name, .int .i64 t.n, v] ∧ At M1 w' b1 0 [.int .u8 t.op, .string t.name, .int .i64 t.n, kv] ∧ (∀ x, (v : Value).ownBlock = some x → x ≠ b2) ∧ (∀ x, (v : Value).ownBlock = some x → x ≠ b6) ∧ Sl M1 w' kv t.kids ∧ Low M1 w' ∧ (∀ b, M b → M1 b) ∧ Below w.heap.size w w' ∧ w.heap.size ≤ w'.heap.size) (fun i v M1 => t.kids.length - i) (0) (.slice none 0 0) ((Rw.Add (Rw.Add M b2) b6)) (s4 rfl rfl rfl rfl) ?_ ?_
 ·exact ⟨Nat.zero_le _, own_nil, h2, h6, h1, d_ho_h2, d_ho_h6, hk, hlow, hsub, hE, hB⟩
 rintro i v M1 w13 ⟨hi, ho, h2, h6, h1, d_ho_h2, d_ho_h6, hk, hlow, hsub, hE, hB⟩
 refine c_seq (q0 (l_p 2 tK rfl ?_))
 refine lC (o_ld tK (h1.cell 3 _ rfl) rfl rfl rfl rfl rfl ?_)
 refine lC (o_len tK hk rfl rfl rfl rfl rfl ?_)
 refine l_p 1 tK rfl (q1 ?_)
 refine c_ifP _ rfl (fun c2 => ?_) (fun c2 => ?_)
 ·refine c_skip (x_seq (c_seq (c_blk ?_)))
  refine a_beg Ext rfl ?_
  intro w14 ew14
  replace ho := ho.ext hlow hB ew14
  replace h2 := h2.ext hlow hB ew14
  replace h6 := h6.ext hlow hB ew14
  replace hE := ew14.bl hE hB
  replace h1 := h1.ext ew14
  replace hk := hk.ext ew14
  replace hlow := hlow.ext ew14
  replace hB := ew14.z hB
  have hS : Ext w14 w14 := ext_refl _
  have D_h2 := h2.box
  have D_h6 := h6.box
  have D_h1 := h1
  have D_hk := hk
  refine a_p 0 tK rfl rfl rfl rfl (by kernel_rfl) (fun _ _ _ h => h) hS ?_
  refine a_ld 1 tK (fun _ hs => (D_h6.ext hs).cell 3 _ rfl) rfl rfl rfl rfl rfl rfl (by kernel_rfl) (fun _ _ _ h => h) hS ?_
  refine a_p 2 tK rfl rfl rfl rfl (by kernel_rfl) (fun _ _ _ h => h) hS ?_
  refine a_ld 3 tK (fun _ hs => (D_h1.ext hs).cell 3 _ rfl) rfl rfl rfl rfl rfl rfl (by kernel_rfl) (fun _ _ _ h => h) hS ?_
  refine a_p 4 tK rfl rfl rfl rfl (by kernel_rfl) (fun _ _ _ h => h) hS ?_
  have hik : i < t.kids.length := by omega
  have hp1 := psz_take hik
  obtain ⟨kd, hkd⟩ := kid_shape hsh hik
  refine a_ixS 5 tK D_hk (List.getElem?_eq_getElem hik) rfl rfl rfl rfl rfl rfl rfl rfl rfl rfl (by kernel_rfl) (fun _ _ _ _ h => h) hS ?_
  intro ebx eox eux hyx hatx
  obtain ⟨kvx, rfl, opx, nmx, n64x, hkx⟩ := ty_open hyx
  replace hatx : At M1 w14 ebx eox [.int .u8 t.kids[i].op, .string t.kids[i].name, .int .i64 t.kids[i].n, kvx] := hatx
  refine a_lds 6 tK (fun _ hs j v hv => (hatx.ext hs).cell j v hv) rfl rfl rfl rfl rfl rfl rfl (by kernel_rfl) (fun _ _ _ h => h) hS ?_
  refine a_one 7 rfl (by kernel_rfl) (o_call fo32 rfl rfl rfl (ih _ _ _ _ _ (by omega) hkd hyx hlow (by omega)) ?_)
  rintro vc w15 ⟨hc, ew15⟩
  replace hS := hS.then ew15
  replace ho := ho.ext hlow hB ew15
  replace h2 := h2.ext hlow hB ew15
  replace h6 := h6.ext hlow hB ew15
  replace hE := ew15.bl hE hB
  replace h1 := h1.ext ew15
  replace hk := hk.ext ew15
  replace hyx := Rep.ext hyx ew15
  replace hkx := hkx.ext ew15
  replace hatx := hatx.ext ew15
  replace hlow := hlow.ext ew15
  replace hB := ew15.z hB
  refine ⟨hS, ?_⟩
  refine a_one 8 rfl (by kernel_rfl) (o_bs tK rfl rfl rfl rfl rfl rfl rfl (sz1 (Rep.size hc)) rfl rfl rfl ?_)
  intro bw16 w16 qbw16 ew16 hbw16
  have nbw16 := nM_of hlow qbw16
  replace hS := hS.then ew16
  replace ho := ho.ext hlow hB ew16
  replace h2 := h2.ext hlow hB ew16
  replace h6 := h6.ext hlow hB ew16
  replace hE := ew16.bl hE hB
  replace h1 := h1.ext ew16
  replace hk := hk.ext ew16
  replace hyx := Rep.ext hyx ew16
  replace hkx := hkx.ext ew16
  replace hatx := hatx.ext ew16
  replace hc := Rep.ext hc ew16
  replace hlow := hlow.ext ew16
  replace hB := ew16.z hB
  refine ⟨hS, ?_⟩
  refine a_barS Ext 9 rfl (by kernel_rfl) (by kernel_rfl) (o_app1 tK ho hbw16 nbw16 hc hlow hB rfl rfl rfl rfl rfl rfl rfl (by simp; omega) (by show (_ + _) * 56 ≤ _; simp; omega) rfl rfl ?_)
  intro vw17 w17 Mw17 hw17 sw17 frw17 blw17
  have zd_ho_h2 := d_ho_h2
  replace d_ho_h2 : ∀ x, (vw17 : Value).ownBlock = some x → x ≠ b2 := fun x hx => (blw17 x hx).elim (d_ho_h2 x) (fun h e => by have := h2.lt; omega)
  have zd_ho_h6 := d_ho_h6
  replace d_ho_h6 : ∀ x, (vw17 : Value).ownBlock = some x → x ≠ b6 := fun x hx => (blw17 x hx).elim (d_ho_h6 x) (fun h e => by have := h6.lt; omega)
  replace h2 := h2.stp sw17 (frw17 b2 h2.lt (fun e => zd_ho_h2 _ e.symm rfl))
  replace h6 := h6.stp sw17 (frw17 b6 h6.lt (fun e => zd_ho_h6 _ e.symm rfl))
  replace hE := hE.trans sw17.below
  replace h1 := h1.stp sw17
  replace hk := hk.stp sw17
  replace hyx := Rep.stp hyx sw17
  replace hkx := hkx.stp sw17
  replace hatx := hatx.stp sw17
  replace hc := Rep.stp hc sw17
  replace hsub := sw17.sb hsub
  replace hlow := sw17.low
  replace hB := sw17.z hB
  replace hS : Ext w17 w17 := ext_refl _
  replace ho := hw17
  clear hw17
  have D_h2 := h2.box
  have D_h6 := h6.box
  have D_h1 := h1
  have D_hk := hk
  have D_hkx := hkx
  have D_hatx := hatx
  refine a_p 10 tK rfl rfl rfl rfl (by kernel_rfl) (fun _ _ _ h => h) hS ?_
  obtain ⟨av6, cv6, rfl, _⟩ := ho.val
  refine a_barS Ext 11 rfl (by kernel_rfl) (by kernel_rfl) (o_st tK h6.box rfl rfl rfl rfl (by simp [Value.cells, Value.oneCell']) rfl rfl ?_)
  intro w18 hw18 qw18 bew18
  have uw18 : UpdB _ _ _ := ⟨qw18, bew18⟩
  have sw18 := uw18.stp h6.inM hlow h6.ge
  have frw18 := qw18.2
  replace ho := ho.stp sw18 (fun x hx => frw18 x (ho.lt x hx).2 (d_ho_h6 x hx))
  replace h2 := h2.stp sw18 (frw18 b2 h2.lt ne_h2_h6)
  replace hE := hE.trans sw18.below
  replace h1 := h1.stp sw18
  replace hk := hk.stp sw18
  replace hyx := Rep.stp hyx sw18
  replace hkx := hkx.stp sw18
  replace hatx := hatx.stp sw18
  replace hc := Rep.stp hc sw18
  replace hsub := sw18.sb hsub
  replace hlow := sw18.low
  replace hB := sw18.z hB
  replace hS : Ext w18 w18 := ext_refl _
  replace h6 : MB w.heap.size _ w18 b6 _ [.int .u8 t.op, .string t.name, .int .i64 t.n, (.slice av6 ((t.kids.take i).map canonF ++ [canonF t.kids[i]]).length cv6)] := ⟨hw18, h6.inM, h6.ge⟩
  have D_h2 := h2.box
  have D_h6 := h6.box
  have D_h1 := h1
  have D_hk := hk
  have D_hkx := hkx
  have D_hatx := hatx
  refine a_end (by kernel_rfl) ?_
  refine x_blk (x_seq (c_reg (l_p 1 tK rfl ?_)))
  refine lC (o_ai rfl rfl rfl (by omega) rfl rfl ?_)
  refine l_p 1 tK rfl (l_nil ?_)
  exact x_round3 (i + 1) ((.slice av6 ((t.kids.take i).map canonF ++ [canonF t.kids[i]]).length cv6)) (Mw17) (s4 rfl rfl rfl (get_num rfl (by omega))) ⟨by omega, by rw [List.take_succ_eq_append_getElem hik, List.map_append]; exact ho, h2, h6, h1, d_ho_h2, d_ho_h6, hk, hlow, hsub, hE, hB⟩ (by omega)
 refine c_exit (x_seqE (x_seqE (x_blkE (x_seq (q0 ?_)))))
 refine lC (o_lds tK (fun j v hv => h6.cell j v hv) rfl rfl rfl rfl rfl rfl ?_)
 obtain rfl : i = t.kids.length := by omega
 rw [List.take_of_length_le (Nat.le_refl _)] at ho
 obtain ⟨av, cv, rfl, hcv⟩ := ho.val
 have hml : (t.kids.map canonF).length = t.kids.length := List.length_map _
 refine lC (o_st tK h2.box rfl rfl rfl rfl (by intro u hu; simp [Value.cells] at hu; rcases hu with rfl | rfl | rfl | rfl <;> rfl) rfl rfl ?_)
 intro w19 hw19 qw19 bew19
 have uw19 : UpdB _ _ _ := ⟨qw19, bew19⟩
 have sw19 := uw19.stp h2.inM hlow h2.ge
 have frw19 := qw19.2
 replace ho := ho.stp sw19 (fun x hx => frw19 x (ho.lt x hx).2 (d_ho_h2 x hx))
 replace h6 := h6.stp sw19 (frw19 b6 h6.lt ne_h2_h6.symm)
 replace hE := hE.trans sw19.below
 replace h1 := h1.stp sw19
 replace hk := hk.stp sw19
 replace hsub := sw19.sb hsub
 replace hlow := sw19.low
 replace hB := sw19.z hB
 replace h2 : MB w.heap.size _ w19 b2 _ [.int .u8 t.op, .string t.name, .int .i64 t.n, .slice av (t.kids.map canonF).length cv] := ⟨hw19, h2.inM, h2.ge⟩
 refine q1 (c_ret ?_)
 refine x_ret1s tK (fun j v hv => h2.cell j v hv) rfl rfl rfl rfl rfl ?_
 have hfin := ty_mk op nm n64 (ho.sl (by omega) hlow0 hsub)
 rw [← canon_other hop] at hfin
 exact ⟨hfin, hE⟩
theorem kRight_specB (t : Ty) (M : Nat → Prop) (w : World) (v : Value) (ht : Rep.R M w v t) (hlow : Low M w) : Calls Tryz.prog 66 #[v] w (Ret fun r w' => r = .bool (rightB t) ∧ Ext w w') := by
 have h := kRight_spec t M w v ht hlow
 rwa [rightB_law] at h
theorem either_specB (t : Ty) (M : Nat → Prop) (w : World) (v : Value) (ht : Rep.R M w v t) (hlow : Low M w) : Calls Tryz.prog 77 #[v] w (Ret fun r w' => r = .bool (rightB t || rowB t) ∧ Ext w w') := by
 have h := either_spec t M w v ht hlow
 rwa [rightB_law, rowB_law] at h
theorem shape_either {t : Ty} (h : (rightB t || rowB t) = true) : ∃ c, shapeF t c = true := by
 rw [Bool.or_eq_true] at h
 rcases h with h | h
 ·unfold rightB at h; rw [Bool.and_eq_true] at h; exact ⟨_, h.1⟩
 ·unfold rowB at h; rw [Bool.and_eq_true] at h; exact ⟨_, h.1⟩
end Go.Proofs.YtohfnpmehgpphaaGreat
namespace Rw
/-- The first place of a number in a list; -1: none. -/
def atOf (l : List Int) (n : Int) : Int := match l.findIdx? (fun x => decide (x = n)) with
  | some i => (i : Int)
  | none => -1
theorem atOf_found {l : List Int} {n : Int} {k : Nat} (hk : k < l.length) (h : l[k] = n) (hno : ∀ j, j < k → l[j]? ≠ some n) : atOf l n = (k : Int) := by
  have : l.findIdx? (fun x => decide (x = n)) = some k := by
    rw [List.findIdx?_eq_some_iff_getElem]
    refine ⟨hk, by simpa using h, fun j hj => ?_⟩
    have := hno j hj
    rw [List.getElem?_eq_getElem (by omega)] at this
    simpa using this
  simp [atOf, this]
theorem atOf_none {l : List Int} {n : Int} {k : Nat} (hk : l.length ≤ k) (hno : ∀ j, j < k → l[j]? ≠ some n) : atOf l n = -1 := by
  have : l.findIdx? (fun x => decide (x = n)) = none := by
    rw [List.findIdx?_eq_none_iff]
    intro x hx
    obtain ⟨j, hj, rfl⟩ := List.getElem_of_mem hx
    have := hno j (by omega)
    rw [List.getElem?_eq_getElem hj] at this
    simpa using this
  simp [atOf, this]
theorem step_no {l : List Int} {n : Int} {k : Nat} (hno : ∀ j, j < k → l[j]? ≠ some n) (hk : k < l.length) (h : ¬ l[k] = n) : ∀ j, j < k + 1 → l[j]? ≠ some n := by
  intro j hj
  by_cases e : j = k
  · subst e; rw [List.getElem?_eq_getElem hk]; simpa using h
  · exact hno j (by omega)
theorem inOf_at {l : List Int} {n : Int} : decide ((0 : Int) ≤ atOf l n) = decide (n ∈ l) := by
  unfold atOf
  cases h : l.findIdx? (fun x => decide (x = n)) with
  | some i =>
    have h1 := h
    rw [List.findIdx?_eq_some_iff_getElem] at h1
    obtain ⟨hi, h2, _⟩ := h1
    have : n ∈ l := by
      have h3 : l[i] = n := by simpa using h2
      rw [← h3]; exact List.getElem_mem hi
    simp [this]
  | none =>
    rw [List.findIdx?_eq_none_iff] at h
    have : n ∉ l := fun hm => by have := h n hm; simp at this
    simp [this]
end Rw
namespace Rw
end Rw
namespace Rw
/-! ## Canonical forms are their own canonical forms -/
/-! ## Variables -/
def addV (l : List Int) (n : Int) : List Int := if n ∈ l then l else l ++ [n]
def varsTo (l : List Int) (ps : List Ty) : List Int := ps.foldl (fun l x => bif numB x.op then addV l x.n else l) l
/-- The variables of a type, by its canonical form. -/
def varsF (t : Ty) : List Int := varsTo [] (partsL (canonF t))
theorem varsTo_snoc (l : List Int) (ps : List Ty) (x : Ty) : varsTo l (ps ++ [x]) = bif numB x.op then addV (varsTo l ps) x.n else varsTo l ps := by simp [varsTo]
theorem varsTo_yes {l : List Int} {ps : List Ty} {x : Ty} (h : numB x.op = true) (hn : x.n ∉ varsTo l ps) : varsTo l (ps ++ [x]) = varsTo l ps ++ [x.n] := by rw [varsTo_snoc, h]; simp [addV, hn]
theorem varsTo_old {l : List Int} {ps : List Ty} {x : Ty} (hn : x.n ∈ varsTo l ps) : varsTo l (ps ++ [x]) = varsTo l ps := by
  rw [varsTo_snoc]
  cases numB x.op with
  | true => simp [addV, hn]
  | false => rfl
theorem varsTo_no {l : List Int} {ps : List Ty} {x : Ty} (h : numB x.op = false) : varsTo l (ps ++ [x]) = varsTo l ps := by rw [varsTo_snoc, h]; rfl
theorem addV_len (l : List Int) (n : Int) : (addV l n).length ≤ l.length + 1 := by unfold addV; split <;> simp
theorem varsTo_len (l : List Int) : ∀ ps : List Ty, (varsTo l ps).length ≤ l.length + ps.length := by
  intro ps
  induction ps generalizing l with
  | nil => simp [varsTo]
  | cons x r ih =>
    have h := ih (bif numB x.op then addV l x.n else l)
    have h2 : (bif numB x.op then addV l x.n else l).length ≤ l.length + 1 := by
      cases numB x.op with
      | true => exact addV_len l x.n
      | false => simp
    simp only [varsTo, List.foldl_cons, List.length_cons] at h ⊢
    omega
/-! ## Numbers anew -/
/-! ## A canonical form is of the same sort -/
/-! ## Without ? -/
def statB (x : Ty) : Bool := !decide (x.op = 3) && !decide (x.op = 9)
def staticF (t : Ty) : Bool := (partsL t).all statB
end Rw
namespace Go.Proofs.YtohfnpmehgpphaaGreat
open Go Rw Go.RowKit
set_option maxRecDepth 100000
theorem each_spec (g : Nat) (caps : List Value) (B N : Nat) (I : (Nat → Prop) → List Ty → World → Prop) (hg : FnOk Tryz.prog g) (hx : ∀ M acc w w', I M acc w → Ext w w' → I M acc w') (hI : ∀ M acc w, I M acc w → Low M w ∧ B ≤ w.heap.size)
  (hdo : ∀ (M : Nat → Prop) acc w u x, acc.length < N → I M acc w → Rep.R M w u x → Calls Tryz.prog g ([u] ++ caps).toArray w (Ret fun r w' => r = .tuple #[] ∧ ∃ M', I M' (acc ++ [x]) w' ∧ Stp B M M' w w')) :
  ∀ (t : Ty) (M : Nat → Prop) (acc : List Ty) (w : World) (v : Value), acc.length + psz t ≤ N → I M acc w → Rep.R M w v t → Calls Tryz.prog 83 #[v, .func (.func g) #[] caps.toArray] w (Ret fun r w' => r = .tuple #[] ∧ ∃ M', I M' (acc ++ partsL t) w' ∧ Stp B M M' w w') := by
 refine Ty.ind fun t ih => ?_
 intro M acc w v hN hI0 ht
 obtain ⟨hlow, hB⟩ := hI _ _ _ hI0
 have hT : Stp B M M w w := Stp.refl hlow
 have hps := psz_eq t
 have hkl := len_psz t.kids
 obtain ⟨kv, rfl, op, nm, n64, hk⟩ := ty_open ht
 have hlt := hk.lt
 refine c_enter (n := 20) Tryz.func83 rfl rfl rfl ?_
 refine q0 ?_
 refine lC (o_box rfl rfl rfl ?_)
 intro b2 w1 hb_b2 ew1 h2
 replace h2 : Box _ b2 25 [.int .u8 t.op, .string t.name, .int .i64 t.n, kv] := h2
 replace h2 := h2.at (nM_of hlow hb_b2)
 replace hI0 := hx _ _ _ _ hI0 ew1
 replace hT := hT.then (Stp.ext ew1 hlow hB)
 replace ht := Rep.ext ht ew1
 replace hk := hk.ext ew1
 replace hlow := hlow.ext ew1
 replace hB := ew1.z hB
 refine q1 (q0 (l_p 1 tK rfl ?_))
 refine lC (o_lds tK (fun j v hv => h2.cell j v hv) rfl rfl rfl rfl rfl rfl ?_)
 refine lC (o_dyn rfl hg rfl rfl rfl (hdo _ _ _ _ _ (by omega) hI0 ht) ?_)
 rintro _ w2 ⟨rfl, Mw2, hI0w2, sw2⟩
 replace hT := hT.then sw2
 replace ht := Rep.stp ht sw2
 replace hk := hk.stp sw2
 replace h2 := h2.stp sw2
 replace hlow := sw2.low
 replace hB := sw2.z hB
 replace hI0 := hI0w2
 refine q1 (q0 (l_p 1 tK rfl ?_))
 refine lC (o_ld tK (h2.cell 3 _ rfl) rfl rfl rfl rfl rfl ?_)
 refine lC (o_len tK hk rfl rfl rfl rfl rfl ?_)
 refine l_p 1 tK rfl (q1 (c_blk ?_))
 refine c_loop2 (X := Nat) (Y := Nat → Prop) (fun i M1 => [(1, .func (.func g) #[] caps.toArray), (10, kv), (11, .int .i64 (t.kids.length : Int)), (12, .int .i64 (i : Nat))]) (fun i M1 w' => i ≤ t.kids.length ∧ I M1 (acc ++ t :: (t.kids.take i).flatMap partsL) w' ∧ Sl M1 w' kv t.kids ∧ Stp B M M1 w w' ∧ Low M1 w' ∧ B ≤ w'.heap.size) (fun i M1 => t.kids.length - i) (0) (Mw2) (s4 rfl rfl rfl rfl) ?_ ?_
 ·exact ⟨Nat.zero_le _, hI0, hk, hT, hlow, hB⟩
 clear hk hI0 ht
 rintro i M1 w3 ⟨hi, hI0, hk, hT, hlow, hB⟩
 refine q0 (l_p 1 tK rfl (q1 (c_seq ?_)))
 refine c_ifP _ rfl (fun c1 => ?_) (fun c1 => ?_)
 ·refine c_skip (x_seq (c_seq (c_blk (q0 ?_))))
  have hik : i < t.kids.length := by omega
  have e3 := take_psz t.kids (i + 1)
  rw [show pszs (t.kids.take (i + 1)) = pszs (t.kids.take i) + psz t.kids[i] by unfold pszs; rw [take_step hik, List.length_append]; rfl] at e3
  refine lC (o_ixS tK hk (List.getElem?_eq_getElem hik) rfl rfl rfl rfl rfl rfl rfl rfl rfl ?_)
  intro ebx eox eux hyx hatx
  obtain ⟨kvx, rfl, opx, nmx, n64x, hkx⟩ := ty_open hyx
  replace hatx : At M1 w3 ebx eox [.int .u8 t.kids[i].op, .string t.kids[i].name, .int .i64 t.kids[i].n, kvx] := hatx
  refine lC (o_lds tK (fun j v hv => hatx.cell j v hv) rfl rfl rfl rfl rfl rfl ?_)
  refine lC (o_new tK rfl rfl rfl ?_)
  intro b5 w4 qb5 ew4 hb5
  have nb5 := nM_of hlow qb5
  refine lC (o_st tK hb5 rfl rfl rfl rfl (Rep.one hyx) rfl rfl ?_)
  intro w5 h5 uw5 bew5
  have ew5 : Ext w3 w5 := ew4.trans (bew5 _ (Nat.le_of_eq qb5.symm))
  replace hI0 := hx _ _ _ _ hI0 ew5
  replace hT := hT.then (Stp.ext ew5 hlow hB)
  replace hk := hk.ext ew5
  replace hyx := Rep.ext hyx ew5
  replace hkx := hkx.ext ew5
  replace hatx := hatx.ext ew5
  replace hlow := hlow.ext ew5
  replace hB := ew5.z hB
  replace h5 : Box w5 b5 25 [.int .u8 t.kids[i].op, .string t.kids[i].name, .int .i64 t.kids[i].n, kvx] := h5
  replace h5 := h5.at nb5
  refine q1 (c_reg ?_)
  refine lC (o_lds tK (fun j v hv => h5.cell j v hv) rfl rfl rfl rfl rfl rfl ?_)
  refine l_p 1 tK rfl ?_
  have hal : (acc ++ t :: (t.kids.take i).flatMap partsL).length = acc.length + 1 + pszs (t.kids.take i) := by simp [pszs]; omega
  refine lC (o_call fo83 rfl rfl rfl (ih _ (List.getElem_mem hik) _ _ _ _ (by omega) hI0 hyx) ?_)
  rintro _ w6 ⟨rfl, Mw6, hI0w6, sw6⟩
  replace hT := hT.then sw6
  replace hk := hk.stp sw6
  replace hyx := Rep.stp hyx sw6
  replace hkx := hkx.stp sw6
  replace hatx := hatx.stp sw6
  replace h5 := h5.stp sw6
  replace hlow := sw6.low
  replace hB := sw6.z hB
  replace hI0 := hI0w6
  refine q2 (x_seq (c_reg ?_))
  refine lC (o_ai rfl rfl rfl (by omega) rfl rfl ?_)
  refine l_p 1 tK rfl (l_nil ?_)
  exact x_round2 (i + 1) (Mw6) (s4 rfl rfl rfl (get_num rfl (by omega))) ⟨by omega, by rw [take_step hik]; simpa using hI0, hk, hT, hlow, hB⟩ (by omega)
 refine c_exit (x_seqE (x_seqE (x_blkE ?_)))
 refine x_ret0n rfl ?_
 obtain rfl : i = t.kids.length := by omega
 rw [List.take_of_length_le (Nat.le_refl _), ← partsL_eq] at hI0
 exact ⟨rfl, _, hI0, hT⟩
/-- Between two parts: the variables so far. -/
def VI (B b1 b2 bm : Nat) (M : Nat → Prop) (acc : List Ty) (w : World) : Prop := ∃ v m, MB B M w b1 94 [.map (some bm)] ∧ MB B M w b2 68 [v] ∧ OM (κ := Int) (fun x : Bool => Value.bool x) B M w bm m ∧ OwnSl 3 B M w v (varsTo [] acc) ∧ (∀ n, (getK m n).getD false = decide (n ∈ varsTo [] acc)) ∧
 b1 ≠ b2 ∧ b1 ≠ bm ∧ b2 ≠ bm ∧ (∀ x, (v : Value).ownBlock = some x → x ≠ b1) ∧ (∀ x, (v : Value).ownBlock = some x → x ≠ b2) ∧ (∀ x, (v : Value).ownBlock = some x → x ≠ bm) ∧ Low M w ∧ B ≤ w.heap.size
theorem VI.ext {B b1 b2 bm : Nat} {M : Nat → Prop} {acc : List Ty} {w w' : World} (h : VI B b1 b2 bm M acc w) (e : Ext w w') : VI B b1 b2 bm M acc w' := by
 obtain ⟨v, m, h1, h2, hm, ho, hg, r1, r2, r3, r4, r5, r6, hlow, hB⟩ := h
 exact ⟨v, m, h1.ext hlow hB e, h2.ext hlow hB e, hm.ext hlow hB e, ho.ext hlow hB e, hg, r1, r2, r3, r4, r5, r6, hlow.ext e, Nat.le_trans hB e.size⟩
theorem varsDo_spec (B b1 b2 bm : Nat) (M : Nat → Prop) (acc : List Ty) (w : World) (v : Value) (t : Ty) (hN : acc.length < 2000000) (hI : VI B b1 b2 bm M acc w) (ht : Rep.R M w v t) :
  Calls Tryz.prog 109 #[v, .pointer (some ⟨b1, 0, none⟩), .pointer (some ⟨b2, 0, none⟩)] w (Ret fun r w' => r = .tuple #[] ∧ ∃ M', VI B b1 b2 bm M' (acc ++ [t]) w' ∧ Stp B M M' w w') := by
 obtain ⟨lv, m, h1, h2, hm, ho, hg, ne_h1_h2, ne_h1_hm, ne_h2_hm, d_ho_h1, d_ho_h2, d_ho_hm, hlow, hB⟩ := hI
 have hT : Stp B M M w w := Stp.refl hlow
 have hvl := varsTo_len [] acc
 simp only [List.length_nil, Nat.zero_add] at hvl
 obtain ⟨kv, rfl, op, nm, n64, hk⟩ := ty_open ht
 refine c_enter (n := 27) Tryz.func109 rfl rfl rfl ?_
 refine q0 ?_
 refine lC (o_box rfl rfl rfl ?_)
 intro b3 w1 hb_b3 ew1 h3
 replace h3 : Box _ b3 25 [.int .u8 t.op, .string t.name, .int .i64 t.n, kv] := h3
 replace h3 := h3.at (nM_of hlow hb_b3)
 replace hT := hT.then (Stp.ext ew1 hlow hB)
 replace h1 := h1.ext hlow hB ew1
 replace h2 := h2.ext hlow hB ew1
 replace hm := hm.ext hlow hB ew1
 replace ho := ho.ext hlow hB ew1
 replace ht := Rep.ext ht ew1
 replace hk := hk.ext ew1
 replace hlow := hlow.ext ew1
 replace hB := ew1.z hB
 refine q1 (q0 (l_p 1 tK rfl ?_))
 refine lC (o_ld tK (h3.cell 0 _ rfl) rfl rfl rfl rfl rfl ?_)
 refine l_p 2 tK rfl ?_
 refine l_splitP 7 _ rfl (fun c1 => ?_) (fun c1 => ?_)
 ·refine l_p 5 tK rfl ?_
  refine lC (o_ld tK (h1.cell 0 _ rfl) rfl rfl rfl rfl rfl ?_)
  refine l_p 1 tK rfl ?_
  refine lC (o_ld tK (h3.cell 2 _ rfl) rfl rfl rfl rfl rfl ?_)
  refine lC (o_look (z := false) tK hm.map (k := t.n) rfl rfl rfl rfl ⟨_, Tryz.underlying3, rfl⟩ rfl rfl rfl rfl ?_)
  refine l_p 2 tK rfl (q1 ?_)
  refine c_ifB _ rfl (fun c2 => ?_) (fun c2 => ?_)
  ·refine q0 ?_
   refine lC (o_ld tK (h1.cell 0 _ rfl) rfl rfl rfl rfl rfl ?_)
   refine l_p 1 tK rfl ?_
   refine lC (o_ld tK (h3.cell 2 _ rfl) rfl rfl rfl rfl rfl ?_)
   refine lC (o_mupd tK hm.map (k := t.n) (v := true) rfl rfl rfl rfl rfl ⟨_, Tryz.underlying3, rfl⟩ rfl ?_)
   intro w2 hw2 qw2 bew2
   have uw2 : UpdB _ _ _ := ⟨qw2, bew2⟩
   have sw2 := uw2.stp hm.inM hlow hm.ge
   have frw2 := qw2.2
   replace hT := hT.then sw2
   replace h1 := h1.stp sw2 (frw2 b1 h1.lt ne_h1_hm)
   replace h2 := h2.stp sw2 (frw2 b2 h2.lt ne_h2_hm)
   replace ho := ho.stp sw2 (fun x hx => frw2 x (ho.lt x hx).2 (d_ho_hm x hx))
   replace ht := Rep.stp ht sw2
   replace hk := hk.stp sw2
   replace h3 := h3.stp sw2
   replace hlow := sw2.low
   replace hB := sw2.z hB
   replace hm : OM _ _ _ w2 _ (putK m t.n true) := ⟨hw2, hm.inM, hm.ge⟩
   refine q1 (c_reg ?_)
   refine lC (o_ld tK (h2.cell 0 _ rfl) rfl rfl rfl rfl rfl ?_)
   refine l_p 1 tK rfl ?_
   refine lC (o_ld tK (h3.cell 2 _ rfl) rfl rfl rfl rfl rfl ?_)
   refine lC (o_bs tK rfl rfl rfl rfl rfl rfl rfl (sz1 rfl) rfl rfl rfl ?_)
   intro bw3 w3 qbw3 ew3 hbw3
   have nbw3 := nM_of hlow qbw3
   replace hT := hT.then (Stp.ext ew3 hlow hB)
   replace h1 := h1.ext hlow hB ew3
   replace h2 := h2.ext hlow hB ew3
   replace hm := hm.ext hlow hB ew3
   replace ho := ho.ext hlow hB ew3
   replace ht := Rep.ext ht ew3
   replace hk := hk.ext ew3
   replace h3 := h3.ext ew3
   replace hlow := hlow.ext ew3
   replace hB := ew3.z hB
   refine lC (o_app1 tK ho hbw3 nbw3 ⟨rfl, n64⟩ hlow hB rfl rfl rfl rfl rfl rfl rfl (by omega) (by show (_ + _) * 8 ≤ _; omega) rfl rfl ?_)
   intro vw4 w4 Mw4 hw4 sw4 frw4 blw4
   have zd_ho_h1 := d_ho_h1
   replace d_ho_h1 : ∀ x, (vw4 : Value).ownBlock = some x → x ≠ b1 := fun x hx => (blw4 x hx).elim (d_ho_h1 x) (fun h e => by have := h1.lt; omega)
   have zd_ho_h2 := d_ho_h2
   replace d_ho_h2 : ∀ x, (vw4 : Value).ownBlock = some x → x ≠ b2 := fun x hx => (blw4 x hx).elim (d_ho_h2 x) (fun h e => by have := h2.lt; omega)
   have zd_ho_hm := d_ho_hm
   replace d_ho_hm : ∀ x, (vw4 : Value).ownBlock = some x → x ≠ bm := fun x hx => (blw4 x hx).elim (d_ho_hm x) (fun h e => by have := hm.lt; omega)
   replace hT := hT.then sw4
   replace h1 := h1.stp sw4 (frw4 b1 h1.lt (fun e => zd_ho_h1 _ e.symm rfl))
   replace h2 := h2.stp sw4 (frw4 b2 h2.lt (fun e => zd_ho_h2 _ e.symm rfl))
   replace hm := hm.stp sw4 (frw4 bm hm.lt (fun e => zd_ho_hm _ e.symm rfl))
   replace ht := Rep.stp ht sw4
   replace hk := hk.stp sw4
   replace h3 := h3.stp sw4
   replace hlow := sw4.low
   replace hB := sw4.z hB
   replace ho := hw4
   clear hw4
   obtain ⟨av6, cv6, rfl, _⟩ := ho.val
   refine lC (o_st tK h2.box rfl rfl rfl rfl (by simp [Value.cells, Value.oneCell']) rfl rfl ?_)
   intro w5 hw5 qw5 bew5
   have uw5 : UpdB _ _ _ := ⟨qw5, bew5⟩
   have sw5 := uw5.stp h2.inM hlow h2.ge
   have frw5 := qw5.2
   replace hT := hT.then sw5
   replace h1 := h1.stp sw5 (frw5 b1 h1.lt ne_h1_h2)
   replace hm := hm.stp sw5 (frw5 bm hm.lt ne_h2_hm.symm)
   replace ho := ho.stp sw5 (fun x hx => frw5 x (ho.lt x hx).2 (d_ho_h2 x hx))
   replace ht := Rep.stp ht sw5
   replace hk := hk.stp sw5
   replace h3 := h3.stp sw5
   replace hlow := sw5.low
   replace hB := sw5.z hB
   replace h2 : MB B _ w5 b2 _ [(.slice av6 (varsTo [] acc ++ [t.n]).length cv6)] := ⟨hw5, h2.inM, h2.ge⟩
   refine l_nil ?_
   refine x_ret0n rfl ?_
   have hnm : numB t.op = true := by simp [numB, *]
   have hni : t.n ∉ varsTo [] acc := by
    intro h
    have h2 := hg t.n
    rw [decide_eq_true h] at h2
    simp_all
   refine ⟨rfl, _, ⟨_, _, h1, h2, hm, by rw [varsTo_yes hnm hni]; exact ho, fun n => ?_, ne_h1_h2, ne_h1_hm, ne_h2_hm, d_ho_h1, d_ho_h2, d_ho_hm, hlow, hB⟩, hT⟩
   rw [getK_put, varsTo_yes hnm hni]
   by_cases e : n = t.n
   ·subst e; simp
   ·rw [if_neg e, hg n]; simp [e]
  refine c_skip ?_
  refine x_ret0n rfl ?_
  have hvs : varsTo [] (acc ++ [t]) = varsTo [] acc := by
   cases hnm : numB t.op with
   | false => exact varsTo_no hnm
   | true =>
    refine varsTo_old ?_
    have h2 := hg t.n
    unfold numB at hnm
    simp_all
  refine ⟨rfl, _, ⟨_, _, h1, h2, hm, by rw [hvs]; exact ho, fun n => by rw [hvs]; exact hg n, ne_h1_h2, ne_h1_hm, ne_h2_hm, d_ho_h1, d_ho_h2, d_ho_hm, hlow, hB⟩, hT⟩
 refine l_p 1 tK rfl ?_
 refine lC (o_ld tK (h3.cell 0 _ rfl) rfl rfl rfl rfl rfl ?_)
 refine l_p 3 tK rfl ?_
 refine l_splitP 12 _ rfl (fun c3 => ?_) (fun c3 => ?_)
 ·refine lC (o_ld tK (h1.cell 0 _ rfl) rfl rfl rfl rfl rfl ?_)
  refine l_p 1 tK rfl ?_
  refine lC (o_ld tK (h3.cell 2 _ rfl) rfl rfl rfl rfl rfl ?_)
  refine lC (o_look (z := false) tK hm.map (k := t.n) rfl rfl rfl rfl ⟨_, Tryz.underlying3, rfl⟩ rfl rfl rfl rfl ?_)
  refine l_p 2 tK rfl (q1 ?_)
  refine c_ifB _ rfl (fun c4 => ?_) (fun c4 => ?_)
  ·refine q0 ?_
   refine lC (o_ld tK (h1.cell 0 _ rfl) rfl rfl rfl rfl rfl ?_)
   refine l_p 1 tK rfl ?_
   refine lC (o_ld tK (h3.cell 2 _ rfl) rfl rfl rfl rfl rfl ?_)
   refine lC (o_mupd tK hm.map (k := t.n) (v := true) rfl rfl rfl rfl rfl ⟨_, Tryz.underlying3, rfl⟩ rfl ?_)
   intro w6 hw6 qw6 bew6
   have uw6 : UpdB _ _ _ := ⟨qw6, bew6⟩
   have sw6 := uw6.stp hm.inM hlow hm.ge
   have frw6 := qw6.2
   replace hT := hT.then sw6
   replace h1 := h1.stp sw6 (frw6 b1 h1.lt ne_h1_hm)
   replace h2 := h2.stp sw6 (frw6 b2 h2.lt ne_h2_hm)
   replace ho := ho.stp sw6 (fun x hx => frw6 x (ho.lt x hx).2 (d_ho_hm x hx))
   replace ht := Rep.stp ht sw6
   replace hk := hk.stp sw6
   replace h3 := h3.stp sw6
   replace hlow := sw6.low
   replace hB := sw6.z hB
   replace hm : OM _ _ _ w6 _ (putK m t.n true) := ⟨hw6, hm.inM, hm.ge⟩
   refine q1 (c_reg ?_)
   refine lC (o_ld tK (h2.cell 0 _ rfl) rfl rfl rfl rfl rfl ?_)
   refine l_p 1 tK rfl ?_
   refine lC (o_ld tK (h3.cell 2 _ rfl) rfl rfl rfl rfl rfl ?_)
   refine lC (o_bs tK rfl rfl rfl rfl rfl rfl rfl (sz1 rfl) rfl rfl rfl ?_)
   intro bw7 w7 qbw7 ew7 hbw7
   have nbw7 := nM_of hlow qbw7
   replace hT := hT.then (Stp.ext ew7 hlow hB)
   replace h1 := h1.ext hlow hB ew7
   replace h2 := h2.ext hlow hB ew7
   replace hm := hm.ext hlow hB ew7
   replace ho := ho.ext hlow hB ew7
   replace ht := Rep.ext ht ew7
   replace hk := hk.ext ew7
   replace h3 := h3.ext ew7
   replace hlow := hlow.ext ew7
   replace hB := ew7.z hB
   refine lC (o_app1 tK ho hbw7 nbw7 ⟨rfl, n64⟩ hlow hB rfl rfl rfl rfl rfl rfl rfl (by omega) (by show (_ + _) * 8 ≤ _; omega) rfl rfl ?_)
   intro vw8 w8 Mw8 hw8 sw8 frw8 blw8
   have zd_ho_h1 := d_ho_h1
   replace d_ho_h1 : ∀ x, (vw8 : Value).ownBlock = some x → x ≠ b1 := fun x hx => (blw8 x hx).elim (d_ho_h1 x) (fun h e => by have := h1.lt; omega)
   have zd_ho_h2 := d_ho_h2
   replace d_ho_h2 : ∀ x, (vw8 : Value).ownBlock = some x → x ≠ b2 := fun x hx => (blw8 x hx).elim (d_ho_h2 x) (fun h e => by have := h2.lt; omega)
   have zd_ho_hm := d_ho_hm
   replace d_ho_hm : ∀ x, (vw8 : Value).ownBlock = some x → x ≠ bm := fun x hx => (blw8 x hx).elim (d_ho_hm x) (fun h e => by have := hm.lt; omega)
   replace hT := hT.then sw8
   replace h1 := h1.stp sw8 (frw8 b1 h1.lt (fun e => zd_ho_h1 _ e.symm rfl))
   replace h2 := h2.stp sw8 (frw8 b2 h2.lt (fun e => zd_ho_h2 _ e.symm rfl))
   replace hm := hm.stp sw8 (frw8 bm hm.lt (fun e => zd_ho_hm _ e.symm rfl))
   replace ht := Rep.stp ht sw8
   replace hk := hk.stp sw8
   replace h3 := h3.stp sw8
   replace hlow := sw8.low
   replace hB := sw8.z hB
   replace ho := hw8
   clear hw8
   obtain ⟨av6, cv6, rfl, _⟩ := ho.val
   refine lC (o_st tK h2.box rfl rfl rfl rfl (by simp [Value.cells, Value.oneCell']) rfl rfl ?_)
   intro w9 hw9 qw9 bew9
   have uw9 : UpdB _ _ _ := ⟨qw9, bew9⟩
   have sw9 := uw9.stp h2.inM hlow h2.ge
   have frw9 := qw9.2
   replace hT := hT.then sw9
   replace h1 := h1.stp sw9 (frw9 b1 h1.lt ne_h1_h2)
   replace hm := hm.stp sw9 (frw9 bm hm.lt ne_h2_hm.symm)
   replace ho := ho.stp sw9 (fun x hx => frw9 x (ho.lt x hx).2 (d_ho_h2 x hx))
   replace ht := Rep.stp ht sw9
   replace hk := hk.stp sw9
   replace h3 := h3.stp sw9
   replace hlow := sw9.low
   replace hB := sw9.z hB
   replace h2 : MB B _ w9 b2 _ [(.slice av6 (varsTo [] acc ++ [t.n]).length cv6)] := ⟨hw9, h2.inM, h2.ge⟩
   refine l_nil ?_
   refine x_ret0n rfl ?_
   have hnm : numB t.op = true := by simp [numB, *]
   have hni : t.n ∉ varsTo [] acc := by
    intro h
    have h2 := hg t.n
    rw [decide_eq_true h] at h2
    simp_all
   refine ⟨rfl, _, ⟨_, _, h1, h2, hm, by rw [varsTo_yes hnm hni]; exact ho, fun n => ?_, ne_h1_h2, ne_h1_hm, ne_h2_hm, d_ho_h1, d_ho_h2, d_ho_hm, hlow, hB⟩, hT⟩
   rw [getK_put, varsTo_yes hnm hni]
   by_cases e : n = t.n
   ·subst e; simp
   ·rw [if_neg e, hg n]; simp [e]
  refine c_skip ?_
  refine x_ret0n rfl ?_
  have hvs : varsTo [] (acc ++ [t]) = varsTo [] acc := by
   cases hnm : numB t.op with
   | false => exact varsTo_no hnm
   | true =>
    refine varsTo_old ?_
    have h2 := hg t.n
    unfold numB at hnm
    simp_all
  refine ⟨rfl, _, ⟨_, _, h1, h2, hm, by rw [hvs]; exact ho, fun n => by rw [hvs]; exact hg n, ne_h1_h2, ne_h1_hm, ne_h2_hm, d_ho_h1, d_ho_h2, d_ho_hm, hlow, hB⟩, hT⟩
 refine l_p 6 tK rfl (q1 (c_ifF rfl (c_skip ?_)))
 refine x_ret0n rfl ?_
 have hvs : varsTo [] (acc ++ [t]) = varsTo [] acc := by
  cases hnm : numB t.op with
  | false => exact varsTo_no hnm
  | true =>
   refine varsTo_old ?_
   have h2 := hg t.n
   unfold numB at hnm
   simp_all
 refine ⟨rfl, _, ⟨_, _, h1, h2, hm, by rw [hvs]; exact ho, fun n => by rw [hvs]; exact hg n, ne_h1_h2, ne_h1_hm, ne_h2_hm, d_ho_h1, d_ho_h2, d_ho_hm, hlow, hB⟩, hT⟩
theorem kVars_spec (t : Ty) (M : Nat → Prop) (w : World) (v : Value) (ht : Rep.R M w v t) (hlow0 : Low M w) (hz : psz t ≤ 2000000) :
  Calls Tryz.prog 87 #[v] w (Ret fun r w' => Sl M w' r (bif rightB t || rowB t then varsF t else []) ∧ Ext w w') := by
 have hlow := hlow0
 have hB : w.heap.size ≤ w.heap.size := Nat.le_refl _
 have hE : Below w.heap.size w w := Below.refl _ _
 have hsub : ∀ b, M b → M b := fun _ h => h
 obtain ⟨kv, rfl, op, nm, n64, hk⟩ := ty_open ht
 refine c_enter (n := 14) Tryz.func87 rfl rfl rfl ?_
 refine q0 ?_
 refine lC (o_box rfl rfl rfl ?_)
 intro b1 w1 hb_b1 ew1 h1
 replace h1 : Box _ b1 25 [.int .u8 t.op, .string t.name, .int .i64 t.n, kv] := h1
 replace h1 := h1.at (nM_of hlow hb_b1)
 replace hE := ew1.bl hE hB
 replace ht := Rep.ext ht ew1
 replace hk := hk.ext ew1
 replace hlow := hlow.ext ew1
 replace hB := ew1.z hB
 refine l_p 1 tK rfl (q1 (c_seq (q0 ?_)))
 refine lC (o_lds tK (fun j v hv => h1.cell j v hv) rfl rfl rfl rfl rfl rfl ?_)
 refine lC (o_call fo77 rfl rfl rfl (either_specB t _ _ _ ht hlow) ?_)
 rintro _ w2 ⟨rfl, ew2⟩
 replace hE := ew2.bl hE hB
 replace ht := Rep.ext ht ew2
 replace hk := hk.ext ew2
 replace h1 := h1.ext ew2
 replace hlow := hlow.ext ew2
 replace hB := ew2.z hB
 refine l_p 1 tK rfl (q1 ?_)
 refine c_ifB _ rfl (fun hr => ?_) (fun hr => ?_)
 ·refine q0 (l_p 1 tK rfl (q1 (c_ret (x_seqR (x_ret1 rfl rfl ?_)))))
  exact ⟨by rw [show (rightB t || rowB t) = false from hr]; exact sl_nil, hE⟩
 refine c_skip (x_seq (q0 ?_))
 refine lC (o_new tK rfl rfl rfl ?_)
 intro b3 w3 qb3 ew3 hb3
 have sw3 := Stp.add ew3 hlow hB (Nat.le_of_eq qb3.symm) hb3.lt
 have h3 : MB w.heap.size (Rw.Add M b3) w3 b3 68 [.slice none 0 0] := MB.mk' hb3 qb3 hB
 replace hE := hE.trans sw3.below
 replace ht := Rep.stp ht sw3
 replace hk := hk.stp sw3
 replace h1 := h1.stp sw3
 replace hsub := sw3.sb hsub
 replace hlow := sw3.low
 replace hB := sw3.z hB
 refine q1 (q0 ?_)
 refine lC (o_mkmap (κ := Int) (ν := Bool) (va := (fun x : Bool => Value.bool x)) rfl rfl ?_)
 intro bm w4 qbm ew4 ltbm hbm
 have ne_h3_hm : b3 ≠ bm := by have := h3.lt; omega
 have sw4 := Stp.add ew4 hlow hB (Nat.le_of_eq qbm.symm) ltbm
 have hm : OM (κ := Int) (fun x : Bool => Value.bool x) w.heap.size (Rw.Add (Rw.Add M b3) bm) w4 bm [] := OM.mk' hbm qbm hB
 replace h3 := h3.stp sw4 (ew4.block b3 h3.lt)
 replace hE := hE.trans sw4.below
 replace ht := Rep.stp ht sw4
 replace hk := hk.stp sw4
 replace h1 := h1.stp sw4
 replace hsub := sw4.sb hsub
 replace hlow := sw4.low
 replace hB := sw4.z hB
 refine lC (o_new tK rfl rfl rfl ?_)
 intro b4 w5 qb4 ew5 hb4
 have ne_h3_h4 : b3 ≠ b4 := by have := h3.lt; omega
 have ne_hm_h4 : bm ≠ b4 := by have := hm.lt; omega
 have sw5 := Stp.add ew5 hlow hB (Nat.le_of_eq qb4.symm) hb4.lt
 have h4 : MB w.heap.size (Rw.Add (Rw.Add (Rw.Add M b3) bm) b4) w5 b4 94 [.map none] := MB.mk' hb4 qb4 hB
 replace h3 := h3.stp sw5 (ew5.block b3 h3.lt)
 replace hm := hm.stp sw5 (ew5.block bm hm.lt)
 replace hE := hE.trans sw5.below
 replace ht := Rep.stp ht sw5
 replace hk := hk.stp sw5
 replace h1 := h1.stp sw5
 replace hsub := sw5.sb hsub
 replace hlow := sw5.low
 replace hB := sw5.z hB
 refine lC (o_st tK h4.box rfl rfl rfl rfl (by intro u hu; simp [Value.cells] at hu; subst hu; rfl) rfl rfl ?_)
 intro w6 hw6 qw6 bew6
 have uw6 : UpdB _ _ _ := ⟨qw6, bew6⟩
 have sw6 := uw6.stp h4.inM hlow h4.ge
 have frw6 := qw6.2
 replace h3 := h3.stp sw6 (frw6 b3 h3.lt ne_h3_h4)
 replace hm := hm.stp sw6 (frw6 bm hm.lt ne_hm_h4)
 replace hE := hE.trans sw6.below
 replace ht := Rep.stp ht sw6
 replace hk := hk.stp sw6
 replace h1 := h1.stp sw6
 replace hsub := sw6.sb hsub
 replace hlow := sw6.low
 replace hB := sw6.z hB
 replace h4 : MB w.heap.size _ w6 b4 _ [.map (some bm)] := ⟨hw6, h4.inM, h4.ge⟩
 refine q1 (q0 ?_)
 refine lC (o_lds tK (fun j v hv => h1.cell j v hv) rfl rfl rfl rfl rfl rfl ?_)
 refine lC (o_call fo79 rfl rfl rfl (canon_all _ t _ _ _ _ (Nat.le_refl _) (Classical.choose_spec (shape_either hr)) ht hlow hz) ?_)
 rintro vc w7 ⟨hc, ew7⟩
 replace h3 := h3.ext hlow hB ew7
 replace hm := hm.ext hlow hB ew7
 replace h4 := h4.ext hlow hB ew7
 replace hE := ew7.bl hE hB
 replace ht := Rep.ext ht ew7
 replace hk := hk.ext ew7
 replace h1 := h1.ext ew7
 replace hlow := hlow.ext ew7
 replace hB := ew7.z hB
 refine l_p 1 tK rfl ?_
 have hpc := psz_canon _ t (Nat.le_refl _)
 have hvl0 := varsTo_len [] (partsL (canonF t))
 have hvl1 : (partsL (canonF t)).length = psz (canonF t) := rfl
 simp only [List.length_nil, Nat.zero_add] at hvl0
 have hV : VI w.heap.size b4 b3 bm (Rw.Add (Rw.Add (Rw.Add M b3) bm) b4) [] w7 := ⟨_, _, h4, h3, hm, own_nil, fun n => by simp [getK, varsTo], ne_h3_h4.symm, ne_hm_h4.symm, ne_h3_hm, fun x hx => by simp [Value.ownBlock] at hx, fun x hx => by simp [Value.ownBlock] at hx, fun x hx => by simp [Value.ownBlock] at hx, hlow, hB⟩
 refine lC (o_call fo83 rfl rfl rfl (each_spec 109 [.pointer (some ⟨b4, 0, none⟩), .pointer (some ⟨b3, 0, none⟩)] w.heap.size 2000000 (VI w.heap.size b4 b3 bm) fo109 (fun _ _ _ _ h e => h.ext e) (fun _ _ _ h => by obtain ⟨v, m, h1, h2, hm, ho, hg, r1, r2, r3, r4, r5, r6, hlow, hB⟩ := h; exact ⟨hlow, hB⟩) (fun M acc w u x hN hI hu => varsDo_spec _ _ _ _ M acc w u x hN hI hu) (canonF t) _ [] _ _ (by simp only [List.length_nil]; omega) hV hc) ?_)
 rintro _ w8 ⟨rfl, Mw8, hV2, sw8⟩
 replace hE := hE.trans sw8.below
 replace ht := Rep.stp ht sw8
 replace hk := hk.stp sw8
 replace h1 := h1.stp sw8
 replace hc := Rep.stp hc sw8
 replace hsub := sw8.sb hsub
 replace hlow := sw8.low
 replace hB := sw8.z hB
 obtain ⟨lv, m2, h4, h3, hm, ho, _, _, _, _, _, _, _, _, _⟩ := hV2
 rw [List.nil_append] at ho
 refine q1 (q0 ?_)
 refine lC (o_ld tK (h3.cell 0 _ rfl) rfl rfl rfl rfl rfl ?_)
 refine l_p 1 tK rfl (q1 (c_ret (x_ret1 rfl rfl ?_)))
 refine ⟨?_, hE⟩
 rw [show (rightB t || rowB t) = true from hr]
 exact ho.sl (by omega) hlow0 hsub
theorem kClosed_spec (t : Ty) (M : Nat → Prop) (w : World) (v : Value) (ht : Rep.R M w v t) (hlow : Low M w) (hz : psz t ≤ 2000000) :
  Calls Tryz.prog 67 #[v] w (Ret fun r w' => r = .bool ((rightB t || rowB t) && decide (varsF t = [])) ∧ Ext w w') := by
 have hE : Below w.heap.size w w := Below.refl _ _
 have hB : w.heap.size ≤ w.heap.size := Nat.le_refl _
 obtain ⟨kv, rfl, op, nm, n64, hk⟩ := ty_open ht
 refine c_enter (n := 11) Tryz.func67 rfl rfl rfl ?_
 refine q0 ?_
 refine lC (o_box rfl rfl rfl ?_)
 intro b1 w1 hb_b1 ew1 h1
 replace h1 : Box _ b1 25 [.int .u8 t.op, .string t.name, .int .i64 t.n, kv] := h1
 replace h1 := h1.at (nM_of hlow hb_b1)
 replace hE := ew1.bl hE hB
 replace ht := Rep.ext ht ew1
 replace hk := hk.ext ew1
 replace hlow := hlow.ext ew1
 replace hB := ew1.z hB
 refine l_p 1 tK rfl (q1 (q0 ?_))
 refine lC (o_lds tK (fun j v hv => h1.cell j v hv) rfl rfl rfl rfl rfl rfl ?_)
 refine lC (o_call fo77 rfl rfl rfl (either_specB t _ _ _ ht hlow) ?_)
 rintro _ w2 ⟨rfl, ew2⟩
 replace hE := ew2.bl hE hB
 replace ht := Rep.ext ht ew2
 replace hk := hk.ext ew2
 replace h1 := h1.ext ew2
 replace hlow := hlow.ext ew2
 replace hB := ew2.z hB
 refine l_p 1 tK rfl ?_
 refine l_split 5 _ rfl (fun hr => ?_) (fun hr => ?_)
 ·refine lC (o_lds tK (fun j v hv => h1.cell j v hv) rfl rfl rfl rfl rfl rfl ?_)
  refine lC (o_call fo87 rfl rfl rfl (kVars_spec t _ _ _ ht hlow hz) ?_)
  rintro vhv w3 ⟨hv, ew3⟩
  replace hE := ew3.bl hE hB
  replace ht := Rep.ext ht ew3
  replace hk := hk.ext ew3
  replace h1 := h1.ext ew3
  replace hlow := hlow.ext ew3
  replace hB := ew3.z hB
  refine lC (o_len tK hv rfl rfl rfl rfl rfl ?_)
  refine l_p 3 tK rfl (q1 (c_ret (x_ret1 rfl rfl ?_)))
  refine ⟨?_, hE⟩
  rw [show (rightB t || rowB t) = true from hr]
  simp only [cond_true, Bool.true_and]
  congr 1
  cases varsF t <;> simp <;> omega
 refine l_p 6 tK rfl (q1 (c_ret (x_ret1 rfl rfl ?_)))
 exact ⟨by rw [show (rightB t || rowB t) = false from hr]; rfl, hE⟩
/-- Between two parts: was there a ? -/
def SI (B b1 : Nat) (c : Bool) (M : Nat → Prop) (acc : List Ty) (w : World) : Prop := MB B M w b1 4 [.bool (c && acc.all statB)] ∧ Low M w ∧ B ≤ w.heap.size
theorem SI.ext {B b1 : Nat} {c : Bool} {M : Nat → Prop} {acc : List Ty} {w w' : World} (h : SI B b1 c M acc w) (e : Ext w w') : SI B b1 c M acc w' := ⟨h.1.ext h.2.1 h.2.2 e, h.2.1.ext e, Nat.le_trans h.2.2 e.size⟩
theorem statDo_spec (B b1 : Nat) (c : Bool) (M : Nat → Prop) (acc : List Ty) (w : World) (v : Value) (t : Ty) (hI : SI B b1 c M acc w) (ht : Rep.R M w v t) :
  Calls Tryz.prog 84 #[v, .pointer (some ⟨b1, 0, none⟩)] w (Ret fun r w' => r = .tuple #[] ∧ ∃ M', SI B b1 c M' (acc ++ [t]) w' ∧ Stp B M M' w w') := by
 obtain ⟨h1, hlow, hB⟩ := hI
 have hT : Stp B M M w w := Stp.refl hlow
 obtain ⟨kv, rfl, op, nm, n64, hk⟩ := ty_open ht
 refine c_enter (n := 14) Tryz.func84 rfl rfl rfl ?_
 refine q0 ?_
 refine lC (o_box rfl rfl rfl ?_)
 intro b2 w1 hb_b2 ew1 h2
 replace h2 : Box _ b2 25 [.int .u8 t.op, .string t.name, .int .i64 t.n, kv] := h2
 replace h2 := h2.at (nM_of hlow hb_b2)
 replace hT := hT.then (Stp.ext ew1 hlow hB)
 replace h1 := h1.ext hlow hB ew1
 replace ht := Rep.ext ht ew1
 replace hk := hk.ext ew1
 replace hlow := hlow.ext ew1
 replace hB := ew1.z hB
 refine q1 (c_reg ?_)
 refine lC (o_ld tK (h1.cell 0 _ rfl) rfl rfl rfl rfl rfl ?_)
 refine l_p 1 tK rfl ?_
 refine l_split 4 _ rfl (fun c1 => ?_) (fun c1 => ?_)
 ·refine l_p 1 tK rfl ?_
  refine lC (o_ld tK (h2.cell 0 _ rfl) rfl rfl rfl rfl rfl ?_)
  refine l_p 3 tK rfl ?_
  refine l_splitN 9 _ rfl (fun c2 => ?_) (fun c2 => ?_)
  ·refine l_p 1 tK rfl ?_
   refine lC (o_ld tK (h2.cell 0 _ rfl) rfl rfl rfl rfl rfl ?_)
   refine l_p 2 tK rfl ?_
   have hval : (c && (acc ++ [t]).all statB) = (c && acc.all statB && statB t) := by simp [Bool.and_assoc]
   refine lC (o_st tK h1.box rfl rfl rfl rfl (by intro u hu; simp [Value.cells] at hu; subst hu; rfl) rfl rfl ?_)
   intro w2 hw2 qw2 bew2
   have uw2 : UpdB _ _ _ := ⟨qw2, bew2⟩
   have sw2 := uw2.stp h1.inM hlow h1.ge
   have frw2 := qw2.2
   replace hT := hT.then sw2
   replace ht := Rep.stp ht sw2
   replace hk := hk.stp sw2
   replace h2 := h2.stp sw2
   replace hlow := sw2.low
   replace hB := sw2.z hB
   replace h1 : MB B _ w2 b1 _ [.bool (!decide (t.op = 9))] := ⟨hw2, h1.inM, h1.ge⟩
   refine l_nil ?_
   refine x_ret0n rfl ?_
   have hfin : (!decide (t.op = 9)) = (c && (acc ++ [t]).all statB) := by
    rw [hval]
    generalize (c && acc.all statB) = q at *
    unfold statB
    simp_all
   rw [hfin] at h1
   exact ⟨rfl, _, ⟨h1, hlow, hB⟩, hT⟩
  refine l_p 4 tK rfl ?_
  have hval : (c && (acc ++ [t]).all statB) = (c && acc.all statB && statB t) := by simp [Bool.and_assoc]
  refine lC (o_st tK h1.box rfl rfl rfl rfl (by intro u hu; simp [Value.cells] at hu; subst hu; rfl) rfl rfl ?_)
  intro w3 hw3 qw3 bew3
  have uw3 : UpdB _ _ _ := ⟨qw3, bew3⟩
  have sw3 := uw3.stp h1.inM hlow h1.ge
  have frw3 := qw3.2
  replace hT := hT.then sw3
  replace ht := Rep.stp ht sw3
  replace hk := hk.stp sw3
  replace h2 := h2.stp sw3
  replace hlow := sw3.low
  replace hB := sw3.z hB
  replace h1 : MB B _ w3 b1 _ [.bool false] := ⟨hw3, h1.inM, h1.ge⟩
  refine l_nil ?_
  refine x_ret0n rfl ?_
  have hfin : false = (c && (acc ++ [t]).all statB) := by
   rw [hval]
   generalize (c && acc.all statB) = q at *
   unfold statB
   simp_all
  rw [hfin] at h1
  exact ⟨rfl, _, ⟨h1, hlow, hB⟩, hT⟩
 refine l_p 9 tK rfl ?_
 have hval : (c && (acc ++ [t]).all statB) = (c && acc.all statB && statB t) := by simp [Bool.and_assoc]
 refine lC (o_st tK h1.box rfl rfl rfl rfl (by intro u hu; simp [Value.cells] at hu; subst hu; rfl) rfl rfl ?_)
 intro w4 hw4 qw4 bew4
 have uw4 : UpdB _ _ _ := ⟨qw4, bew4⟩
 have sw4 := uw4.stp h1.inM hlow h1.ge
 have frw4 := qw4.2
 replace hT := hT.then sw4
 replace ht := Rep.stp ht sw4
 replace hk := hk.stp sw4
 replace h2 := h2.stp sw4
 replace hlow := sw4.low
 replace hB := sw4.z hB
 replace h1 : MB B _ w4 b1 _ [.bool false] := ⟨hw4, h1.inM, h1.ge⟩
 refine l_nil ?_
 refine x_ret0n rfl ?_
 have hfin : false = (c && (acc ++ [t]).all statB) := by
  rw [hval]
  generalize (c && acc.all statB) = q at *
  unfold statB
  simp_all
 rw [hfin] at h1
 exact ⟨rfl, _, ⟨h1, hlow, hB⟩, hT⟩
theorem kStatic_spec (t : Ty) (M : Nat → Prop) (w : World) (v : Value) (ht : Rep.R M w v t) (hlow0 : Low M w) (hz : psz t ≤ 2000000) :
  Calls Tryz.prog 63 #[v] w (Ret fun r w' => r = .bool ((rightB t || rowB t) && staticF t) ∧ Ext w w') := by
 have hlow := hlow0
 have hB : w.heap.size ≤ w.heap.size := Nat.le_refl _
 have hE : Below w.heap.size w w := Below.refl _ _
 have hsub : ∀ b, M b → M b := fun _ h => h
 obtain ⟨kv, rfl, op, nm, n64, hk⟩ := ty_open ht
 refine c_enter (n := 10) Tryz.func63 rfl rfl rfl ?_
 refine q0 ?_
 refine lC (o_box rfl rfl rfl ?_)
 intro b1 w1 hb_b1 ew1 h1
 replace h1 : Box _ b1 25 [.int .u8 t.op, .string t.name, .int .i64 t.n, kv] := h1
 replace h1 := h1.at (nM_of hlow hb_b1)
 replace hE := ew1.bl hE hB
 replace ht := Rep.ext ht ew1
 replace hk := hk.ext ew1
 replace hlow := hlow.ext ew1
 replace hB := ew1.z hB
 refine l_p 1 tK rfl (q1 (q0 ?_))
 refine lC (o_lds tK (fun j v hv => h1.cell j v hv) rfl rfl rfl rfl rfl rfl ?_)
 refine lC (o_call fo77 rfl rfl rfl (either_specB t _ _ _ ht hlow) ?_)
 rintro _ w2 ⟨rfl, ew2⟩
 replace hE := ew2.bl hE hB
 replace ht := Rep.ext ht ew2
 replace hk := hk.ext ew2
 replace h1 := h1.ext ew2
 replace hlow := hlow.ext ew2
 replace hB := ew2.z hB
 refine lC (o_new tK rfl rfl rfl ?_)
 intro b3 w3 qb3 ew3 hb3
 have sw3 := Stp.add ew3 hlow hB (Nat.le_of_eq qb3.symm) hb3.lt
 have h3 : MB w.heap.size (Rw.Add M b3) w3 b3 4 [.bool false] := MB.mk' hb3 qb3 hB
 replace hE := hE.trans sw3.below
 replace ht := Rep.stp ht sw3
 replace hk := hk.stp sw3
 replace h1 := h1.stp sw3
 replace hsub := sw3.sb hsub
 replace hlow := sw3.low
 replace hB := sw3.z hB
 refine lC (o_st tK h3.box rfl rfl rfl rfl (by intro u hu; simp [Value.cells] at hu; subst hu; rfl) rfl rfl ?_)
 intro w4 hw4 qw4 bew4
 have uw4 : UpdB _ _ _ := ⟨qw4, bew4⟩
 have sw4 := uw4.stp h3.inM hlow h3.ge
 have frw4 := qw4.2
 replace hE := hE.trans sw4.below
 replace ht := Rep.stp ht sw4
 replace hk := hk.stp sw4
 replace h1 := h1.stp sw4
 replace hsub := sw4.sb hsub
 replace hlow := sw4.low
 replace hB := sw4.z hB
 replace h3 : MB w.heap.size _ w4 b3 _ [.bool (rightB t || rowB t)] := ⟨hw4, h3.inM, h3.ge⟩
 refine q1 (q0 ?_)
 refine lC (o_lds tK (fun j v hv => h1.cell j v hv) rfl rfl rfl rfl rfl rfl ?_)
 refine l_p 1 tK rfl ?_
 refine lC (o_call fo83 rfl rfl rfl (each_spec 84 [.pointer (some ⟨b3, 0, none⟩)] w.heap.size 2000000 (SI w.heap.size b3 (rightB t || rowB t)) fo84 (fun _ _ _ _ h e => h.ext e) (fun _ _ _ h => h.2) (fun M acc w u x hN hI hu => statDo_spec _ _ _ M acc w u x hI hu) t _ [] _ _ (by simp only [List.length_nil]; omega) ⟨by simpa using h3, hlow, hB⟩ ht) ?_)
 rintro _ w5 ⟨rfl, Mw5, hV2, sw5⟩
 replace hE := hE.trans sw5.below
 replace ht := Rep.stp ht sw5
 replace hk := hk.stp sw5
 replace h1 := h1.stp sw5
 replace hsub := sw5.sb hsub
 replace hlow := sw5.low
 replace hB := sw5.z hB
 obtain ⟨h3, _, _⟩ := hV2
 rw [List.nil_append] at h3
 refine q1 (q0 ?_)
 refine lC (o_ld tK (h3.cell 0 _ rfl) rfl rfl rfl rfl rfl ?_)
 refine l_p 1 tK rfl (q1 (c_ret (x_ret1 rfl rfl ?_)))
 exact ⟨rfl, hE⟩
end Go.Proofs.YtohfnpmehgpphaaGreat
namespace Rw
open Go Go.RowKit
theorem mid_get {cs sub : List Value} {k j : Nat} {v : Value} (hs : (cs.drop k).take sub.length = sub) (hv : sub[j]? = some v) : cs[k + j]? = some v := by
  have hj := (List.getElem?_eq_some_iff.1 hv).1
  rw [← hs, List.getElem?_take_of_lt hj, List.getElem?_drop] at hv
  exact hv
theorem At.mid {M : Nat → Prop} {w : World} {b off : Nat} {cs sub : List Value} (h : At M w b off cs) (k : Nat) (hs : (cs.drop k).take sub.length = sub) (j : Nat) (v : Value) (hv : sub[j]? = some v) : w.cell? ⟨b, off + k + j, none⟩ = some v := by
  have := h.cell (k + j) v (mid_get hs hv)
  rwa [← Nat.add_assoc] at this
/-- An expression: an op, a name, an argument's name, a number, whether it has an annotation, the annotation, kids. -/
inductive Tm where
  | mk (op : Int) (name arg : ByteArray) (n : Int) (has : Bool) (ann : Ty) (kids : List Tm)
namespace Tm
def op : Tm → Int | mk o _ _ _ _ _ _ => o
def name : Tm → ByteArray | mk _ s _ _ _ _ _ => s
def arg : Tm → ByteArray | mk _ _ s _ _ _ _ => s
def n : Tm → Int | mk _ _ _ n _ _ _ => n
def has : Tm → Bool | mk _ _ _ _ b _ _ => b
def ann : Tm → Ty | mk _ _ _ _ _ a _ => a
def kids : Tm → List Tm | mk _ _ _ _ _ _ l => l
end Tm
theorem Tm.ind {p : Tm → Prop} (h : ∀ t, (∀ k ∈ t.kids, p k) → p t) (t : Tm) : p t := by
  generalize e : sizeOf t = n
  induction n using Nat.strongRecOn generalizing t with
  | ind n ih =>
    refine h t fun k hk => ih (sizeOf k) ?_ k rfl
    cases t with
    | mk o s g m b a l =>
      have h1 : sizeOf k < sizeOf l := List.sizeOf_lt_of_mem hk
      rw [← e, Tm.mk.sizeOf_spec]
      omega
/-- The value reads as the expression. -/
inductive TmR (M : Nat → Prop) (w : World) : Tm → Value → Prop
  | mk {op n : Int} {name arg : ByteArray} {has : Bool} {ann : Ty} {kids : List Tm} {a : Option Addr} {cap : Nat} {akv : Value} (b off : Nat) (u : Nat → Value) (hop : 0 ≤ op ∧ op ≤ 255) (hs : name.size < 140737488355328) (hg : arg.size < 140737488355328) (hn : I64 n)
      (hann : TyR M w ann (.agg #[.int .u8 ann.op, .string ann.name, .int .i64 ann.n, akv])) (hl : kids.length < 140737488355328) (hc : kids.length ≤ cap)
      (ha : kids = [] ∨ a = some ⟨b, off, none⟩) (hu : ∀ (i : Nat) (x : Tm), kids[i]? = some x → TmR M w x (u i)) (hA : ∀ (i : Nat) (x : Tm), kids[i]? = some x → At M w b (off + i * 10) (u i).cells.toList) :
      TmR M w (.mk op name arg n has ann kids) (.agg #[.int .u8 op, .string name, .string arg, .int .i64 n, .bool has, .int .u8 ann.op, .string ann.name, .int .i64 ann.n, akv, .slice a kids.length cap])
theorem TmR.map {M M' : Nat → Prop} {w w' : World} (hat : ∀ {b off : Nat} {cs : List Value}, At M w b off cs → At M' w' b off cs) : ∀ (t : Tm) (v : Value), TmR M w t v → TmR M' w' t v := by
  intro t v h
  induction h with
  | mk b off u hop hs hg hn hann hl hc ha hu hA ih => exact .mk b off u hop hs hg hn (hann.map hat _ _) hl hc ha ih (fun i x hx => hat (hA i x hx))
instance : Rep Tm where
  sz := 10
  R := fun M w v t => TmR M w t v
  pos := by decide
  size := by
    intro M w v x h
    cases h; rfl
  one := by
    intro M w v x h u hu
    cases h with
    | mk b off u' hop hs hg hn hann =>
      have h4 : ∀ y ∈ (Value.agg #[.int .u8 _, .string _, .int .i64 _, _]).cells.toList, y.oneCell' = true := Rep.one (α := Ty) (M := M) (w := w) hann
      simp [Value.cells] at hu h4
      rcases hu with rfl | rfl | rfl | rfl | rfl | rfl | rfl | rfl | rfl | rfl <;> first | rfl | exact h4.2.2.2
  upd := fun h e => TmR.map (fun hA => hA.upd e) _ _ h
  wk := fun h e => TmR.map (fun hA => hA.wk e) _ _ h
theorem tm_open {M : Nat → Prop} {w : World} {v : Value} {t : Tm} (h : Rep.R M w v t) :
    ∃ akv kv, v = .agg #[.int .u8 t.op, .string t.name, .string t.arg, .int .i64 t.n, .bool t.has, .int .u8 t.ann.op, .string t.ann.name, .int .i64 t.ann.n, akv, kv] ∧ (0 ≤ t.op ∧ t.op ≤ 255) ∧ t.name.size < 140737488355328 ∧ t.arg.size < 140737488355328 ∧ I64 t.n ∧
      Rep.R M w (.agg #[.int .u8 t.ann.op, .string t.ann.name, .int .i64 t.ann.n, akv]) t.ann ∧ Sl M w kv t.kids := by
  have h' : TmR M w t v := h
  cases h' with
  | mk b off u hop hs hg hn hann hl hc ha hu hA =>
    refine ⟨_, _, rfl, hop, hs, hg, hn, hann, _, _, rfl, hl, hc, ?_⟩
    rcases ha with ha | ha
    · exact .inl ha
    · exact .inr ⟨b, off, ha, fun i x hx => ⟨u i, hu i x hx, hA i x hx⟩⟩
theorem tm_mk {M : Nat → Prop} {w : World} {akv kv : Value} {op n : Int} {name arg : ByteArray} {has : Bool} {ann : Ty} {kids : List Tm} (h1 : 0 ≤ op ∧ op ≤ 255) (h2 : name.size < 140737488355328) (h2g : arg.size < 140737488355328) (h3 : I64 n)
    (ha : Rep.R M w (.agg #[.int .u8 ann.op, .string ann.name, .int .i64 ann.n, akv]) ann) (hk : Sl M w kv kids) :
    Rep.R M w (.agg #[.int .u8 op, .string name, .string arg, .int .i64 n, .bool has, .int .u8 ann.op, .string ann.name, .int .i64 ann.n, akv, kv]) (Tm.mk op name arg n has ann kids) := by
  show TmR M w _ _
  obtain ⟨a, cap, rfl, h4, h5, h6⟩ := hk
  rcases h6 with h6 | ⟨b, off, haa, h6⟩
  · subst h6
    exact .mk 0 0 (fun _ => .nilFunc) h1 h2 h2g h3 ha h4 h5 (.inl rfl) (fun i x hx => by simp at hx) (fun i x hx => by simp at hx)
  · have h7 : ∀ i : Nat, ∃ u : Value, ∀ x : Tm, kids[i]? = some x → Rep.R M w u x ∧ At M w b (off + i * 10) u.cells.toList := by
      intro i
      cases hi : kids[i]? with
      | none => exact ⟨.nilFunc, fun x hx => by cases hx⟩
      | some y =>
        obtain ⟨u, hu, hA⟩ := h6 i y hi
        exact ⟨u, fun x hx => by cases hx; exact ⟨hu, hA⟩⟩
    obtain ⟨u, hu⟩ := Classical.axiomOfChoice h7
    exact .mk b off u h1 h2 h2g h3 ha h4 h5 (.inr haa) (fun i x hx => (hu i x hx).1) (fun i x hx => (hu i x hx).2)
end Rw
namespace Rw
/-! ## Nodes -/
def nodesL : Tm → List Tm
  | .mk o s g n b a l => .mk o s g n b a l :: l.flatMap nodesL
theorem nodesL_eq (t : Tm) : nodesL t = t :: t.kids.flatMap nodesL := by
  cases t; rw [nodesL]; rfl
def nsz (t : Tm) : Nat := (nodesL t).length
def nszs (l : List Tm) : Nat := (l.flatMap nodesL).length
theorem nsz_eq (t : Tm) : nsz t = nszs t.kids + 1 := by unfold nsz nszs; rw [nodesL_eq]; simp
theorem nszs_cons (t : Tm) (l : List Tm) : nszs (t :: l) = nsz t + nszs l := by simp [nszs, nsz]
theorem nszs_nil : nszs [] = 0 := rfl
theorem nszs_append (l r : List Tm) : nszs (l ++ r) = nszs l + nszs r := by simp [nszs]
theorem nsz_mem {t : Tm} : ∀ {l : List Tm}, t ∈ l → nsz t ≤ nszs l
  | x :: l, h => by
    rw [nszs_cons]
    rcases List.mem_cons.1 h with rfl | h
    · omega
    · have := nsz_mem h; omega
theorem nsz_get {l : List Tm} {i : Nat} (h : i < l.length) : nsz l[i] ≤ nszs l := nsz_mem (List.getElem_mem h)
theorem nsz_pos (t : Tm) : 0 < nsz t := by rw [nsz_eq]; omega
theorem len_nsz : ∀ l : List Tm, l.length ≤ nszs l
  | [] => Nat.zero_le _
  | t :: l => by have := len_nsz l; have := nsz_pos t; rw [nszs_cons, List.length_cons]; omega
theorem ntake_step {l : List Tm} {i : Nat} (h : i < l.length) : (l.take (i + 1)).flatMap nodesL = (l.take i).flatMap nodesL ++ nodesL l[i] := by
  rw [List.take_succ_eq_append_getElem h, List.flatMap_append]; simp
theorem take_nsz (l : List Tm) (i : Nat) : nszs (l.take i) ≤ nszs l := by
  have h := nszs_append (l.take i) (l.drop i)
  rw [List.take_append_drop] at h
  omega
theorem nszs_take {l : List Tm} {i : Nat} (hi : i < l.length) : nszs (l.take (i + 1)) = nszs (l.take i) + nsz l[i] := by
  rw [List.take_succ_eq_append_getElem hi, nszs_append, nszs_cons]; rfl
theorem kid_nsz {t k : Tm} (h : k ∈ t.kids) : nsz k < nsz t := by have := nsz_mem h; rw [nsz_eq t]; omega
/-- Parts of annotations. -/
def asz (t : Tm) : Nat := ((nodesL t).map fun x => psz x.ann).sum
/-- Its annotations are small. -/
def AnnS (t : Tm) : Prop := ∀ x ∈ nodesL t, psz x.ann ≤ 2000000
theorem AnnS.self {t : Tm} (h : AnnS t) : psz t.ann ≤ 2000000 := h t (by rw [nodesL_eq]; exact List.mem_cons_self)
theorem AnnS.kid {t k : Tm} (h : AnnS t) (hk : k ∈ t.kids) : AnnS k := fun x hx => h x (by rw [nodesL_eq]; exact List.mem_cons_of_mem _ (List.mem_flatMap.2 ⟨k, hk, hx⟩))
/-! ## Right, as the program has it -/
/-- Of an op: is there a name, an argument's name; how many kids (-1: a case's); an annotation (1 perhaps, 2 always); and whether there is such an op. -/
def shp (op : Int) : Bool × Bool × Int × Int × Bool :=
  if op = 32 then (true, false, 0, 0, true) else if op = 33 ∨ op = 34 ∨ op = 41 then (false, false, 0, 0, true) else if op = 35 then (false, true, 1, 1, true) else if op = 36 then (true, true, 1, 1, true)
  else if op = 37 then (false, false, 2, 0, true) else if op = 38 ∨ op = 42 ∨ op = 45 then (true, false, 2, 0, true) else if op = 39 then (false, false, 3, 0, true) else if op = 40 then (true, false, 2, 0, true)
  else if op = 43 ∨ op = 44 ∨ op = 46 ∨ op = 47 then (true, false, 1, 0, true) else if op = 48 then (false, false, -1, 0, true) else if op = 49 then (true, true, 1, 0, true) else if op = 50 then (false, true, 1, 0, true)
  else if op = 51 then (false, false, 1, 2, true) else (false, false, 0, 0, false)
def namedB (s : ByteArray) (should : Bool) : Bool := (decide (s = ⟨#[]⟩) && !should) || (should && isWordB s)
def blankB (t : Ty) : Bool := decide (t.op = 0) && (decide (t.name = ⟨#[]⟩) && (decide (t.n = 0) && decide (t.kids = [])))
def signB (s : ByteArray) : Bool := decide (s = ⟨#[43]⟩) || (decide (s = ⟨#[45]⟩) || (decide (s = ⟨#[42]⟩) || (decide (s = ⟨#[47]⟩) || (decide (s = ⟨#[37]⟩) || (decide (s = ⟨#[60]⟩) || decide (s = ⟨#[61, 61]⟩))))))
def numberB (op n : Int) : Bool := if op = 33 then decide (0 ≤ n) else if op = 34 then decide (n = 0) || decide (n = 1) else decide (n = 0)
def notedB (has : Bool) (a : Ty) (an : Int) : Bool := bif has then decide (0 < an) && (rightB a && decide (varsF a = [])) else decide (an < 2) && blankB a
def armB (op : Int) (last : Bool) : Bool := decide (op = 49) || (decide (op = 50) && last)
def armsB (op : Int) : Bool := decide (op = 49) || decide (op = 50)
def headT (t : Tm) (arms : Bool) : Bool := (shp t.op).2.2.2.2 && ((arms == armsB t.op) && (numberB t.op t.n && (notedB t.has t.ann (shp t.op).2.2.2.1 && (namedB t.arg (shp t.op).2.1 &&
  ((bif decide (t.op = 40) then signB t.name else namedB t.name (shp t.op).1) && (bif decide (0 ≤ (shp t.op).2.2.1) then decide ((t.kids.length : Int) = (shp t.op).2.2.1) else !decide (t.kids = [])))))))
def innerB (op : Int) (i : Nat) : Bool := decide (op = 48) && decide (0 < (i : Int))
def kidsT (op : Int) : Nat → List (Int × (Bool → Bool)) → Bool
  | _, [] => true
  | i, (o, g) :: r => (!innerB op i || armB o r.isEmpty) && (g (innerB op i) && kidsT op (i + 1) r)
/-- Is it an expression (or, where it may be, an arm)? -/
def rightT : Tm → Bool → Bool
  | .mk op name arg n has ann kids => fun arms => headT (.mk op name arg n has ann kids) arms && kidsT op 0 (kids.map fun k => (k.op, rightT k))
def kidL (l : List Tm) : List (Int × (Bool → Bool)) := l.map fun k => (k.op, rightT k)
theorem rightT_eq (t : Tm) (arms : Bool) : rightT t arms = (headT t arms && kidsT t.op 0 (kidL t.kids)) := by cases t; rw [rightT]; rfl
theorem kidsT_step {op : Int} {l : List Tm} {i : Nat} (hi : i < l.length) : kidsT op i (kidL (l.drop i)) = ((!innerB op i || armB l[i].op (decide (i + 1 = l.length))) && (rightT l[i] (innerB op i) && kidsT op (i + 1) (kidL (l.drop (i + 1))))) := by
  rw [List.drop_eq_getElem_cons hi]
  show kidsT op i ((l[i].op, rightT l[i]) :: kidL (l.drop (i + 1))) = _
  rw [kidsT]
  have e : (kidL (l.drop (i + 1))).isEmpty = decide (i + 1 = l.length) := by
    rw [Bool.eq_iff_iff, List.isEmpty_iff, decide_eq_true_eq]
    unfold kidL
    rw [List.map_eq_nil_iff, List.drop_eq_nil_iff]
    omega
  rw [e]
theorem kidsT_end {op : Int} {l : List Tm} {i : Nat} (hi : l.length ≤ i) : kidsT op i (kidL (l.drop i)) = true := by
  rw [List.drop_eq_nil_of_le hi]; rfl
/-! ## .. and as the document has it -/
def partsT : List ByteArray := [⟨#[110]⟩, ⟨#[105]⟩, ⟨#[98]⟩, ⟨#[97, 116, 101]⟩, ⟨#[110, 97, 116, 101]⟩, ⟨#[101, 101]⟩, ⟨#[110, 101, 101]⟩, ⟨#[101, 101, 101]⟩, ⟨#[111, 101, 101]⟩, ⟨#[46]⟩, ⟨#[110, 101, 101]⟩, ⟨#[110, 101]⟩, ⟨#[110, 101]⟩, ⟨#[110, 101, 101]⟩, ⟨#[110, 101]⟩, ⟨#[110, 101]⟩, ⟨#[99]⟩, ⟨#[110, 97, 101]⟩, ⟨#[97, 101]⟩, ⟨#[84, 101]⟩]
def partsS (op : Int) : ByteArray := if op < 32 ∨ 52 ≤ op then ⟨#[]⟩ else (partsT[(op - 32).toNat]?).getD ⟨#[]⟩
def hasB (s : ByteArray) (c : UInt8) : Bool := s.data.toList.any fun x => decide (x = c)
def countE (s : ByteArray) : Nat := (s.data.toList.filter fun x => decide (x = 101)).length
def partsB (t : Tm) (p : ByteArray) : Bool := (hasB p 111 == signB t.name) && ((hasB p 111 || ((hasB p 110 == isWordB t.name) && (hasB p 110 || decide (t.name = ⟨#[]⟩)))) && (((hasB p 97 == isWordB t.arg) && (hasB p 97 || decide (t.arg = ⟨#[]⟩))) &&
  ((decide (0 ≤ t.n) && (!decide (0 < t.n) || (hasB p 105 || (hasB p 98 && decide (t.n = 1))))) && (bif t.has then (hasB p 84 || hasB p 116) && (rightB t.ann && decide (varsF t.ann = [])) else !hasB p 84 && blankB t.ann))))
def armsL : List (Int × (Bool → Bool)) → Bool
  | [] => true
  | (o, g) :: r => g true && (!(decide (o = 50) && !r.isEmpty) && armsL r)
def caseL : List (Int × (Bool → Bool)) → Bool
  | [] => false
  | (_, g) :: r => g false && armsL r
def allL (l : List (Int × (Bool → Bool))) : Bool := l.all fun x => x.2 false
def refT : Tm → Bool → Bool
  | .mk op name arg n has ann kids => fun arm => !decide (partsS op = ⟨#[]⟩) && ((arm == armsB op) && (partsB (.mk op name arg n has ann kids) (partsS op) &&
    (bif decide (partsS op = ⟨#[99]⟩) then caseL (kids.map fun k => (k.op, refT k)) else decide (kids.length = countE (partsS op)) && allL (kids.map fun k => (k.op, refT k)))))
def refL (l : List Tm) : List (Int × (Bool → Bool)) := l.map fun k => (k.op, refT k)
theorem refT_eq (t : Tm) (arm : Bool) : refT t arm = (!decide (partsS t.op = ⟨#[]⟩) && ((arm == armsB t.op) && (partsB t (partsS t.op) &&
    (bif decide (partsS t.op = ⟨#[99]⟩) then caseL (refL t.kids) else decide (t.kids.length = countE (partsS t.op)) && allL (refL t.kids))))) := by cases t; rw [refT]; rfl
/-! ## They are one -/
theorem op_cases {op : Int} (h : ¬ (op < 32 ∨ 52 ≤ op)) : op = 32 ∨ op = 33 ∨ op = 34 ∨ op = 35 ∨ op = 36 ∨ op = 37 ∨ op = 38 ∨ op = 39 ∨ op = 40 ∨ op = 41 ∨ op = 42 ∨ op = 43 ∨ op = 44 ∨ op = 45 ∨ op = 46 ∨ op = 47 ∨ op = 48 ∨ op = 49 ∨ op = 50 ∨ op = 51 := by omega
theorem word_not_sign {s : ByteArray} (h : isWordB s = true) : signB s = false ∧ s ≠ ⟨#[]⟩ := by
  have key : ∀ x : ByteArray, isWordB x = false → s ≠ x := fun x hx e => by subst e; rw [h] at hx; cases hx
  have k1 := key ⟨#[43]⟩ (by decide)
  have k2 := key ⟨#[45]⟩ (by decide)
  have k3 := key ⟨#[42]⟩ (by decide)
  have k4 := key ⟨#[47]⟩ (by decide)
  have k5 := key ⟨#[37]⟩ (by decide)
  have k6 := key ⟨#[60]⟩ (by decide)
  have k7 := key ⟨#[61, 61]⟩ (by decide)
  exact ⟨by unfold signB; simp [k1, k2, k3, k4, k5, k6, k7], key ⟨#[]⟩ (by decide)⟩
/-- What the two say of a node of an op, but for its kids. -/
def nodeB (t : Tm) : Bool := numberB t.op t.n && (notedB t.has t.ann (shp t.op).2.2.2.1 && (namedB t.arg (shp t.op).2.1 && (bif decide (t.op = 40) then signB t.name else namedB t.name (shp t.op).1)))
theorem name_law (s : ByteArray) (nm : Bool) : ((false == signB s) && (false || ((nm == isWordB s) && (nm || decide (s = ⟨#[]⟩))))) = namedB s nm := by
  unfold namedB
  cases hw : isWordB s with
  | true =>
    obtain ⟨h1, h2⟩ := word_not_sign hw
    rw [h1, decide_eq_false h2]
    cases nm <;> rfl
  | false =>
    by_cases he : s = ⟨#[]⟩
    · subst he; cases nm <;> decide
    · rw [decide_eq_false he]; cases nm <;> simp
theorem arg_law (s : ByteArray) (ar : Bool) : ((ar == isWordB s) && (ar || decide (s = ⟨#[]⟩))) = namedB s ar := by
  unfold namedB
  cases hw : isWordB s with
  | true =>
    obtain ⟨h1, h2⟩ := word_not_sign hw
    rw [decide_eq_false h2]
    cases ar <;> rfl
  | false =>
    by_cases he : s = ⟨#[]⟩
    · subst he; cases ar <;> rfl
    · rw [decide_eq_false he]; cases ar <;> simp
theorem sign_law (s : ByteArray) : ((true == signB s) && (true || ((false == isWordB s) && (false || decide (s = ⟨#[]⟩))))) = signB s := by cases signB s <;> rfl
theorem num_law (n : Int) : (decide (0 ≤ n) && (!decide (0 < n) || (false || (false && decide (n = 1))))) = decide (n = 0) := by
  by_cases h : n = 0
  · subst h; rfl
  · rw [decide_eq_false h]
    by_cases h0 : 0 ≤ n
    · rw [decide_eq_true (show 0 < n by omega)]; simp
    · rw [decide_eq_false h0]; rfl
theorem num_law_i (n : Int) : (decide (0 ≤ n) && (!decide (0 < n) || (true || (false && decide (n = 1))))) = decide (0 ≤ n) := by simp
theorem num_law_b (n : Int) : (decide (0 ≤ n) && (!decide (0 < n) || (false || (true && decide (n = 1))))) = (decide (n = 0) || decide (n = 1)) := by
  rw [Bool.false_or, Bool.true_and, Bool.eq_iff_iff]
  simp only [Bool.and_eq_true, Bool.or_eq_true, decide_eq_true_eq, Bool.not_eq_true', decide_eq_false_iff_not]
  omega
theorem partsB_of {t : Tm} {p : ByteArray} {o n a i b T u : Bool} (h1 : hasB p 111 = o) (h2 : hasB p 110 = n) (h3 : hasB p 97 = a) (h4 : hasB p 105 = i) (h5 : hasB p 98 = b) (h6 : hasB p 84 = T) (h7 : hasB p 116 = u) :
    partsB t p = ((o == signB t.name) && ((o || ((n == isWordB t.name) && (n || decide (t.name = ⟨#[]⟩)))) && (((a == isWordB t.arg) && (a || decide (t.arg = ⟨#[]⟩))) &&
      ((decide (0 ≤ t.n) && (!decide (0 < t.n) || (i || (b && decide (t.n = 1))))) && (bif t.has then (T || u) && (rightB t.ann && decide (varsF t.ann = [])) else !T && blankB t.ann))))) := by
  unfold partsB; rw [h1, h2, h3, h4, h5, h6, h7]
theorem node_asm {A B C D E N E' C' AB' : Bool} (h1 : (A && B) = AB') (h2 : C = C') (h3 : D = N) (h4 : E = E') : (A && (B && (C && (D && E)))) = (N && (E' && (C' && AB'))) := by
  subst h1; subst h2; subst h3; subst h4
  cases A <;> cases B <;> cases C <;> cases D <;> cases E <;> rfl
theorem parts_node {t : Tm} (h : ¬ (t.op < 32 ∨ 52 ≤ t.op)) : partsB t (partsS t.op) = nodeB t := by
  have key : ∀ (o : Int), t.op = o → partsB t (partsS o) = nodeB t → partsB t (partsS t.op) = nodeB t := fun o e h => by rw [e]; exact h
  have hann : ∀ (hT ht : Bool) (an : Int), (an = 0 ∧ hT = false ∧ ht = false) ∨ (an = 1 ∧ hT = false ∧ ht = true) ∨ (an = 2 ∧ hT = true ∧ ht = false) →
      (bif t.has then (hT || ht) && (rightB t.ann && decide (varsF t.ann = [])) else !hT && blankB t.ann) = notedB t.has t.ann an := by
    intro hT ht an h
    unfold notedB
    rcases h with ⟨rfl, rfl, rfl⟩ | ⟨rfl, rfl, rfl⟩ | ⟨rfl, rfl, rfl⟩ <;> cases t.has <;> simp
  rcases op_cases h with e | e | e | e | e | e | e | e | e | e | e | e | e | e | e | e | e | e | e | e <;> rw [e] <;> unfold nodeB <;> rw [e]
  · exact (partsB_of (p := partsS 32) (o := false) (n := true) (a := false) (i := false) (b := false) (T := false) (u := false) (by decide) (by decide) (by decide) (by decide) (by decide) (by decide) (by decide)).trans (node_asm (name_law _ true) (arg_law _ false) (num_law _) (hann false false 0 (.inl ⟨rfl, rfl, rfl⟩)))
  · exact (partsB_of (p := partsS 33) (o := false) (n := false) (a := false) (i := true) (b := false) (T := false) (u := false) (by decide) (by decide) (by decide) (by decide) (by decide) (by decide) (by decide)).trans (node_asm (name_law _ false) (arg_law _ false) (num_law_i _) (hann false false 0 (.inl ⟨rfl, rfl, rfl⟩)))
  · exact (partsB_of (p := partsS 34) (o := false) (n := false) (a := false) (i := false) (b := true) (T := false) (u := false) (by decide) (by decide) (by decide) (by decide) (by decide) (by decide) (by decide)).trans (node_asm (name_law _ false) (arg_law _ false) (num_law_b _) (hann false false 0 (.inl ⟨rfl, rfl, rfl⟩)))
  · exact (partsB_of (p := partsS 35) (o := false) (n := false) (a := true) (i := false) (b := false) (T := false) (u := true) (by decide) (by decide) (by decide) (by decide) (by decide) (by decide) (by decide)).trans (node_asm (name_law _ false) (arg_law _ true) (num_law _) (hann false true 1 (.inr (.inl ⟨rfl, rfl, rfl⟩))))
  · exact (partsB_of (p := partsS 36) (o := false) (n := true) (a := true) (i := false) (b := false) (T := false) (u := true) (by decide) (by decide) (by decide) (by decide) (by decide) (by decide) (by decide)).trans (node_asm (name_law _ true) (arg_law _ true) (num_law _) (hann false true 1 (.inr (.inl ⟨rfl, rfl, rfl⟩))))
  · exact (partsB_of (p := partsS 37) (o := false) (n := false) (a := false) (i := false) (b := false) (T := false) (u := false) (by decide) (by decide) (by decide) (by decide) (by decide) (by decide) (by decide)).trans (node_asm (name_law _ false) (arg_law _ false) (num_law _) (hann false false 0 (.inl ⟨rfl, rfl, rfl⟩)))
  · exact (partsB_of (p := partsS 38) (o := false) (n := true) (a := false) (i := false) (b := false) (T := false) (u := false) (by decide) (by decide) (by decide) (by decide) (by decide) (by decide) (by decide)).trans (node_asm (name_law _ true) (arg_law _ false) (num_law _) (hann false false 0 (.inl ⟨rfl, rfl, rfl⟩)))
  · exact (partsB_of (p := partsS 39) (o := false) (n := false) (a := false) (i := false) (b := false) (T := false) (u := false) (by decide) (by decide) (by decide) (by decide) (by decide) (by decide) (by decide)).trans (node_asm (name_law _ false) (arg_law _ false) (num_law _) (hann false false 0 (.inl ⟨rfl, rfl, rfl⟩)))
  · exact (partsB_of (p := partsS 40) (o := true) (n := false) (a := false) (i := false) (b := false) (T := false) (u := false) (by decide) (by decide) (by decide) (by decide) (by decide) (by decide) (by decide)).trans (node_asm (sign_law _) (arg_law _ false) (num_law _) (hann false false 0 (.inl ⟨rfl, rfl, rfl⟩)))
  · exact (partsB_of (p := partsS 41) (o := false) (n := false) (a := false) (i := false) (b := false) (T := false) (u := false) (by decide) (by decide) (by decide) (by decide) (by decide) (by decide) (by decide)).trans (node_asm (name_law _ false) (arg_law _ false) (num_law _) (hann false false 0 (.inl ⟨rfl, rfl, rfl⟩)))
  · exact (partsB_of (p := partsS 42) (o := false) (n := true) (a := false) (i := false) (b := false) (T := false) (u := false) (by decide) (by decide) (by decide) (by decide) (by decide) (by decide) (by decide)).trans (node_asm (name_law _ true) (arg_law _ false) (num_law _) (hann false false 0 (.inl ⟨rfl, rfl, rfl⟩)))
  · exact (partsB_of (p := partsS 43) (o := false) (n := true) (a := false) (i := false) (b := false) (T := false) (u := false) (by decide) (by decide) (by decide) (by decide) (by decide) (by decide) (by decide)).trans (node_asm (name_law _ true) (arg_law _ false) (num_law _) (hann false false 0 (.inl ⟨rfl, rfl, rfl⟩)))
  · exact (partsB_of (p := partsS 44) (o := false) (n := true) (a := false) (i := false) (b := false) (T := false) (u := false) (by decide) (by decide) (by decide) (by decide) (by decide) (by decide) (by decide)).trans (node_asm (name_law _ true) (arg_law _ false) (num_law _) (hann false false 0 (.inl ⟨rfl, rfl, rfl⟩)))
  · exact (partsB_of (p := partsS 45) (o := false) (n := true) (a := false) (i := false) (b := false) (T := false) (u := false) (by decide) (by decide) (by decide) (by decide) (by decide) (by decide) (by decide)).trans (node_asm (name_law _ true) (arg_law _ false) (num_law _) (hann false false 0 (.inl ⟨rfl, rfl, rfl⟩)))
  · exact (partsB_of (p := partsS 46) (o := false) (n := true) (a := false) (i := false) (b := false) (T := false) (u := false) (by decide) (by decide) (by decide) (by decide) (by decide) (by decide) (by decide)).trans (node_asm (name_law _ true) (arg_law _ false) (num_law _) (hann false false 0 (.inl ⟨rfl, rfl, rfl⟩)))
  · exact (partsB_of (p := partsS 47) (o := false) (n := true) (a := false) (i := false) (b := false) (T := false) (u := false) (by decide) (by decide) (by decide) (by decide) (by decide) (by decide) (by decide)).trans (node_asm (name_law _ true) (arg_law _ false) (num_law _) (hann false false 0 (.inl ⟨rfl, rfl, rfl⟩)))
  · exact (partsB_of (p := partsS 48) (o := false) (n := false) (a := false) (i := false) (b := false) (T := false) (u := false) (by decide) (by decide) (by decide) (by decide) (by decide) (by decide) (by decide)).trans (node_asm (name_law _ false) (arg_law _ false) (num_law _) (hann false false 0 (.inl ⟨rfl, rfl, rfl⟩)))
  · exact (partsB_of (p := partsS 49) (o := false) (n := true) (a := true) (i := false) (b := false) (T := false) (u := false) (by decide) (by decide) (by decide) (by decide) (by decide) (by decide) (by decide)).trans (node_asm (name_law _ true) (arg_law _ true) (num_law _) (hann false false 0 (.inl ⟨rfl, rfl, rfl⟩)))
  · exact (partsB_of (p := partsS 50) (o := false) (n := false) (a := true) (i := false) (b := false) (T := false) (u := false) (by decide) (by decide) (by decide) (by decide) (by decide) (by decide) (by decide)).trans (node_asm (name_law _ false) (arg_law _ true) (num_law _) (hann false false 0 (.inl ⟨rfl, rfl, rfl⟩)))
  · exact (partsB_of (p := partsS 51) (o := false) (n := false) (a := false) (i := false) (b := false) (T := true) (u := false) (by decide) (by decide) (by decide) (by decide) (by decide) (by decide) (by decide)).trans (node_asm (name_law _ false) (arg_law _ false) (num_law _) (hann true false 2 (.inr (.inr ⟨rfl, rfl, rfl⟩))))
end Rw
namespace Go.Proofs.YtohfnpmehgpphaaGreat
open Go Rw Go.RowKit
set_option maxRecDepth 100000
theorem shaped_spec (op : Int) (M : Nat → Prop) (w : World) (hlow0 : Low M w) :
  Calls Tryz.prog 43 #[.int .u8 op] w (Ret fun r w' => r = .tuple #[.agg #[.bool (shp op).1, .bool (shp op).2.1, .int .i64 (shp op).2.2.1, .int .i64 (shp op).2.2.2.1], .bool (shp op).2.2.2.2] ∧ Ext w w') := by
 have hlow := hlow0
 have hB : w.heap.size ≤ w.heap.size := Nat.le_refl _
 have hE : Below w.heap.size w w := Below.refl _ _
 have hsub : ∀ b, M b → M b := fun _ h => h
 refine c_enter (n := 52) Tryz.func43 rfl rfl rfl ?_
 refine q0 ?_
 refine lC (o_new tK rfl rfl rfl ?_)
 intro b2 w1 qb2 ew1 hb2
 have sw1 := Stp.add ew1 hlow hB (Nat.le_of_eq qb2.symm) hb2.lt
 have h2 : MB w.heap.size (Rw.Add M b2) w1 b2 61 [.bool false, .bool false, .int .i64 0, .int .i64 0] := MB.mk' hb2 qb2 hB
 replace hE := hE.trans sw1.below
 replace hsub := sw1.sb hsub
 replace hlow := sw1.low
 replace hB := sw1.z hB
 refine l_p 1 tK rfl (q1 (c_seq (q0 (l_p 1 tK rfl (q1 (c_blk (q0 (l_p 2 tK rfl (q1 ?_)))))))))
 refine c_ifP _ rfl (fun c1 => ?_) (fun c1 => ?_)
 ·refine q0 ?_
  refine lC (o_build (cells := [.bool true, .bool false, .int .i64 0, .int .i64 0]) bd61 rfl rfl rfl rfl rfl ?_)
  refine lC (o_st tK h2.box rfl rfl rfl rfl (by simp [Value.cells, Value.oneCell']) rfl rfl ?_)
  intro w2 hw2 qw2 bew2
  have uw2 : UpdB _ _ _ := ⟨qw2, bew2⟩
  have sw2 := uw2.stp h2.inM hlow h2.ge
  have frw2 := qw2.2
  replace hE := hE.trans sw2.below
  replace hsub := sw2.sb hsub
  replace hlow := sw2.low
  replace hB := sw2.z hB
  replace h2 : MB w.heap.size _ w2 b2 _ [.bool true, .bool false, .int .i64 0, .int .i64 0] := ⟨hw2, h2.inM, h2.ge⟩
  refine l_p 1 tK rfl (q1 (c_ret (x_blkR (x_seqR ?_))))
  refine x_ret2st tK (fun j v hv => h2.cell j v hv) rfl rfl rfl rfl rfl rfl ?_
  subst c1
  exact ⟨rfl, hE⟩
 refine c_seq (q0 (l_p 2 tK rfl (q1 ?_)))
 refine c_splitP 8 _ rfl (fun c2 => c_ifT rfl ?_) (fun c2 => c_ifF rfl ?_)
 ·refine c_skip (x_seq (c_ifT rfl (q0 ?_)))
  refine lC (o_build (cells := [.bool false, .bool false, .int .i64 0, .int .i64 0]) bd61 rfl rfl rfl rfl rfl ?_)
  refine lC (o_st tK h2.box rfl rfl rfl rfl (by simp [Value.cells, Value.oneCell']) rfl rfl ?_)
  intro w3 hw3 qw3 bew3
  have uw3 : UpdB _ _ _ := ⟨qw3, bew3⟩
  have sw3 := uw3.stp h2.inM hlow h2.ge
  have frw3 := qw3.2
  replace hE := hE.trans sw3.below
  replace hsub := sw3.sb hsub
  replace hlow := sw3.low
  replace hB := sw3.z hB
  replace h2 : MB w.heap.size _ w3 b2 _ [.bool false, .bool false, .int .i64 0, .int .i64 0] := ⟨hw3, h2.inM, h2.ge⟩
  refine l_p 1 tK rfl (q1 (c_ret (x_blkR (x_seqR ?_))))
  refine x_ret2st tK (fun j v hv => h2.cell j v hv) rfl rfl rfl rfl rfl rfl ?_
  subst c2
  exact ⟨rfl, hE⟩
 refine q0 (l_p 2 tK rfl (q1 ?_))
 refine c_splitP 8 _ rfl (fun c3 => c_ifT rfl ?_) (fun c3 => c_ifF rfl ?_)
 ·refine c_skip (x_seq (c_ifT rfl (q0 ?_)))
  refine lC (o_build (cells := [.bool false, .bool false, .int .i64 0, .int .i64 0]) bd61 rfl rfl rfl rfl rfl ?_)
  refine lC (o_st tK h2.box rfl rfl rfl rfl (by simp [Value.cells, Value.oneCell']) rfl rfl ?_)
  intro w4 hw4 qw4 bew4
  have uw4 : UpdB _ _ _ := ⟨qw4, bew4⟩
  have sw4 := uw4.stp h2.inM hlow h2.ge
  have frw4 := qw4.2
  replace hE := hE.trans sw4.below
  replace hsub := sw4.sb hsub
  replace hlow := sw4.low
  replace hB := sw4.z hB
  replace h2 : MB w.heap.size _ w4 b2 _ [.bool false, .bool false, .int .i64 0, .int .i64 0] := ⟨hw4, h2.inM, h2.ge⟩
  refine l_p 1 tK rfl (q1 (c_ret (x_blkR (x_seqR ?_))))
  refine x_ret2st tK (fun j v hv => h2.cell j v hv) rfl rfl rfl rfl rfl rfl ?_
  subst c3
  exact ⟨rfl, hE⟩
 refine c_reg (l_p 2 tK rfl (q1 ?_))
 refine c_splitP 8 _ rfl (fun c4 => c_ifT rfl ?_) (fun c4 => c_ifF rfl ?_)
 ·refine q0 ?_
  refine lC (o_build (cells := [.bool false, .bool false, .int .i64 0, .int .i64 0]) bd61 rfl rfl rfl rfl rfl ?_)
  refine lC (o_st tK h2.box rfl rfl rfl rfl (by simp [Value.cells, Value.oneCell']) rfl rfl ?_)
  intro w5 hw5 qw5 bew5
  have uw5 : UpdB _ _ _ := ⟨qw5, bew5⟩
  have sw5 := uw5.stp h2.inM hlow h2.ge
  have frw5 := qw5.2
  replace hE := hE.trans sw5.below
  replace hsub := sw5.sb hsub
  replace hlow := sw5.low
  replace hB := sw5.z hB
  replace h2 : MB w.heap.size _ w5 b2 _ [.bool false, .bool false, .int .i64 0, .int .i64 0] := ⟨hw5, h2.inM, h2.ge⟩
  refine l_p 1 tK rfl (q1 (c_ret (x_blkR (x_seqR ?_))))
  refine x_ret2st tK (fun j v hv => h2.cell j v hv) rfl rfl rfl rfl rfl rfl ?_
  subst c4
  exact ⟨rfl, hE⟩
 refine q0 (l_p 2 tK rfl (q1 ?_))
 refine c_ifP _ rfl (fun c5 => ?_) (fun c5 => ?_)
 ·refine q0 ?_
  refine lC (o_build (cells := [.bool false, .bool true, .int .i64 1, .int .i64 1]) bd61 rfl rfl rfl rfl rfl ?_)
  refine lC (o_st tK h2.box rfl rfl rfl rfl (by simp [Value.cells, Value.oneCell']) rfl rfl ?_)
  intro w6 hw6 qw6 bew6
  have uw6 : UpdB _ _ _ := ⟨qw6, bew6⟩
  have sw6 := uw6.stp h2.inM hlow h2.ge
  have frw6 := qw6.2
  replace hE := hE.trans sw6.below
  replace hsub := sw6.sb hsub
  replace hlow := sw6.low
  replace hB := sw6.z hB
  replace h2 : MB w.heap.size _ w6 b2 _ [.bool false, .bool true, .int .i64 1, .int .i64 1] := ⟨hw6, h2.inM, h2.ge⟩
  refine l_p 1 tK rfl (q1 (c_ret (x_blkR (x_seqR ?_))))
  refine x_ret2st tK (fun j v hv => h2.cell j v hv) rfl rfl rfl rfl rfl rfl ?_
  subst c5
  exact ⟨rfl, hE⟩
 refine q0 (l_p 2 tK rfl (q1 ?_))
 refine c_ifP _ rfl (fun c6 => ?_) (fun c6 => ?_)
 ·refine q0 ?_
  refine lC (o_build (cells := [.bool true, .bool true, .int .i64 1, .int .i64 1]) bd61 rfl rfl rfl rfl rfl ?_)
  refine lC (o_st tK h2.box rfl rfl rfl rfl (by simp [Value.cells, Value.oneCell']) rfl rfl ?_)
  intro w7 hw7 qw7 bew7
  have uw7 : UpdB _ _ _ := ⟨qw7, bew7⟩
  have sw7 := uw7.stp h2.inM hlow h2.ge
  have frw7 := qw7.2
  replace hE := hE.trans sw7.below
  replace hsub := sw7.sb hsub
  replace hlow := sw7.low
  replace hB := sw7.z hB
  replace h2 : MB w.heap.size _ w7 b2 _ [.bool true, .bool true, .int .i64 1, .int .i64 1] := ⟨hw7, h2.inM, h2.ge⟩
  refine l_p 1 tK rfl (q1 (c_ret (x_blkR (x_seqR ?_))))
  refine x_ret2st tK (fun j v hv => h2.cell j v hv) rfl rfl rfl rfl rfl rfl ?_
  subst c6
  exact ⟨rfl, hE⟩
 refine q0 (l_p 2 tK rfl (q1 ?_))
 refine c_ifP _ rfl (fun c7 => ?_) (fun c7 => ?_)
 ·refine q0 ?_
  refine lC (o_build (cells := [.bool false, .bool false, .int .i64 2, .int .i64 0]) bd61 rfl rfl rfl rfl rfl ?_)
  refine lC (o_st tK h2.box rfl rfl rfl rfl (by simp [Value.cells, Value.oneCell']) rfl rfl ?_)
  intro w8 hw8 qw8 bew8
  have uw8 : UpdB _ _ _ := ⟨qw8, bew8⟩
  have sw8 := uw8.stp h2.inM hlow h2.ge
  have frw8 := qw8.2
  replace hE := hE.trans sw8.below
  replace hsub := sw8.sb hsub
  replace hlow := sw8.low
  replace hB := sw8.z hB
  replace h2 : MB w.heap.size _ w8 b2 _ [.bool false, .bool false, .int .i64 2, .int .i64 0] := ⟨hw8, h2.inM, h2.ge⟩
  refine l_p 1 tK rfl (q1 (c_ret (x_blkR (x_seqR ?_))))
  refine x_ret2st tK (fun j v hv => h2.cell j v hv) rfl rfl rfl rfl rfl rfl ?_
  subst c7
  exact ⟨rfl, hE⟩
 refine c_seq (q0 (l_p 2 tK rfl (q1 ?_)))
 refine c_splitP 22 _ rfl (fun c8 => c_ifT rfl ?_) (fun c8 => c_ifF rfl ?_)
 ·refine c_skip (x_seq (c_ifT rfl (q0 ?_)))
  refine lC (o_build (cells := [.bool true, .bool false, .int .i64 2, .int .i64 0]) bd61 rfl rfl rfl rfl rfl ?_)
  refine lC (o_st tK h2.box rfl rfl rfl rfl (by simp [Value.cells, Value.oneCell']) rfl rfl ?_)
  intro w9 hw9 qw9 bew9
  have uw9 : UpdB _ _ _ := ⟨qw9, bew9⟩
  have sw9 := uw9.stp h2.inM hlow h2.ge
  have frw9 := qw9.2
  replace hE := hE.trans sw9.below
  replace hsub := sw9.sb hsub
  replace hlow := sw9.low
  replace hB := sw9.z hB
  replace h2 : MB w.heap.size _ w9 b2 _ [.bool true, .bool false, .int .i64 2, .int .i64 0] := ⟨hw9, h2.inM, h2.ge⟩
  refine l_p 1 tK rfl (q1 (c_ret (x_blkR (x_seqR ?_))))
  refine x_ret2st tK (fun j v hv => h2.cell j v hv) rfl rfl rfl rfl rfl rfl ?_
  subst c8
  exact ⟨rfl, hE⟩
 refine q0 (l_p 2 tK rfl (q1 ?_))
 refine c_splitP 22 _ rfl (fun c9 => c_ifT rfl ?_) (fun c9 => c_ifF rfl ?_)
 ·refine c_skip (x_seq (c_ifT rfl (q0 ?_)))
  refine lC (o_build (cells := [.bool true, .bool false, .int .i64 2, .int .i64 0]) bd61 rfl rfl rfl rfl rfl ?_)
  refine lC (o_st tK h2.box rfl rfl rfl rfl (by simp [Value.cells, Value.oneCell']) rfl rfl ?_)
  intro w10 hw10 qw10 bew10
  have uw10 : UpdB _ _ _ := ⟨qw10, bew10⟩
  have sw10 := uw10.stp h2.inM hlow h2.ge
  have frw10 := qw10.2
  replace hE := hE.trans sw10.below
  replace hsub := sw10.sb hsub
  replace hlow := sw10.low
  replace hB := sw10.z hB
  replace h2 : MB w.heap.size _ w10 b2 _ [.bool true, .bool false, .int .i64 2, .int .i64 0] := ⟨hw10, h2.inM, h2.ge⟩
  refine l_p 1 tK rfl (q1 (c_ret (x_blkR (x_seqR ?_))))
  refine x_ret2st tK (fun j v hv => h2.cell j v hv) rfl rfl rfl rfl rfl rfl ?_
  subst c9
  exact ⟨rfl, hE⟩
 refine c_reg (l_p 2 tK rfl (q1 ?_))
 refine c_splitP 22 _ rfl (fun c10 => c_ifT rfl ?_) (fun c10 => c_ifF rfl ?_)
 ·refine q0 ?_
  refine lC (o_build (cells := [.bool true, .bool false, .int .i64 2, .int .i64 0]) bd61 rfl rfl rfl rfl rfl ?_)
  refine lC (o_st tK h2.box rfl rfl rfl rfl (by simp [Value.cells, Value.oneCell']) rfl rfl ?_)
  intro w11 hw11 qw11 bew11
  have uw11 : UpdB _ _ _ := ⟨qw11, bew11⟩
  have sw11 := uw11.stp h2.inM hlow h2.ge
  have frw11 := qw11.2
  replace hE := hE.trans sw11.below
  replace hsub := sw11.sb hsub
  replace hlow := sw11.low
  replace hB := sw11.z hB
  replace h2 : MB w.heap.size _ w11 b2 _ [.bool true, .bool false, .int .i64 2, .int .i64 0] := ⟨hw11, h2.inM, h2.ge⟩
  refine l_p 1 tK rfl (q1 (c_ret (x_blkR (x_seqR ?_))))
  refine x_ret2st tK (fun j v hv => h2.cell j v hv) rfl rfl rfl rfl rfl rfl ?_
  subst c10
  exact ⟨rfl, hE⟩
 refine q0 (l_p 2 tK rfl (q1 ?_))
 refine c_ifP _ rfl (fun c11 => ?_) (fun c11 => ?_)
 ·refine q0 ?_
  refine lC (o_build (cells := [.bool false, .bool false, .int .i64 3, .int .i64 0]) bd61 rfl rfl rfl rfl rfl ?_)
  refine lC (o_st tK h2.box rfl rfl rfl rfl (by simp [Value.cells, Value.oneCell']) rfl rfl ?_)
  intro w12 hw12 qw12 bew12
  have uw12 : UpdB _ _ _ := ⟨qw12, bew12⟩
  have sw12 := uw12.stp h2.inM hlow h2.ge
  have frw12 := qw12.2
  replace hE := hE.trans sw12.below
  replace hsub := sw12.sb hsub
  replace hlow := sw12.low
  replace hB := sw12.z hB
  replace h2 : MB w.heap.size _ w12 b2 _ [.bool false, .bool false, .int .i64 3, .int .i64 0] := ⟨hw12, h2.inM, h2.ge⟩
  refine l_p 1 tK rfl (q1 (c_ret (x_blkR (x_seqR ?_))))
  refine x_ret2st tK (fun j v hv => h2.cell j v hv) rfl rfl rfl rfl rfl rfl ?_
  subst c11
  exact ⟨rfl, hE⟩
 refine q0 (l_p 2 tK rfl (q1 ?_))
 refine c_ifP _ rfl (fun c12 => ?_) (fun c12 => ?_)
 ·refine q0 ?_
  refine lC (o_build (cells := [.bool true, .bool false, .int .i64 2, .int .i64 0]) bd61 rfl rfl rfl rfl rfl ?_)
  refine lC (o_st tK h2.box rfl rfl rfl rfl (by simp [Value.cells, Value.oneCell']) rfl rfl ?_)
  intro w13 hw13 qw13 bew13
  have uw13 : UpdB _ _ _ := ⟨qw13, bew13⟩
  have sw13 := uw13.stp h2.inM hlow h2.ge
  have frw13 := qw13.2
  replace hE := hE.trans sw13.below
  replace hsub := sw13.sb hsub
  replace hlow := sw13.low
  replace hB := sw13.z hB
  replace h2 : MB w.heap.size _ w13 b2 _ [.bool true, .bool false, .int .i64 2, .int .i64 0] := ⟨hw13, h2.inM, h2.ge⟩
  refine l_p 1 tK rfl (q1 (c_ret (x_blkR (x_seqR ?_))))
  refine x_ret2st tK (fun j v hv => h2.cell j v hv) rfl rfl rfl rfl rfl rfl ?_
  subst c12
  exact ⟨rfl, hE⟩
 refine c_seq (q0 (l_p 2 tK rfl (q1 ?_)))
 refine c_splitP 33 _ rfl (fun c13 => c_ifT rfl ?_) (fun c13 => c_ifF rfl ?_)
 ·refine c_skip (x_seq (c_ifT rfl (q0 ?_)))
  refine lC (o_build (cells := [.bool true, .bool false, .int .i64 1, .int .i64 0]) bd61 rfl rfl rfl rfl rfl ?_)
  refine lC (o_st tK h2.box rfl rfl rfl rfl (by simp [Value.cells, Value.oneCell']) rfl rfl ?_)
  intro w14 hw14 qw14 bew14
  have uw14 : UpdB _ _ _ := ⟨qw14, bew14⟩
  have sw14 := uw14.stp h2.inM hlow h2.ge
  have frw14 := qw14.2
  replace hE := hE.trans sw14.below
  replace hsub := sw14.sb hsub
  replace hlow := sw14.low
  replace hB := sw14.z hB
  replace h2 : MB w.heap.size _ w14 b2 _ [.bool true, .bool false, .int .i64 1, .int .i64 0] := ⟨hw14, h2.inM, h2.ge⟩
  refine l_p 1 tK rfl (q1 (c_ret (x_blkR (x_seqR ?_))))
  refine x_ret2st tK (fun j v hv => h2.cell j v hv) rfl rfl rfl rfl rfl rfl ?_
  subst c13
  exact ⟨rfl, hE⟩
 refine q0 (l_p 2 tK rfl (q1 ?_))
 refine c_splitP 33 _ rfl (fun c14 => c_ifT rfl ?_) (fun c14 => c_ifF rfl ?_)
 ·refine c_skip (x_seq (c_ifT rfl (q0 ?_)))
  refine lC (o_build (cells := [.bool true, .bool false, .int .i64 1, .int .i64 0]) bd61 rfl rfl rfl rfl rfl ?_)
  refine lC (o_st tK h2.box rfl rfl rfl rfl (by simp [Value.cells, Value.oneCell']) rfl rfl ?_)
  intro w15 hw15 qw15 bew15
  have uw15 : UpdB _ _ _ := ⟨qw15, bew15⟩
  have sw15 := uw15.stp h2.inM hlow h2.ge
  have frw15 := qw15.2
  replace hE := hE.trans sw15.below
  replace hsub := sw15.sb hsub
  replace hlow := sw15.low
  replace hB := sw15.z hB
  replace h2 : MB w.heap.size _ w15 b2 _ [.bool true, .bool false, .int .i64 1, .int .i64 0] := ⟨hw15, h2.inM, h2.ge⟩
  refine l_p 1 tK rfl (q1 (c_ret (x_blkR (x_seqR ?_))))
  refine x_ret2st tK (fun j v hv => h2.cell j v hv) rfl rfl rfl rfl rfl rfl ?_
  subst c14
  exact ⟨rfl, hE⟩
 refine q0 (l_p 2 tK rfl (q1 ?_))
 refine c_splitP 33 _ rfl (fun c15 => c_ifT rfl ?_) (fun c15 => c_ifF rfl ?_)
 ·refine c_skip (x_seq (c_ifT rfl (q0 ?_)))
  refine lC (o_build (cells := [.bool true, .bool false, .int .i64 1, .int .i64 0]) bd61 rfl rfl rfl rfl rfl ?_)
  refine lC (o_st tK h2.box rfl rfl rfl rfl (by simp [Value.cells, Value.oneCell']) rfl rfl ?_)
  intro w16 hw16 qw16 bew16
  have uw16 : UpdB _ _ _ := ⟨qw16, bew16⟩
  have sw16 := uw16.stp h2.inM hlow h2.ge
  have frw16 := qw16.2
  replace hE := hE.trans sw16.below
  replace hsub := sw16.sb hsub
  replace hlow := sw16.low
  replace hB := sw16.z hB
  replace h2 : MB w.heap.size _ w16 b2 _ [.bool true, .bool false, .int .i64 1, .int .i64 0] := ⟨hw16, h2.inM, h2.ge⟩
  refine l_p 1 tK rfl (q1 (c_ret (x_blkR (x_seqR ?_))))
  refine x_ret2st tK (fun j v hv => h2.cell j v hv) rfl rfl rfl rfl rfl rfl ?_
  subst c15
  exact ⟨rfl, hE⟩
 refine c_reg (l_p 2 tK rfl (q1 ?_))
 refine c_splitP 33 _ rfl (fun c16 => c_ifT rfl ?_) (fun c16 => c_ifF rfl ?_)
 ·refine q0 ?_
  refine lC (o_build (cells := [.bool true, .bool false, .int .i64 1, .int .i64 0]) bd61 rfl rfl rfl rfl rfl ?_)
  refine lC (o_st tK h2.box rfl rfl rfl rfl (by simp [Value.cells, Value.oneCell']) rfl rfl ?_)
  intro w17 hw17 qw17 bew17
  have uw17 : UpdB _ _ _ := ⟨qw17, bew17⟩
  have sw17 := uw17.stp h2.inM hlow h2.ge
  have frw17 := qw17.2
  replace hE := hE.trans sw17.below
  replace hsub := sw17.sb hsub
  replace hlow := sw17.low
  replace hB := sw17.z hB
  replace h2 : MB w.heap.size _ w17 b2 _ [.bool true, .bool false, .int .i64 1, .int .i64 0] := ⟨hw17, h2.inM, h2.ge⟩
  refine l_p 1 tK rfl (q1 (c_ret (x_blkR (x_seqR ?_))))
  refine x_ret2st tK (fun j v hv => h2.cell j v hv) rfl rfl rfl rfl rfl rfl ?_
  subst c16
  exact ⟨rfl, hE⟩
 refine q0 (l_p 2 tK rfl (q1 ?_))
 refine c_ifP _ rfl (fun c17 => ?_) (fun c17 => ?_)
 ·refine q0 ?_
  refine lC (o_build (cells := [.bool false, .bool false, .int .i64 (-1), .int .i64 0]) bd61 rfl rfl rfl rfl rfl ?_)
  refine lC (o_st tK h2.box rfl rfl rfl rfl (by simp [Value.cells, Value.oneCell']) rfl rfl ?_)
  intro w18 hw18 qw18 bew18
  have uw18 : UpdB _ _ _ := ⟨qw18, bew18⟩
  have sw18 := uw18.stp h2.inM hlow h2.ge
  have frw18 := qw18.2
  replace hE := hE.trans sw18.below
  replace hsub := sw18.sb hsub
  replace hlow := sw18.low
  replace hB := sw18.z hB
  replace h2 : MB w.heap.size _ w18 b2 _ [.bool false, .bool false, .int .i64 (-1), .int .i64 0] := ⟨hw18, h2.inM, h2.ge⟩
  refine l_p 1 tK rfl (q1 (c_ret (x_blkR (x_seqR ?_))))
  refine x_ret2st tK (fun j v hv => h2.cell j v hv) rfl rfl rfl rfl rfl rfl ?_
  subst c17
  exact ⟨rfl, hE⟩
 refine q0 (l_p 2 tK rfl (q1 ?_))
 refine c_ifP _ rfl (fun c18 => ?_) (fun c18 => ?_)
 ·refine q0 ?_
  refine lC (o_build (cells := [.bool true, .bool true, .int .i64 1, .int .i64 0]) bd61 rfl rfl rfl rfl rfl ?_)
  refine lC (o_st tK h2.box rfl rfl rfl rfl (by simp [Value.cells, Value.oneCell']) rfl rfl ?_)
  intro w19 hw19 qw19 bew19
  have uw19 : UpdB _ _ _ := ⟨qw19, bew19⟩
  have sw19 := uw19.stp h2.inM hlow h2.ge
  have frw19 := qw19.2
  replace hE := hE.trans sw19.below
  replace hsub := sw19.sb hsub
  replace hlow := sw19.low
  replace hB := sw19.z hB
  replace h2 : MB w.heap.size _ w19 b2 _ [.bool true, .bool true, .int .i64 1, .int .i64 0] := ⟨hw19, h2.inM, h2.ge⟩
  refine l_p 1 tK rfl (q1 (c_ret (x_blkR (x_seqR ?_))))
  refine x_ret2st tK (fun j v hv => h2.cell j v hv) rfl rfl rfl rfl rfl rfl ?_
  subst c18
  exact ⟨rfl, hE⟩
 refine q0 (l_p 2 tK rfl (q1 ?_))
 refine c_ifP _ rfl (fun c19 => ?_) (fun c19 => ?_)
 ·refine q0 ?_
  refine lC (o_build (cells := [.bool false, .bool true, .int .i64 1, .int .i64 0]) bd61 rfl rfl rfl rfl rfl ?_)
  refine lC (o_st tK h2.box rfl rfl rfl rfl (by simp [Value.cells, Value.oneCell']) rfl rfl ?_)
  intro w20 hw20 qw20 bew20
  have uw20 : UpdB _ _ _ := ⟨qw20, bew20⟩
  have sw20 := uw20.stp h2.inM hlow h2.ge
  have frw20 := qw20.2
  replace hE := hE.trans sw20.below
  replace hsub := sw20.sb hsub
  replace hlow := sw20.low
  replace hB := sw20.z hB
  replace h2 : MB w.heap.size _ w20 b2 _ [.bool false, .bool true, .int .i64 1, .int .i64 0] := ⟨hw20, h2.inM, h2.ge⟩
  refine l_p 1 tK rfl (q1 (c_ret (x_blkR (x_seqR ?_))))
  refine x_ret2st tK (fun j v hv => h2.cell j v hv) rfl rfl rfl rfl rfl rfl ?_
  subst c19
  exact ⟨rfl, hE⟩
 refine q0 (l_p 2 tK rfl (q1 ?_))
 refine c_ifP _ rfl (fun c20 => ?_) (fun c20 => ?_)
 ·refine q0 ?_
  refine lC (o_build (cells := [.bool false, .bool false, .int .i64 1, .int .i64 2]) bd61 rfl rfl rfl rfl rfl ?_)
  refine lC (o_st tK h2.box rfl rfl rfl rfl (by simp [Value.cells, Value.oneCell']) rfl rfl ?_)
  intro w21 hw21 qw21 bew21
  have uw21 : UpdB _ _ _ := ⟨qw21, bew21⟩
  have sw21 := uw21.stp h2.inM hlow h2.ge
  have frw21 := qw21.2
  replace hE := hE.trans sw21.below
  replace hsub := sw21.sb hsub
  replace hlow := sw21.low
  replace hB := sw21.z hB
  replace h2 : MB w.heap.size _ w21 b2 _ [.bool false, .bool false, .int .i64 1, .int .i64 2] := ⟨hw21, h2.inM, h2.ge⟩
  refine l_p 1 tK rfl (q1 (c_ret (x_blkR (x_seqR ?_))))
  refine x_ret2st tK (fun j v hv => h2.cell j v hv) rfl rfl rfl rfl rfl rfl ?_
  subst c20
  exact ⟨rfl, hE⟩
 refine c_skip (x_blk (x_seq (q0 ?_)))
 refine lC (o_build (cells := [.bool false, .bool false, .int .i64 0, .int .i64 0]) bd61 rfl rfl rfl rfl rfl ?_)
 refine lC (o_st tK h2.box rfl rfl rfl rfl (by simp [Value.cells, Value.oneCell']) rfl rfl ?_)
 intro w22 hw22 qw22 bew22
 have uw22 : UpdB _ _ _ := ⟨qw22, bew22⟩
 have sw22 := uw22.stp h2.inM hlow h2.ge
 have frw22 := qw22.2
 replace hE := hE.trans sw22.below
 replace hsub := sw22.sb hsub
 replace hlow := sw22.low
 replace hB := sw22.z hB
 replace h2 : MB w.heap.size _ w22 b2 _ [.bool false, .bool false, .int .i64 0, .int .i64 0] := ⟨hw22, h2.inM, h2.ge⟩
 refine l_p 1 tK rfl (q1 (c_ret ?_))
 refine x_ret2st tK (fun j v hv => h2.cell j v hv) rfl rfl rfl rfl rfl rfl ?_
 exact ⟨by unfold shp; simp [*], hE⟩
theorem named_spec (s : ByteArray) (b : Bool) (w : World) (hs : s.size < 140737488355328) :
  Calls Tryz.prog 46 #[.string s, .bool b] w (Ret fun r w' => r = .bool (namedB s b) ∧ Ext w w') := by
 have hE : Below w.heap.size w w := Below.refl _ _
 have hB : w.heap.size ≤ w.heap.size := Nat.le_refl _
 refine c_enter (n := 18) Tryz.func46 rfl rfl rfl ?_
 refine q0 (l_p 1 tK rfl (q1 (q0 (l_p 3 tK rfl ?_))))
 refine l_splitP 7 _ rfl (fun c1 => ?_) (fun c1 => ?_)
 ·refine l_p 4 tK rfl ?_
  refine l_splitB 11 _ rfl (fun c2 => ?_) (fun c2 => ?_)
  ·refine l_p 7 tK rfl (q1 (c_ret (x_ret1 rfl rfl ?_)))
   exact ⟨by congr 1; unfold namedB; simp_all, hE⟩
  refine l_p 2 tK rfl ?_
  refine l_split 13 _ rfl (fun c3 => ?_) (fun c3 => ?_)
  ·refine l_p 1 tK rfl ?_
   refine lC (o_call fo69 rfl rfl rfl (isWord_spec _ s hs) ?_)
   rintro _ _ ⟨rfl, rfl⟩
   refine l_p 3 tK rfl (q1 (c_ret (x_ret1 rfl rfl ?_)))
   exact ⟨by congr 1; unfold namedB; simp_all, hE⟩
  refine l_p 5 tK rfl (q1 (c_ret (x_ret1 rfl rfl ?_)))
  exact ⟨by congr 1; unfold namedB; simp_all, hE⟩
 refine l_p 6 tK rfl ?_
 refine l_split 13 _ rfl (fun c4 => ?_) (fun c4 => ?_)
 ·refine l_p 1 tK rfl ?_
  refine lC (o_call fo69 rfl rfl rfl (isWord_spec _ s hs) ?_)
  rintro _ _ ⟨rfl, rfl⟩
  refine l_p 3 tK rfl (q1 (c_ret (x_ret1 rfl rfl ?_)))
  exact ⟨by congr 1; unfold namedB; simp_all, hE⟩
 refine l_p 5 tK rfl (q1 (c_ret (x_ret1 rfl rfl ?_)))
 exact ⟨by congr 1; unfold namedB; simp_all, hE⟩
theorem blank_spec (t : Ty) (M : Nat → Prop) (w : World) (v : Value) (ht : Rep.R M w v t) (hlow : Low M w) :
  Calls Tryz.prog 68 #[v] w (Ret fun r w' => r = .bool (blankB t) ∧ Ext w w') := by
 have hE : Below w.heap.size w w := Below.refl _ _
 have hB : w.heap.size ≤ w.heap.size := Nat.le_refl _
 obtain ⟨kv, rfl, op, nm, n64, hk⟩ := ty_open ht
 refine c_enter (n := 22) Tryz.func68 rfl rfl rfl ?_
 refine q0 ?_
 refine lC (o_box rfl rfl rfl ?_)
 intro b1 w1 hb_b1 ew1 h1
 replace h1 : Box _ b1 25 [.int .u8 t.op, .string t.name, .int .i64 t.n, kv] := h1
 replace h1 := h1.at (nM_of hlow hb_b1)
 replace hE := ew1.bl hE hB
 replace ht := Rep.ext ht ew1
 replace hk := hk.ext ew1
 replace hlow := hlow.ext ew1
 replace hB := ew1.z hB
 refine l_p 1 tK rfl (q1 (q0 (l_p 1 tK rfl ?_)))
 refine lC (o_ld tK (h1.cell 0 _ rfl) rfl rfl rfl rfl rfl ?_)
 refine l_p 2 tK rfl ?_
 refine l_splitP 6 _ rfl (fun c1 => ?_) (fun c1 => ?_)
 ·refine l_p 1 tK rfl ?_
  refine lC (o_ld tK (h1.cell 1 _ rfl) rfl rfl rfl rfl rfl ?_)
  refine l_p 3 tK rfl ?_
  refine l_splitP 11 _ rfl (fun c2 => ?_) (fun c2 => ?_)
  ·refine l_p 1 tK rfl ?_
   refine lC (o_ld tK (h1.cell 2 _ rfl) rfl rfl rfl rfl rfl ?_)
   refine l_p 3 tK rfl ?_
   refine l_splitP 16 _ rfl (fun c3 => ?_) (fun c3 => ?_)
   ·refine l_p 1 tK rfl ?_
    refine lC (o_ld tK (h1.cell 3 _ rfl) rfl rfl rfl rfl rfl ?_)
    refine lC (o_len tK hk rfl rfl rfl rfl rfl ?_)
    refine l_p 3 tK rfl (q1 (c_ret (x_ret1 rfl rfl ?_)))
    exact ⟨by congr 1; unfold blankB; simp_all, hE⟩
   refine l_p 6 tK rfl (q1 (c_ret (x_ret1 rfl rfl ?_)))
   exact ⟨by congr 1; unfold blankB; simp_all, hE⟩
  refine l_p 11 tK rfl (q1 (c_ret (x_ret1 rfl rfl ?_)))
  exact ⟨by congr 1; unfold blankB; simp_all, hE⟩
 refine l_p 16 tK rfl (q1 (c_ret (x_ret1 rfl rfl ?_)))
 exact ⟨by congr 1; unfold blankB; simp_all, hE⟩
theorem sign_spec (s : ByteArray) (w : World) :
  Calls Tryz.prog 47 #[.string s] w (Ret fun r w' => r = .bool (signB s) ∧ w = w') := by
 refine c_enter (n := 12) Tryz.func47 rfl rfl rfl ?_
 refine q0 (l_p 1 tK rfl (q1 (c_seq (q0 (l_p 1 tK rfl (q1 (c_blk (c_seq (q0 (l_p 2 tK rfl (q1 ?_)))))))))))
 refine c_splitP 4 _ rfl (fun c1 => c_ifT rfl ?_) (fun c1 => c_ifF rfl ?_)
 ·refine c_skip (x_seq (c_ifT rfl (q0 (l_p 1 tK rfl (q1 (c_ret (x_blkR (x_seqR (x_ret1 rfl rfl ?_)))))))))
  exact ⟨by congr 1; unfold signB; simp_all, rfl⟩
 refine q0 (l_p 2 tK rfl (q1 ?_))
 refine c_splitP 4 _ rfl (fun c2 => c_ifT rfl ?_) (fun c2 => c_ifF rfl ?_)
 ·refine c_skip (x_seq (c_ifT rfl (q0 (l_p 1 tK rfl (q1 (c_ret (x_blkR (x_seqR (x_ret1 rfl rfl ?_)))))))))
  exact ⟨by congr 1; unfold signB; simp_all, rfl⟩
 refine q0 (l_p 2 tK rfl (q1 ?_))
 refine c_splitP 4 _ rfl (fun c3 => c_ifT rfl ?_) (fun c3 => c_ifF rfl ?_)
 ·refine c_skip (x_seq (c_ifT rfl (q0 (l_p 1 tK rfl (q1 (c_ret (x_blkR (x_seqR (x_ret1 rfl rfl ?_)))))))))
  exact ⟨by congr 1; unfold signB; simp_all, rfl⟩
 refine q0 (l_p 2 tK rfl (q1 ?_))
 refine c_splitP 4 _ rfl (fun c4 => c_ifT rfl ?_) (fun c4 => c_ifF rfl ?_)
 ·refine c_skip (x_seq (c_ifT rfl (q0 (l_p 1 tK rfl (q1 (c_ret (x_blkR (x_seqR (x_ret1 rfl rfl ?_)))))))))
  exact ⟨by congr 1; unfold signB; simp_all, rfl⟩
 refine q0 (l_p 2 tK rfl (q1 ?_))
 refine c_splitP 4 _ rfl (fun c5 => c_ifT rfl ?_) (fun c5 => c_ifF rfl ?_)
 ·refine c_skip (x_seq (c_ifT rfl (q0 (l_p 1 tK rfl (q1 (c_ret (x_blkR (x_seqR (x_ret1 rfl rfl ?_)))))))))
  exact ⟨by congr 1; unfold signB; simp_all, rfl⟩
 refine q0 (l_p 2 tK rfl (q1 ?_))
 refine c_splitP 4 _ rfl (fun c6 => c_ifT rfl ?_) (fun c6 => c_ifF rfl ?_)
 ·refine c_skip (x_seq (c_ifT rfl (q0 (l_p 1 tK rfl (q1 (c_ret (x_blkR (x_seqR (x_ret1 rfl rfl ?_)))))))))
  exact ⟨by congr 1; unfold signB; simp_all, rfl⟩
 refine c_reg (l_p 2 tK rfl (q1 ?_))
 refine c_splitP 4 _ rfl (fun c7 => c_ifT rfl ?_) (fun c7 => c_ifF rfl ?_)
 ·refine q0 (l_p 1 tK rfl (q1 (c_ret (x_blkR (x_seqR (x_ret1 rfl rfl ?_))))))
  exact ⟨by congr 1; unfold signB; simp_all, rfl⟩
 refine c_skip (x_blk (x_seq (q0 (l_p 1 tK rfl (q1 (c_ret (x_ret1 rfl rfl ?_)))))))
 exact ⟨by congr 1; unfold signB; simp_all, rfl⟩
theorem arm_spec (op : Int) (b : Bool) (w : World) :
  Calls Tryz.prog 48 #[.int .u8 op, .bool b] w (Ret fun r w' => r = .bool (armB op b) ∧ w = w') := by
 refine c_enter (n := 14) Tryz.func48 rfl rfl rfl ?_
 refine q0 (l_p 1 tK rfl (q1 (q0 (l_p 3 tK rfl ?_))))
 refine l_splitP 7 _ rfl (fun c1 => ?_) (fun c1 => ?_)
 ·refine l_p 7 tK rfl (q1 (c_ret (x_ret1 rfl rfl ?_)))
  exact ⟨by congr 1; unfold armB; simp_all, rfl⟩
 refine l_p 3 tK rfl ?_
 refine l_splitP 10 _ rfl (fun c2 => ?_) (fun c2 => ?_)
 ·refine l_p 4 tK rfl (q1 (c_ret (x_ret1 rfl rfl ?_)))
  exact ⟨by congr 1; unfold armB; simp_all, rfl⟩
 refine l_p 4 tK rfl (q1 (c_ret (x_ret1 rfl rfl ?_)))
 exact ⟨by congr 1; unfold armB; simp_all, rfl⟩
theorem number_spec (t : Tm) (M : Nat → Prop) (w : World) (v : Value) (ht : Rep.R M w v t) (hlow : Low M w) :
  Calls Tryz.prog 44 #[v] w (Ret fun r w' => r = .bool (numberB t.op t.n) ∧ Ext w w') := by
 have hE : Below w.heap.size w w := Below.refl _ _
 have hB : w.heap.size ≤ w.heap.size := Nat.le_refl _
 obtain ⟨akv, kv, rfl, op, nm, ag, n64, ha, hk⟩ := tm_open ht
 refine c_enter (n := 23) Tryz.func44 rfl rfl rfl ?_
 refine q0 ?_
 refine lC (o_box rfl rfl rfl ?_)
 intro b1 w1 hb_b1 ew1 h1
 replace h1 : Box _ b1 28 [.int .u8 t.op, .string t.name, .string t.arg, .int .i64 t.n, .bool t.has, .int .u8 t.ann.op, .string t.ann.name, .int .i64 t.ann.n, akv, kv] := h1
 replace h1 := h1.at (nM_of hlow hb_b1)
 replace hE := ew1.bl hE hB
 replace ht := Rep.ext ht ew1
 replace ha := Rep.ext ha ew1
 replace hk := hk.ext ew1
 replace hlow := hlow.ext ew1
 replace hB := ew1.z hB
 refine l_p 1 tK rfl (q1 (c_seq (q0 (l_p 1 tK rfl ?_))))
 refine lC (o_ld tK (h1.cell 0 _ rfl) rfl rfl rfl rfl rfl ?_)
 refine q1 (c_blk (q0 (l_p 2 tK rfl (q1 ?_))))
 refine c_ifP _ rfl (fun c1 => ?_) (fun c1 => ?_)
 ·refine q0 (l_p 1 tK rfl ?_)
  refine lC (o_ld tK (h1.cell 3 _ rfl) rfl rfl rfl rfl rfl ?_)
  refine l_p 2 tK rfl (q1 (c_ret (x_blkR (x_seqR (x_ret1 rfl rfl ?_)))))
  exact ⟨by congr 1; unfold numberB; simp_all, hE⟩
 refine q0 (l_p 2 tK rfl (q1 ?_))
 refine c_ifP _ rfl (fun c2 => ?_) (fun c2 => ?_)
 ·refine q0 (l_p 1 tK rfl ?_)
  refine lC (o_ld tK (h1.cell 3 _ rfl) rfl rfl rfl rfl rfl ?_)
  refine l_p 2 tK rfl ?_
  refine l_splitP 15 _ rfl (fun c3 => ?_) (fun c3 => ?_)
  ·refine l_p 5 tK rfl (q1 (c_ret (x_blkR (x_seqR (x_ret1 rfl rfl ?_)))))
   exact ⟨by congr 1; unfold numberB; simp_all, hE⟩
  refine l_p 1 tK rfl ?_
  refine lC (o_ld tK (h1.cell 3 _ rfl) rfl rfl rfl rfl rfl ?_)
  refine l_p 3 tK rfl (q1 (c_ret (x_blkR (x_seqR (x_ret1 rfl rfl ?_)))))
  exact ⟨by congr 1; unfold numberB; simp_all, hE⟩
 refine c_skip (x_blk (x_seq (q0 (l_p 1 tK rfl ?_))))
 refine lC (o_ld tK (h1.cell 3 _ rfl) rfl rfl rfl rfl rfl ?_)
 refine l_p 2 tK rfl (q1 (c_ret (x_ret1 rfl rfl ?_)))
 exact ⟨by congr 1; unfold numberB; simp_all, hE⟩
theorem noted_spec (t : Tm) (a : Int) (M : Nat → Prop) (w : World) (v : Value) (ht : Rep.R M w v t) (hlow : Low M w) (hz : psz t.ann ≤ 2000000) :
  Calls Tryz.prog 45 #[v, .int .i64 a] w (Ret fun r w' => r = .bool (notedB t.has t.ann a) ∧ Ext w w') := by
 have hE : Below w.heap.size w w := Below.refl _ _
 have hB : w.heap.size ≤ w.heap.size := Nat.le_refl _
 obtain ⟨akv, kv, rfl, op, nm, ag, n64, ha, hk⟩ := tm_open ht
 refine c_enter (n := 26) Tryz.func45 rfl rfl rfl ?_
 refine q0 ?_
 refine lC (o_box rfl rfl rfl ?_)
 intro b2 w1 hb_b2 ew1 h2
 replace h2 : Box _ b2 28 [.int .u8 t.op, .string t.name, .string t.arg, .int .i64 t.n, .bool t.has, .int .u8 t.ann.op, .string t.ann.name, .int .i64 t.ann.n, akv, kv] := h2
 replace h2 := h2.at (nM_of hlow hb_b2)
 replace hE := ew1.bl hE hB
 replace ht := Rep.ext ht ew1
 replace ha := Rep.ext ha ew1
 replace hk := hk.ext ew1
 replace hlow := hlow.ext ew1
 replace hB := ew1.z hB
 refine l_p 1 tK rfl (q1 (c_seq (q0 (l_p 1 tK rfl ?_))))
 refine lC (o_ld tK (h2.cell 4 _ rfl) rfl rfl rfl rfl rfl ?_)
 refine q1 ?_
 refine c_if _ rfl (fun c1 => ?_) (fun c1 => ?_)
 ·refine q0 (l_p 3 tK rfl ?_)
  refine l_splitP 9 _ rfl (fun c2 => ?_) (fun c2 => ?_)
  ·refine l_p 1 tK rfl ?_
   refine lC (o_lds tK (fun j v hv => (h2).mid 5 (sub := [.int .u8 t.ann.op, .string t.ann.name, .int .i64 t.ann.n, akv]) rfl j v hv) rfl rfl rfl rfl rfl rfl ?_)
   refine lC (o_call fo66 rfl rfl rfl (kRight_specB _ _ _ _ ha hlow) ?_)
   rintro _ w2 ⟨rfl, ew2⟩
   replace hE := ew2.bl hE hB
   replace ht := Rep.ext ht ew2
   replace ha := Rep.ext ha ew2
   replace hk := hk.ext ew2
   replace h2 := h2.ext ew2
   replace hlow := hlow.ext ew2
   replace hB := ew2.z hB
   refine l_p 2 tK rfl ?_
   refine l_split 14 _ rfl (fun c3 => ?_) (fun c3 => ?_)
   ·refine l_p 1 tK rfl ?_
    refine lC (o_lds tK (fun j v hv => (h2).mid 5 (sub := [.int .u8 t.ann.op, .string t.ann.name, .int .i64 t.ann.n, akv]) rfl j v hv) rfl rfl rfl rfl rfl rfl ?_)
    refine lC (o_call fo67 rfl rfl rfl (kClosed_spec _ _ _ _ ha hlow hz) ?_)
    rintro _ w3 ⟨rfl, ew3⟩
    replace hE := ew3.bl hE hB
    replace ht := Rep.ext ht ew3
    replace ha := Rep.ext ha ew3
    replace hk := hk.ext ew3
    replace h2 := h2.ext ew3
    replace hlow := hlow.ext ew3
    replace hB := ew3.z hB
    refine l_p 2 tK rfl (q1 (c_ret (x_seqR (x_ret1 rfl rfl ?_))))
    exact ⟨by congr 1; unfold notedB; simp_all <;> intros <;> omega, hE⟩
   refine l_p 5 tK rfl (q1 (c_ret (x_seqR (x_ret1 rfl rfl ?_))))
   exact ⟨by congr 1; unfold notedB; simp_all <;> intros <;> omega, hE⟩
  refine l_p 10 tK rfl (q1 (c_ret (x_seqR (x_ret1 rfl rfl ?_))))
  exact ⟨by congr 1; unfold notedB; simp_all <;> intros <;> omega, hE⟩
 refine c_skip (x_seq (q0 (l_p 3 tK rfl ?_)))
 refine l_splitP 21 _ rfl (fun c4 => ?_) (fun c4 => ?_)
 ·refine l_p 1 tK rfl ?_
  refine lC (o_lds tK (fun j v hv => (h2).mid 5 (sub := [.int .u8 t.ann.op, .string t.ann.name, .int .i64 t.ann.n, akv]) rfl j v hv) rfl rfl rfl rfl rfl rfl ?_)
  refine lC (o_call fo68 rfl rfl rfl (blank_spec _ _ _ _ ha hlow) ?_)
  rintro _ w4 ⟨rfl, ew4⟩
  replace hE := ew4.bl hE hB
  replace ht := Rep.ext ht ew4
  replace ha := Rep.ext ha ew4
  replace hk := hk.ext ew4
  replace h2 := h2.ext ew4
  replace hlow := hlow.ext ew4
  replace hB := ew4.z hB
  refine l_p 2 tK rfl (q1 (c_ret (x_ret1 rfl rfl ?_)))
  exact ⟨by congr 1; unfold notedB; simp_all <;> intros <;> omega, hE⟩
 refine l_p 5 tK rfl (q1 (c_ret (x_ret1 rfl rfl ?_)))
 exact ⟨by congr 1; unfold notedB; simp_all <;> intros <;> omega, hE⟩
theorem tright_spec : ∀ (t : Tm) (arms : Bool) (M : Nat → Prop) (w : World) (v : Value), Rep.R M w v t → Low M w → AnnS t → Calls Tryz.prog 26 #[v, .bool arms] w (Ret fun r w' => r = .bool (rightT t arms) ∧ Ext w w') := by
 refine Tm.ind fun t ih => ?_
 intro arms M w v ht hlow hz
 have hE : Below w.heap.size w w := Below.refl _ _
 have hB : w.heap.size ≤ w.heap.size := Nat.le_refl _
 obtain ⟨akv, kv, rfl, op, nm, ag, n64, ha, hk⟩ := tm_open ht
 have hlt := hk.lt
 refine c_enter (n := 120) Tryz.func26 rfl rfl rfl ?_
 refine q0 ?_
 refine lC (o_box rfl rfl rfl ?_)
 intro b2 w1 hb_b2 ew1 h2
 replace h2 : Box _ b2 28 [.int .u8 t.op, .string t.name, .string t.arg, .int .i64 t.n, .bool t.has, .int .u8 t.ann.op, .string t.ann.name, .int .i64 t.ann.n, akv, kv] := h2
 replace h2 := h2.at (nM_of hlow hb_b2)
 replace hE := ew1.bl hE hB
 replace ht := Rep.ext ht ew1
 replace ha := Rep.ext ha ew1
 replace hk := hk.ext ew1
 replace hlow := hlow.ext ew1
 replace hB := ew1.z hB
 refine l_p 1 tK rfl (q1 (q0 (l_p 1 tK rfl ?_)))
 refine lC (o_ld tK (h2.cell 0 _ rfl) rfl rfl rfl rfl rfl ?_)
 refine lC (o_call fo43 rfl rfl rfl (shaped_spec t.op M _ hlow) ?_)
 rintro _ w2 ⟨rfl, ew2⟩
 replace hE := ew2.bl hE hB
 replace ht := Rep.ext ht ew2
 replace ha := Rep.ext ha ew2
 replace hk := hk.ext ew2
 replace h2 := h2.ext ew2
 replace hlow := hlow.ext ew2
 replace hB := ew2.z hB
 refine l_p 3 tK rfl ?_
 refine lC (o_new tK rfl rfl rfl ?_)
 intro b5 w3 qb5 ew3 hb5
 have nb5 := nM_of hlow qb5
 refine lC (o_st tK hb5 rfl rfl rfl rfl (by simp [Value.cells, Value.oneCell']) rfl rfl ?_)
 intro w4 h5 uw4 bew4
 have ew4 : Ext w2 w4 := ew3.trans (bew4 _ (Nat.le_of_eq qb5.symm))
 replace hE := ew4.bl hE hB
 replace ht := Rep.ext ht ew4
 replace ha := Rep.ext ha ew4
 replace hk := hk.ext ew4
 replace h2 := h2.ext ew4
 replace hlow := hlow.ext ew4
 replace hB := ew4.z hB
 replace h5 : Box _ b5 61 [.bool (shp t.op).1, .bool (shp t.op).2.1, .int .i64 (shp t.op).2.2.1, .int .i64 (shp t.op).2.2.2.1] := h5
 replace h5 := h5.at nb5
 refine l_p 1 tK rfl (q1 ?_)
 refine c_cut (X := Nat) (fun b5 => [(1, .bool arms), (2, .pointer (some ⟨b2, 0, none⟩)), (5, .pointer (some ⟨b5, 0, none⟩))]) (fun b5 w' => ((shp t.op).2.2.2.2 = true ∧ (arms == armsB t.op) = true ∧ numberB t.op t.n = true ∧ notedB t.has t.ann (shp t.op).2.2.2.1 = true ∧ namedB t.arg (shp t.op).2.1 = true) ∧ At M w' b2 0 [.int .u8 t.op, .string t.name, .string t.arg, .int .i64 t.n, .bool t.has, .int .u8 t.ann.op, .string t.ann.name, .int .i64 t.ann.n, akv, kv] ∧ At M w' b5 0 [.bool (shp t.op).1, .bool (shp t.op).2.1, .int .i64 (shp t.op).2.2.1, .int .i64 (shp t.op).2.2.2.1] ∧ Sl M w' kv t.kids ∧ Low M w' ∧ Below w.heap.size w w' ∧ w.heap.size ≤ w'.heap.size) ?_ ?_
 ·refine q0 (l_p 3 tK rfl ?_)
  refine l_splitB 18 _ rfl (fun c1 => ?_) (fun c1 => ?_)
  ·refine l_p 31 tK rfl (q1 (c_ifT rfl (q0 (l_p 1 tK rfl (q1 (c_ret (x_seqR (x_ret1 rfl rfl ?_))))))))
   exact ⟨by rw [rightT_eq]; clear ih; unfold headT armsB; simp_all <;> intros <;> omega, hE⟩
  refine l_p 2 tK rfl ?_
  refine lC (o_ld tK (h2.cell 0 _ rfl) rfl rfl rfl rfl rfl ?_)
  refine l_p 2 tK rfl ?_
  refine l_splitP 23 _ rfl (fun c2 => ?_) (fun c2 => ?_)
  ·refine l_p 4 tK rfl ?_
   refine lC (o_bne tK rfl rfl rfl rfl rfl rfl ?_)
   refine l_p 2 tK rfl ?_
   refine l_split 30 _ rfl (fun c3 => ?_) (fun c3 => ?_)
   ·refine l_p 19 tK rfl (q1 (c_ifT rfl (q0 (l_p 1 tK rfl (q1 (c_ret (x_seqR (x_ret1 rfl rfl ?_))))))))
    exact ⟨by rw [rightT_eq]; clear ih; unfold headT armsB; simp_all <;> intros <;> omega, hE⟩
   refine lC (o_lds tK (fun j v hv => h2.cell j v hv) rfl rfl rfl rfl rfl rfl ?_)
   refine lC (o_call fo44 rfl rfl rfl (number_spec _ _ _ _ ht hlow) ?_)
   rintro _ w5 ⟨rfl, ew5⟩
   replace hE := ew5.bl hE hB
   replace ht := Rep.ext ht ew5
   replace ha := Rep.ext ha ew5
   replace hk := hk.ext ew5
   replace h2 := h2.ext ew5
   replace h5 := h5.ext ew5
   replace hlow := hlow.ext ew5
   replace hB := ew5.z hB
   refine l_p 3 tK rfl ?_
   refine l_splitB 35 _ rfl (fun c4 => ?_) (fun c4 => ?_)
   ·refine l_p 14 tK rfl (q1 (c_ifT rfl (q0 (l_p 1 tK rfl (q1 (c_ret (x_seqR (x_ret1 rfl rfl ?_))))))))
    exact ⟨by rw [rightT_eq]; clear ih; unfold headT armsB; simp_all <;> intros <;> omega, hE⟩
   refine lC (o_lds tK (fun j v hv => h2.cell j v hv) rfl rfl rfl rfl rfl rfl ?_)
   refine l_p 1 tK rfl ?_
   refine lC (o_ld tK (h5.cell 3 _ rfl) rfl rfl rfl rfl rfl ?_)
   refine lC (o_call fo45 rfl rfl rfl (noted_spec _ _ _ _ _ ht hlow hz.self) ?_)
   rintro _ w6 ⟨rfl, ew6⟩
   replace hE := ew6.bl hE hB
   replace ht := Rep.ext ht ew6
   replace ha := Rep.ext ha ew6
   replace hk := hk.ext ew6
   replace h2 := h2.ext ew6
   replace h5 := h5.ext ew6
   replace hlow := hlow.ext ew6
   replace hB := ew6.z hB
   refine l_p 3 tK rfl ?_
   refine l_splitB 42 _ rfl (fun c5 => ?_) (fun c5 => ?_)
   ·refine l_p 7 tK rfl (q1 (c_ifT rfl (q0 (l_p 1 tK rfl (q1 (c_ret (x_seqR (x_ret1 rfl rfl ?_))))))))
    exact ⟨by rw [rightT_eq]; clear ih; unfold headT armsB; simp_all <;> intros <;> omega, hE⟩
   refine l_p 1 tK rfl ?_
   refine lC (o_ld tK (h2.cell 2 _ rfl) rfl rfl rfl rfl rfl ?_)
   refine l_p 1 tK rfl ?_
   refine lC (o_ld tK (h5.cell 1 _ rfl) rfl rfl rfl rfl rfl ?_)
   refine lC (o_call fo46 rfl rfl rfl (named_spec _ _ _ (by first | exact nm | exact ag)) ?_)
   rintro _ w7 ⟨rfl, ew7⟩
   replace hE := ew7.bl hE hB
   replace ht := Rep.ext ht ew7
   replace ha := Rep.ext ha ew7
   replace hk := hk.ext ew7
   replace h2 := h2.ext ew7
   replace h5 := h5.ext ew7
   replace hlow := hlow.ext ew7
   replace hB := ew7.z hB
   refine l_p 2 tK rfl (q1 ?_)
   refine c_ifB _ rfl (fun c6 => ?_) (fun c6 => ?_)
   ·refine q0 (l_p 1 tK rfl (q1 (c_ret (x_seqR (x_ret1 rfl rfl ?_)))))
    exact ⟨by rw [rightT_eq]; clear ih; unfold headT armsB; simp_all <;> intros <;> omega, hE⟩
   refine c_skip ?_
   exact x_cut (b5) (s3 rfl rfl rfl) ⟨by clear ih; simp_all [armsB], h2, h5, hk, hlow, hE, hB⟩
  refine l_p 1 tK rfl ?_
  refine lC (o_ld tK (h2.cell 0 _ rfl) rfl rfl rfl rfl rfl ?_)
  refine l_p 2 tK rfl ?_
  refine lC (o_bne tK rfl rfl rfl rfl rfl rfl ?_)
  refine l_p 2 tK rfl ?_
  refine l_split 30 _ rfl (fun c7 => ?_) (fun c7 => ?_)
  ·refine l_p 19 tK rfl (q1 (c_ifT rfl (q0 (l_p 1 tK rfl (q1 (c_ret (x_seqR (x_ret1 rfl rfl ?_))))))))
   exact ⟨by rw [rightT_eq]; clear ih; unfold headT armsB; simp_all <;> intros <;> omega, hE⟩
  refine lC (o_lds tK (fun j v hv => h2.cell j v hv) rfl rfl rfl rfl rfl rfl ?_)
  refine lC (o_call fo44 rfl rfl rfl (number_spec _ _ _ _ ht hlow) ?_)
  rintro _ w8 ⟨rfl, ew8⟩
  replace hE := ew8.bl hE hB
  replace ht := Rep.ext ht ew8
  replace ha := Rep.ext ha ew8
  replace hk := hk.ext ew8
  replace h2 := h2.ext ew8
  replace h5 := h5.ext ew8
  replace hlow := hlow.ext ew8
  replace hB := ew8.z hB
  refine l_p 3 tK rfl ?_
  refine l_splitB 35 _ rfl (fun c8 => ?_) (fun c8 => ?_)
  ·refine l_p 14 tK rfl (q1 (c_ifT rfl (q0 (l_p 1 tK rfl (q1 (c_ret (x_seqR (x_ret1 rfl rfl ?_))))))))
   exact ⟨by rw [rightT_eq]; clear ih; unfold headT armsB; simp_all <;> intros <;> omega, hE⟩
  refine lC (o_lds tK (fun j v hv => h2.cell j v hv) rfl rfl rfl rfl rfl rfl ?_)
  refine l_p 1 tK rfl ?_
  refine lC (o_ld tK (h5.cell 3 _ rfl) rfl rfl rfl rfl rfl ?_)
  refine lC (o_call fo45 rfl rfl rfl (noted_spec _ _ _ _ _ ht hlow hz.self) ?_)
  rintro _ w9 ⟨rfl, ew9⟩
  replace hE := ew9.bl hE hB
  replace ht := Rep.ext ht ew9
  replace ha := Rep.ext ha ew9
  replace hk := hk.ext ew9
  replace h2 := h2.ext ew9
  replace h5 := h5.ext ew9
  replace hlow := hlow.ext ew9
  replace hB := ew9.z hB
  refine l_p 3 tK rfl ?_
  refine l_splitB 42 _ rfl (fun c9 => ?_) (fun c9 => ?_)
  ·refine l_p 7 tK rfl (q1 (c_ifT rfl (q0 (l_p 1 tK rfl (q1 (c_ret (x_seqR (x_ret1 rfl rfl ?_))))))))
   exact ⟨by rw [rightT_eq]; clear ih; unfold headT armsB; simp_all <;> intros <;> omega, hE⟩
  refine l_p 1 tK rfl ?_
  refine lC (o_ld tK (h2.cell 2 _ rfl) rfl rfl rfl rfl rfl ?_)
  refine l_p 1 tK rfl ?_
  refine lC (o_ld tK (h5.cell 1 _ rfl) rfl rfl rfl rfl rfl ?_)
  refine lC (o_call fo46 rfl rfl rfl (named_spec _ _ _ (by first | exact nm | exact ag)) ?_)
  rintro _ w10 ⟨rfl, ew10⟩
  replace hE := ew10.bl hE hB
  replace ht := Rep.ext ht ew10
  replace ha := Rep.ext ha ew10
  replace hk := hk.ext ew10
  replace h2 := h2.ext ew10
  replace h5 := h5.ext ew10
  replace hlow := hlow.ext ew10
  replace hB := ew10.z hB
  refine l_p 2 tK rfl (q1 ?_)
  refine c_ifB _ rfl (fun c10 => ?_) (fun c10 => ?_)
  ·refine q0 (l_p 1 tK rfl (q1 (c_ret (x_seqR (x_ret1 rfl rfl ?_)))))
   exact ⟨by rw [rightT_eq]; clear ih; unfold headT armsB; simp_all <;> intros <;> omega, hE⟩
  refine c_skip ?_
  exact x_cut (b5) (s3 rfl rfl rfl) ⟨by clear ih; simp_all [armsB], h2, h5, hk, hlow, hE, hB⟩
 clear ht ha h2 hk hlow hE hB
 rintro b5 w40 ⟨⟨H1, H2, H3, H4, H5⟩, h2, h5, hk, hlow, hE, hB⟩
 refine c_cut (X := Nat) (fun b5 => [(1, .bool arms), (2, .pointer (some ⟨b2, 0, none⟩)), (5, .pointer (some ⟨b5, 0, none⟩))]) (fun b5 w' => ((shp t.op).2.2.2.2 = true ∧ (arms == armsB t.op) = true ∧ numberB t.op t.n = true ∧ notedB t.has t.ann (shp t.op).2.2.2.1 = true ∧ namedB t.arg (shp t.op).2.1 = true ∧ (bif decide (t.op = 40) then signB t.name else namedB t.name (shp t.op).1) = true) ∧ At M w' b2 0 [.int .u8 t.op, .string t.name, .string t.arg, .int .i64 t.n, .bool t.has, .int .u8 t.ann.op, .string t.ann.name, .int .i64 t.ann.n, akv, kv] ∧ At M w' b5 0 [.bool (shp t.op).1, .bool (shp t.op).2.1, .int .i64 (shp t.op).2.2.1, .int .i64 (shp t.op).2.2.2.1] ∧ Sl M w' kv t.kids ∧ Low M w' ∧ Below w.heap.size w w' ∧ w.heap.size ≤ w'.heap.size) ?_ ?_
 ·refine q0 (l_p 1 tK rfl ?_)
  refine lC (o_ld tK (h2.cell 0 _ rfl) rfl rfl rfl rfl rfl ?_)
  refine l_p 1 tK rfl (q1 ?_)
  refine c_ifP _ rfl (fun c11 => ?_) (fun c11 => ?_)
  ·refine q0 (l_p 1 tK rfl ?_)
   refine lC (o_ld tK (h2.cell 1 _ rfl) rfl rfl rfl rfl rfl ?_)
   refine lC (o_call fo47 rfl rfl rfl (sign_spec _ _) ?_)
   rintro _ _ ⟨rfl, rfl⟩
   refine l_p 1 tK rfl (q1 ?_)
   refine c_ifB _ rfl (fun c12 => ?_) (fun c12 => ?_)
   ·refine q0 (l_p 1 tK rfl (q1 (c_ret (x_seqR (x_ret1 rfl rfl ?_)))))
    exact ⟨by rw [rightT_eq]; clear ih; unfold headT armsB; simp_all <;> intros <;> omega, hE⟩
   refine c_skip ?_
   exact x_cut (b5) (s3 rfl rfl rfl) ⟨by clear ih; simp_all, h2, h5, hk, hlow, hE, hB⟩
  refine q0 (l_p 1 tK rfl ?_)
  refine lC (o_ld tK (h2.cell 1 _ rfl) rfl rfl rfl rfl rfl ?_)
  refine l_p 1 tK rfl ?_
  refine lC (o_ld tK (h5.cell 0 _ rfl) rfl rfl rfl rfl rfl ?_)
  refine lC (o_call fo46 rfl rfl rfl (named_spec _ _ _ (by first | exact nm | exact ag)) ?_)
  rintro _ w11 ⟨rfl, ew11⟩
  replace hE := ew11.bl hE hB
  replace h2 := h2.ext ew11
  replace h5 := h5.ext ew11
  replace hk := hk.ext ew11
  replace hlow := hlow.ext ew11
  replace hB := ew11.z hB
  refine l_p 1 tK rfl (q1 ?_)
  refine c_ifB _ rfl (fun c13 => ?_) (fun c13 => ?_)
  ·refine q0 (l_p 1 tK rfl (q1 (c_ret (x_seqR (x_ret1 rfl rfl ?_)))))
   exact ⟨by rw [rightT_eq]; clear ih; unfold headT armsB; simp_all <;> intros <;> omega, hE⟩
  refine c_skip ?_
  exact x_cut (b5) (s3 rfl rfl rfl) ⟨by clear ih; simp_all, h2, h5, hk, hlow, hE, hB⟩
 clear h2 h5 hk hlow hE hB
 rintro b5 w90 ⟨⟨H1, H2, H3, H4, H5, H6⟩, h2, h5, hk, hlow, hE, hB⟩
 refine c_cut (X := Nat) (fun b5 => [(1, .bool arms), (2, .pointer (some ⟨b2, 0, none⟩)), (5, .pointer (some ⟨b5, 0, none⟩))]) (fun b5 w' => headT t arms = true ∧ At M w' b2 0 [.int .u8 t.op, .string t.name, .string t.arg, .int .i64 t.n, .bool t.has, .int .u8 t.ann.op, .string t.ann.name, .int .i64 t.ann.n, akv, kv] ∧ At M w' b5 0 [.bool (shp t.op).1, .bool (shp t.op).2.1, .int .i64 (shp t.op).2.2.1, .int .i64 (shp t.op).2.2.2.1] ∧ Sl M w' kv t.kids ∧ Low M w' ∧ Below w.heap.size w w' ∧ w.heap.size ≤ w'.heap.size) ?_ ?_
 ·refine q0 (l_p 1 tK rfl ?_)
  refine lC (o_ld tK (h5.cell 2 _ rfl) rfl rfl rfl rfl rfl ?_)
  refine l_p 2 tK rfl ?_
  refine l_splitP 66 _ rfl (fun c14 => ?_) (fun c14 => ?_)
  ·refine l_p 1 tK rfl ?_
   refine lC (o_ld tK (h2.cell 9 _ rfl) rfl rfl rfl rfl rfl ?_)
   refine lC (o_len tK hk rfl rfl rfl rfl rfl ?_)
   refine l_p 1 tK rfl ?_
   refine lC (o_ld tK (h5.cell 2 _ rfl) rfl rfl rfl rfl rfl ?_)
   refine l_p 3 tK rfl ?_
   refine l_splitN 74 _ rfl (fun c15 => ?_) (fun c15 => ?_)
   ·refine l_p 10 tK rfl (q1 (c_ifT rfl (q0 (l_p 1 tK rfl (q1 (c_ret (x_seqR (x_ret1 rfl rfl ?_))))))))
    exact ⟨by rw [rightT_eq]; clear ih; unfold headT armsB; simp_all <;> intros <;> omega, hE⟩
   refine l_p 1 tK rfl ?_
   refine lC (o_ld tK (h5.cell 2 _ rfl) rfl rfl rfl rfl rfl ?_)
   refine l_p 2 tK rfl ?_
   refine l_splitP 78 _ rfl (fun c16 => ?_) (fun c16 => ?_)
   ·refine l_p 1 tK rfl ?_
    refine lC (o_ld tK (h2.cell 9 _ rfl) rfl rfl rfl rfl rfl ?_)
    refine lC (o_len tK hk rfl rfl rfl rfl rfl ?_)
    refine l_p 3 tK rfl (q1 ?_)
    refine c_ifP _ rfl (fun c17 => ?_) (fun c17 => ?_)
    ·refine q0 (l_p 1 tK rfl (q1 (c_ret (x_seqR (x_ret1 rfl rfl ?_)))))
     exact ⟨by rw [rightT_eq]; clear ih; unfold headT armsB; simp_all <;> intros <;> omega, hE⟩
    refine c_skip ?_
    exact x_cut (b5) (s3 rfl rfl rfl) ⟨by clear ih; simp_all [headT], h2, h5, hk, hlow, hE, hB⟩
   refine l_p 6 tK rfl (q1 (c_ifF rfl (c_skip ?_)))
   exact x_cut (b5) (s3 rfl rfl rfl) ⟨by clear ih; simp_all [headT], h2, h5, hk, hlow, hE, hB⟩
  refine l_p 9 tK rfl ?_
  refine lC (o_ld tK (h5.cell 2 _ rfl) rfl rfl rfl rfl rfl ?_)
  refine l_p 2 tK rfl ?_
  refine l_splitP 78 _ rfl (fun c18 => ?_) (fun c18 => ?_)
  ·refine l_p 1 tK rfl ?_
   refine lC (o_ld tK (h2.cell 9 _ rfl) rfl rfl rfl rfl rfl ?_)
   refine lC (o_len tK hk rfl rfl rfl rfl rfl ?_)
   refine l_p 3 tK rfl (q1 ?_)
   refine c_ifP _ rfl (fun c19 => ?_) (fun c19 => ?_)
   ·refine q0 (l_p 1 tK rfl (q1 (c_ret (x_seqR (x_ret1 rfl rfl ?_)))))
    exact ⟨by rw [rightT_eq]; clear ih; unfold headT armsB; simp_all <;> intros <;> omega, hE⟩
   refine c_skip ?_
   exact x_cut (b5) (s3 rfl rfl rfl) ⟨by clear ih; simp_all [headT], h2, h5, hk, hlow, hE, hB⟩
  refine l_p 6 tK rfl (q1 (c_ifF rfl (c_skip ?_)))
  exact x_cut (b5) (s3 rfl rfl rfl) ⟨by clear ih; simp_all [headT], h2, h5, hk, hlow, hE, hB⟩
 clear h2 h5 hk hlow hE hB
 rintro b5 w110 ⟨HH, h2, h5, hk, hlow, hE, hB⟩
 refine c_seq (q0 (l_p 1 tK rfl ?_))
 refine lC (o_ld tK (h2.cell 9 _ rfl) rfl rfl rfl rfl rfl ?_)
 refine lC (o_len tK hk rfl rfl rfl rfl rfl ?_)
 refine l_p 1 tK rfl (q1 (c_blk ?_))
 refine c_loop (X := Nat) (fun i => [(1, .bool arms), (2, .pointer (some ⟨b2, 0, none⟩)), (86, kv), (87, .int .i64 (t.kids.length : Int)), (88, .int .i64 (i : Nat))]) (fun i w' => i ≤ t.kids.length ∧ rightT t arms = kidsT t.op i (kidL (t.kids.drop i)) ∧ At M w' b2 0 [.int .u8 t.op, .string t.name, .string t.arg, .int .i64 t.n, .bool t.has, .int .u8 t.ann.op, .string t.ann.name, .int .i64 t.ann.n, akv, kv] ∧ Sl M w' kv t.kids ∧ Low M w' ∧ Below w.heap.size w w' ∧ w.heap.size ≤ w'.heap.size) (fun i => t.kids.length - i) (0) (s5 rfl rfl rfl rfl rfl) ?_ ?_
 ·exact ⟨Nat.zero_le _, by rw [rightT_eq, HH]; rfl, h2, hk, hlow, hE, hB⟩
 rintro i w12 ⟨hi, hinv, h2, hk, hlow, hE, hB⟩
 refine q0 (l_p 1 tK rfl (q1 (c_seq ?_)))
 refine c_ifP _ rfl (fun c20 => ?_) (fun c20 => ?_)
 ·refine c_skip (x_seq (c_seq (c_blk (q0 (l_p 1 tK rfl ?_)))))
  have hik : i < t.kids.length := by omega
  have hlast : decide ((i : Int) = (t.kids.length : Int) - 1) = decide (i + 1 = t.kids.length) := by rw [decide_eq_decide]; omega
  refine lC (o_ixS tK hk (List.getElem?_eq_getElem hik) rfl rfl rfl rfl rfl rfl rfl rfl rfl ?_)
  intro ebx eox eux hyx hatx
  obtain ⟨akvx, kvx, rfl, opx, nmx, agx, n64x, hax, hkx⟩ := tm_open hyx
  replace hatx : At M w12 ebx eox [.int .u8 t.kids[i].op, .string t.kids[i].name, .string t.kids[i].arg, .int .i64 t.kids[i].n, .bool t.kids[i].has, .int .u8 t.kids[i].ann.op, .string t.kids[i].ann.name, .int .i64 t.kids[i].ann.n, akvx, kvx] := hatx
  refine lC (o_lds tK (fun j v hv => hatx.cell j v hv) rfl rfl rfl rfl rfl rfl ?_)
  refine lC (o_new tK rfl rfl rfl ?_)
  intro b8 w13 qb8 ew13 hb8
  have nb8 := nM_of hlow qb8
  refine l_p 1 tK rfl ?_
  refine lC (o_st tK hb8 rfl rfl rfl rfl (Rep.one hyx) rfl rfl ?_)
  intro w14 h8 uw14 bew14
  have ew14 : Ext w12 w14 := ew13.trans (bew14 _ (Nat.le_of_eq qb8.symm))
  replace hE := ew14.bl hE hB
  replace h2 := h2.ext ew14
  replace hk := hk.ext ew14
  replace hyx := Rep.ext hyx ew14
  replace hax := Rep.ext hax ew14
  replace hkx := hkx.ext ew14
  replace hatx := hatx.ext ew14
  replace hlow := hlow.ext ew14
  replace hB := ew14.z hB
  replace h8 : Box w14 b8 28 [.int .u8 t.kids[i].op, .string t.kids[i].name, .string t.kids[i].arg, .int .i64 t.kids[i].n, .bool t.kids[i].has, .int .u8 t.kids[i].ann.op, .string t.kids[i].ann.name, .int .i64 t.kids[i].ann.n, akvx, kvx] := h8
  replace h8 := h8.at nb8
  refine q1 (q0 (l_p 1 tK rfl ?_))
  refine lC (o_ld tK (h2.cell 0 _ rfl) rfl rfl rfl rfl rfl ?_)
  refine l_p 2 tK rfl ?_
  refine l_splitP 96 _ rfl (fun c21 => ?_) (fun c21 => ?_)
  ·refine l_p 4 tK rfl (q1 (q0 (l_p 2 tK rfl ?_)))
   refine l_splitP 101 _ rfl (fun c22 => ?_) (fun c22 => ?_)
   ·refine l_p 1 tK rfl ?_
    refine lC (o_ld tK (h8.cell 0 _ rfl) rfl rfl rfl rfl rfl ?_)
    refine l_p 2 tK rfl ?_
    refine lC (o_ld tK (h2.cell 9 _ rfl) rfl rfl rfl rfl rfl ?_)
    refine lC (o_len tK hk rfl rfl rfl rfl rfl ?_)
    refine lC (o_ai rfl rfl rfl (by omega) rfl rfl ?_)
    refine l_p 1 tK rfl ?_
    refine lC (o_call fo48 rfl rfl rfl (arm_spec _ _ _) ?_)
    rintro _ _ ⟨rfl, rfl⟩
    rw [hlast]
    refine l_p 3 tK rfl ?_
    refine l_splitB 113 _ rfl (fun c23 => ?_) (fun c23 => ?_)
    ·refine l_p 5 tK rfl (q1 (c_ifT rfl (q0 (l_p 1 tK rfl (q1 (c_ret (x_blkR (x_seqR (x_seqR (x_blkR (x_seqR (x_ret1 rfl rfl ?_))))))))))))
     exact ⟨by rw [hinv, kidsT_step hik]; clear ih; unfold innerB; simp_all, hE⟩
    refine lC (o_lds tK (fun j v hv => h8.cell j v hv) rfl rfl rfl rfl rfl rfl ?_)
    refine l_p 1 tK rfl ?_
    refine lC (o_call fo26 rfl rfl rfl (ih _ (List.getElem_mem hik) _ M _ _ hyx hlow (hz.kid (List.getElem_mem hik))) ?_)
    rintro _ w15 ⟨rfl, ew15⟩
    replace hE := ew15.bl hE hB
    replace h2 := h2.ext ew15
    replace hk := hk.ext ew15
    replace hyx := Rep.ext hyx ew15
    replace hax := Rep.ext hax ew15
    replace hkx := hkx.ext ew15
    replace hatx := hatx.ext ew15
    replace h8 := h8.ext ew15
    replace hlow := hlow.ext ew15
    replace hB := ew15.z hB
    refine l_p 2 tK rfl (q1 ?_)
    refine c_ifB _ rfl (fun c24 => ?_) (fun c24 => ?_)
    ·refine q0 (l_p 1 tK rfl (q1 (c_ret (x_blkR (x_seqR (x_seqR (x_blkR (x_seqR (x_ret1 rfl rfl ?_)))))))))
     exact ⟨by rw [hinv, kidsT_step hik]; clear ih; unfold innerB; simp_all, hE⟩
    refine c_skip (x_blk (x_seq (c_reg ?_)))
    refine lC (o_ai rfl rfl rfl (by omega) rfl rfl ?_)
    refine l_p 1 tK rfl (l_nil ?_)
    exact x_round (i + 1) (s5 rfl rfl rfl rfl (get_num rfl (by omega))) ⟨by omega, by rw [hinv, kidsT_step hik]; clear ih; unfold innerB; simp_all, h2, hk, hlow, hE, hB⟩ (by omega)
   refine l_p 12 tK rfl ?_
   refine lC (o_lds tK (fun j v hv => h8.cell j v hv) rfl rfl rfl rfl rfl rfl ?_)
   refine l_p 1 tK rfl ?_
   refine lC (o_call fo26 rfl rfl rfl (ih _ (List.getElem_mem hik) _ M _ _ hyx hlow (hz.kid (List.getElem_mem hik))) ?_)
   rintro _ w16 ⟨rfl, ew16⟩
   replace hE := ew16.bl hE hB
   replace h2 := h2.ext ew16
   replace hk := hk.ext ew16
   replace hyx := Rep.ext hyx ew16
   replace hax := Rep.ext hax ew16
   replace hkx := hkx.ext ew16
   replace hatx := hatx.ext ew16
   replace h8 := h8.ext ew16
   replace hlow := hlow.ext ew16
   replace hB := ew16.z hB
   refine l_p 2 tK rfl (q1 ?_)
   refine c_ifB _ rfl (fun c25 => ?_) (fun c25 => ?_)
   ·refine q0 (l_p 1 tK rfl (q1 (c_ret (x_blkR (x_seqR (x_seqR (x_blkR (x_seqR (x_ret1 rfl rfl ?_)))))))))
    exact ⟨by rw [hinv, kidsT_step hik]; clear ih; unfold innerB; simp_all, hE⟩
   refine c_skip (x_blk (x_seq (c_reg ?_)))
   refine lC (o_ai rfl rfl rfl (by omega) rfl rfl ?_)
   refine l_p 1 tK rfl (l_nil ?_)
   exact x_round (i + 1) (s5 rfl rfl rfl rfl (get_num rfl (by omega))) ⟨by omega, by rw [hinv, kidsT_step hik]; clear ih; unfold innerB; simp_all, h2, hk, hlow, hE, hB⟩ (by omega)
  refine l_p 4 tK rfl (q1 (q0 (l_p 14 tK rfl ?_)))
  refine lC (o_lds tK (fun j v hv => h8.cell j v hv) rfl rfl rfl rfl rfl rfl ?_)
  refine l_p 1 tK rfl ?_
  refine lC (o_call fo26 rfl rfl rfl (ih _ (List.getElem_mem hik) _ M _ _ hyx hlow (hz.kid (List.getElem_mem hik))) ?_)
  rintro _ w17 ⟨rfl, ew17⟩
  replace hE := ew17.bl hE hB
  replace h2 := h2.ext ew17
  replace hk := hk.ext ew17
  replace hyx := Rep.ext hyx ew17
  replace hax := Rep.ext hax ew17
  replace hkx := hkx.ext ew17
  replace hatx := hatx.ext ew17
  replace h8 := h8.ext ew17
  replace hlow := hlow.ext ew17
  replace hB := ew17.z hB
  refine l_p 2 tK rfl (q1 ?_)
  refine c_ifB _ rfl (fun c26 => ?_) (fun c26 => ?_)
  ·refine q0 (l_p 1 tK rfl (q1 (c_ret (x_blkR (x_seqR (x_seqR (x_blkR (x_seqR (x_ret1 rfl rfl ?_)))))))))
   exact ⟨by rw [hinv, kidsT_step hik]; clear ih; unfold innerB; simp_all, hE⟩
  refine c_skip (x_blk (x_seq (c_reg ?_)))
  refine lC (o_ai rfl rfl rfl (by omega) rfl rfl ?_)
  refine l_p 1 tK rfl (l_nil ?_)
  exact x_round (i + 1) (s5 rfl rfl rfl rfl (get_num rfl (by omega))) ⟨by omega, by rw [hinv, kidsT_step hik]; clear ih; unfold innerB; simp_all, h2, hk, hlow, hE, hB⟩ (by omega)
 refine c_exit (x_seqE (x_seqE (x_blkE (x_seq (q0 (l_p 1 tK rfl (q1 (c_ret (x_ret1 rfl rfl ?_)))))))))
 exact ⟨by rw [hinv, kidsT_end (by omega)], hE⟩
theorem tRight_spec (t : Tm) (M : Nat → Prop) (w : World) (v : Value) (ht : Rep.R M w v t) (hlow : Low M w) (hz : AnnS t) :
  Calls Tryz.prog 9 #[v] w (Ret fun r w' => r = .bool (rightT t false) ∧ Ext w w') := by
 have hE : Below w.heap.size w w := Below.refl _ _
 have hB : w.heap.size ≤ w.heap.size := Nat.le_refl _
 obtain ⟨akv, kv, rfl, op, nm, ag, n64, ha, hk⟩ := tm_open ht
 refine c_enter (n := 5) Tryz.func9 rfl rfl rfl ?_
 refine q0 ?_
 refine lC (o_box rfl rfl rfl ?_)
 intro b1 w1 hb_b1 ew1 h1
 replace h1 : Box _ b1 28 [.int .u8 t.op, .string t.name, .string t.arg, .int .i64 t.n, .bool t.has, .int .u8 t.ann.op, .string t.ann.name, .int .i64 t.ann.n, akv, kv] := h1
 replace h1 := h1.at (nM_of hlow hb_b1)
 replace hE := ew1.bl hE hB
 replace ht := Rep.ext ht ew1
 replace ha := Rep.ext ha ew1
 replace hk := hk.ext ew1
 replace hlow := hlow.ext ew1
 replace hB := ew1.z hB
 refine l_p 1 tK rfl (q1 (q0 ?_))
 refine lC (o_lds tK (fun j v hv => h1.cell j v hv) rfl rfl rfl rfl rfl rfl ?_)
 refine lC (o_call fo26 rfl rfl rfl (tright_spec _ _ _ _ _ ht hlow hz) ?_)
 rintro _ w2 ⟨rfl, ew2⟩
 replace hE := ew2.bl hE hB
 replace ht := Rep.ext ht ew2
 replace ha := Rep.ext ha ew2
 replace hk := hk.ext ew2
 replace h1 := h1.ext ew2
 replace hlow := hlow.ext ew2
 replace hB := ew2.z hB
 refine l_p 1 tK rfl (q1 (c_ret (x_ret1 rfl rfl ?_)))
 exact ⟨rfl, hE⟩
end Go.Proofs.YtohfnpmehgpphaaGreat
namespace Rw
/-! ## Letters -/
theorem hasB_yes {s : ByteArray} {c : UInt8} {j : Nat} (h : s.data[j]? = some c) : hasB s c = true := by
  unfold hasB
  rw [List.any_eq_true]
  exact ⟨c, by rw [Array.mem_toList_iff]; exact Array.mem_of_getElem? h, by simp⟩
theorem hasB_no {s : ByteArray} {c : UInt8} (h : ∀ j, j < s.size → s.data[j]? ≠ some c) : hasB s c = false := by
  unfold hasB
  rw [List.any_eq_false]
  intro x hx
  simp only [decide_eq_true_eq]
  rintro rfl
  rw [Array.mem_toList_iff] at hx
  obtain ⟨j, hj, e⟩ := Array.getElem_of_mem hx
  exact h j hj (by rw [Array.getElem?_eq_getElem hj, e])
def countTo (s : ByteArray) (i : Nat) : Nat := ((s.data.toList.take i).filter fun x => decide (x = 101)).length
theorem countTo_all {s : ByteArray} {i : Nat} (h : s.size ≤ i) : countTo s i = countE s := by
  unfold countTo countE
  rw [List.take_of_length_le (by simpa using h)]
theorem countTo_step {s : ByteArray} {i : Nat} {c : UInt8} (h : s.data[i]? = some c) : countTo s (i + 1) = countTo s i + if c = 101 then 1 else 0 := by
  have hi : i < s.data.toList.length := by simpa using (Array.getElem?_eq_some_iff.1 h).1
  have e : s.data.toList[i] = c := by
    have := (Array.getElem?_eq_some_iff.1 h).2
    simpa using this
  unfold countTo
  rw [List.take_succ_eq_append_getElem hi, List.filter_append, List.length_append, e]
  by_cases hc : c = 101
  · subst hc; simp
  · simp [hc]
theorem countTo_le (s : ByteArray) (i : Nat) : countTo s i ≤ i := by
  unfold countTo
  have h1 := List.length_filter_le (fun x => decide (x = 101)) (s.data.toList.take i)
  rw [List.length_take] at h1
  omega
/-! ## Right, twice -/
theorem shp_parts {op : Int} (h : ¬ (op < 32 ∨ 52 ≤ op)) : (shp op).2.2.2.2 = true ∧ partsS op ≠ ⟨#[]⟩ ∧ (op ≠ 48 → (shp op).2.2.1 = (countE (partsS op) : Int) ∧ partsS op ≠ ⟨#[99]⟩) := by
  rcases op_cases h with e | e | e | e | e | e | e | e | e | e | e | e | e | e | e | e | e | e | e | e <;> subst e <;> exact ⟨by decide, by decide, by decide⟩
theorem shp_no {op : Int} (h : op < 32 ∨ 52 ≤ op) : (shp op).2.2.2.2 = false := by
  unfold shp
  repeat rw [if_neg (by omega)]
theorem arms_of {k : Tm} (h : rightT k true = true) : k.op = 49 ∨ k.op = 50 := by
  rw [rightT_eq, headT] at h
  simp only [Bool.and_eq_true, beq_iff_eq] at h
  have h1 := h.1.2.1
  unfold armsB at h1
  simpa using h1.symm
theorem kids_arms : ∀ (l : List Tm) (i : Nat), kidsT 48 (i + 1) (kidL l) = armsL (kidL l)
  | [], _ => rfl
  | k :: l, i => by
    show kidsT 48 (i + 1) ((k.op, rightT k) :: kidL l) = armsL ((k.op, rightT k) :: kidL l)
    have hi : innerB 48 (i + 1) = true := by unfold innerB; simp
    rw [kidsT, armsL, hi, kids_arms l (i + 1)]
    cases hg : rightT k true with
    | false => simp
    | true =>
      rcases arms_of hg with e | e
      · rw [e, show armB 49 (kidL l).isEmpty = true from rfl]; simp
      · rw [e, show armB 50 (kidL l).isEmpty = (kidL l).isEmpty by unfold armB; simp]; simp
theorem kids_all {op : Int} (h : op ≠ 48) : ∀ (l : List Tm) (i : Nat), kidsT op i (kidL l) = allL (kidL l)
  | [], _ => rfl
  | k :: l, i => by
    show kidsT op i ((k.op, rightT k) :: kidL l) = allL ((k.op, rightT k) :: kidL l)
    have hi : innerB op i = false := by unfold innerB; simp [h]
    rw [kidsT, hi, kids_all h l (i + 1)]
    simp [allL]
theorem ref_right (t : Tm) : ∀ arm, refT t arm = rightT t arm := by
  refine Tm.ind (p := fun t => ∀ arm, refT t arm = rightT t arm) (fun t ih => ?_) t
  intro arm
  have hk : refL t.kids = kidL t.kids := by
    unfold refL kidL
    apply List.map_congr_left
    intro k hk
    rw [show refT k = rightT k from funext (ih k hk)]
  rw [refT_eq, rightT_eq, hk, headT]
  by_cases ho : t.op < 32 ∨ 52 ≤ t.op
  · rw [shp_no ho, show partsS t.op = ⟨#[]⟩ by unfold partsS; rw [if_pos ho]]; simp
  · obtain ⟨h1, h2, h3⟩ := shp_parts ho
    rw [h1, decide_eq_false h2, parts_node ho, nodeB]
    have hkids : (bif decide (partsS t.op = ⟨#[99]⟩) then caseL (kidL t.kids) else decide (t.kids.length = countE (partsS t.op)) && allL (kidL t.kids)) =
        ((bif decide (0 ≤ (shp t.op).2.2.1) then decide ((t.kids.length : Int) = (shp t.op).2.2.1) else !decide (t.kids = [])) && kidsT t.op 0 (kidL t.kids)) := by
      by_cases h48 : t.op = 48
      · rw [h48, show decide (partsS 48 = ⟨#[99]⟩) = true by decide, show decide (0 ≤ (shp 48).2.2.1) = false by decide]
        simp only [cond_true, cond_false]
        cases hl : t.kids with
        | nil => rfl
        | cons k l =>
          show caseL ((k.op, rightT k) :: kidL l) = (_ && kidsT 48 0 ((k.op, rightT k) :: kidL l))
          rw [caseL, kidsT, show innerB 48 0 = false from rfl, kids_arms l 0]
          simp
      · obtain ⟨h4, h5⟩ := h3 h48
        rw [decide_eq_false h5, h4, decide_eq_true (show (0 : Int) ≤ (countE (partsS t.op) : Int) by omega), kids_all h48]
        simp only [cond_true, cond_false]
        congr 1
        rw [decide_eq_decide]
        omega
    rw [hkids]
    simp only [Bool.not_false, Bool.true_and, Bool.and_assoc]
theorem allL_step {l : List Tm} {i : Nat} (hi : i < l.length) : allL (refL (l.drop i)) = (refT l[i] false && allL (refL (l.drop (i + 1)))) := by
  rw [List.drop_eq_getElem_cons hi]; rfl
theorem allL_end {l : List Tm} {i : Nat} (hi : l.length ≤ i) : allL (refL (l.drop i)) = true := by rw [List.drop_eq_nil_of_le hi]; rfl
theorem armsL_step {l : List Tm} {i : Nat} (hi : i < l.length) : armsL (refL (l.drop i)) = (refT l[i] true && (!(decide (l[i].op = 50) && decide (i + 1 < l.length)) && armsL (refL (l.drop (i + 1))))) := by
  rw [List.drop_eq_getElem_cons hi]
  show armsL ((l[i].op, refT l[i]) :: refL (l.drop (i + 1))) = _
  rw [armsL]
  have e : (!(refL (l.drop (i + 1))).isEmpty) = decide (i + 1 < l.length) := by
    rw [Bool.eq_iff_iff, Bool.not_eq_true', decide_eq_true_eq, ← Bool.not_eq_true, List.isEmpty_iff]
    unfold refL
    rw [List.map_eq_nil_iff, List.drop_eq_nil_iff]
    omega
  rw [e]
theorem armsL_end {l : List Tm} {i : Nat} (hi : l.length ≤ i) : armsL (refL (l.drop i)) = true := by rw [List.drop_eq_nil_of_le hi]; rfl
theorem caseL_step {l : List Tm} (hi : 0 < l.length) : caseL (refL l) = (refT l[0] false && armsL (refL (l.drop 1))) := by
  cases l with
  | nil => cases hi
  | cons k l => rfl
end Rw
namespace Rw
abbrev BF := List (ByteArray × Int) × List (ByteArray × Bool)
def bnd (l : List (ByteArray × Int)) (s : ByteArray) : Int := (getK l s).getD 0
def incK (l : List (ByteArray × Int)) (s : ByteArray) (d : Int) : List (ByteArray × Int) := putK l s (bnd l s + d)
def incs (l : List (ByteArray × Int)) (ss : List ByteArray) (d : Int) : List (ByteArray × Int) := ss.foldl (fun l s => incK l s d) l
def withF (g : BF → BF) (ss : List ByteArray) (x : BF) : BF := (incs (g (incs x.1 ss 1, x.2)).1 ss (-1), (g (incs x.1 ss 1, x.2)).2)
def downK (op : Int) (name arg : ByteArray) (gs : List (BF → BF)) (x : BF) : BF :=
  if op = 32 then (if bnd x.1 name = 0 then (x.1, putK x.2 name true) else x) else if op = 35 ∨ op = 49 ∨ op = 50 then withF (gs.headD id) [arg] x else if op = 36 then withF (gs.headD id) [name, arg] x
  else if op = 38 then withF ((gs[1]?).getD id) [name] (gs.headD id x) else gs.foldl (fun x g => g x) x
/-- Down an expression. -/
def downF : Tm → BF → BF
  | .mk op name arg n has ann kids => downK op name arg (kids.map downF)
theorem downF_eq (t : Tm) : downF t = downK t.op t.name t.arg (t.kids.map downF) := by cases t; rw [downF]; rfl
theorem incs_snoc (l : List (ByteArray × Int)) (ss : List ByteArray) (s : ByteArray) (d : Int) : incs l (ss ++ [s]) d = incK (incs l ss d) s d := by simp [incs]
theorem incs_step {l : List (ByteArray × Int)} {ss : List ByteArray} {d : Int} {i : Nat} (h : i < ss.length) : incs l (ss.take (i + 1)) d = putK (incs l (ss.take i) d) ss[i] (bnd (incs l (ss.take i) d) ss[i] + d) := by
  rw [List.take_succ_eq_append_getElem h, incs_snoc]; rfl
theorem bnd_inc (l : List (ByteArray × Int)) (s : ByteArray) (d : Int) (x : ByteArray) : bnd (incK l s d) x = bnd l x + if x = s then d else 0 := by
  unfold incK
  by_cases h : x = s
  · subst h; rw [if_pos rfl]; unfold bnd; rw [getK_put, if_pos rfl]; rfl
  · rw [if_neg h]; unfold bnd; rw [getK_put, if_neg h]; omega
def times (ss : List ByteArray) (x : ByteArray) : Int := ((ss.filter fun s => decide (x = s)).length : Int)
theorem bnd_incs (d : Int) (x : ByteArray) : ∀ (ss : List ByteArray) (l : List (ByteArray × Int)), bnd (incs l ss d) x = bnd l x + times ss x * d
  | [], l => by simp [incs, times]
  | s :: ss, l => by
    show bnd (incs (incK l s d) ss d) x = _
    rw [bnd_incs d x ss, bnd_inc]
    unfold times
    by_cases h : x = s
    · subst h; simp [Int.add_mul]; omega
    · simp [h]
theorem times_le (ss : List ByteArray) (x : ByteArray) : 0 ≤ times ss x ∧ times ss x ≤ ss.length := by
  unfold times
  have := List.length_filter_le (fun s => decide (x = s)) ss
  omega
theorem down_same (t : Tm) : ∀ (x : BF) (s : ByteArray), bnd (downF t x).1 s = bnd x.1 s := by
  refine Tm.ind (p := fun t => ∀ (x : BF) (s : ByteArray), bnd (downF t x).1 s = bnd x.1 s) (fun t ih => ?_) t
  intro x s
  have hw : ∀ (g : BF → BF) (ss : List ByteArray) (x : BF), (∀ x, bnd (g x).1 s = bnd x.1 s) → bnd (withF g ss x).1 s = bnd x.1 s := by
    intro g ss x hg
    show bnd (incs (g (incs x.1 ss 1, x.2)).1 ss (-1)) s = _
    rw [bnd_incs, hg, bnd_incs]
    omega
  have hhead : ∀ x, bnd ((t.kids.map downF).headD id x).1 s = bnd x.1 s := by
    intro x
    cases h : t.kids with
    | nil => rfl
    | cons k l => exact ih k (by rw [h]; exact List.mem_cons_self) x s
  have hone : ∀ x, bnd ((((t.kids.map downF)[1]?).getD id) x).1 s = bnd x.1 s := by
    intro x
    cases h : (t.kids.map downF)[1]? with
    | none => rfl
    | some g =>
      rw [List.getElem?_map] at h
      cases hk : t.kids[1]? with
      | none => rw [hk] at h; cases h
      | some k =>
        rw [hk] at h
        cases h
        exact ih k (List.mem_of_getElem? hk) x s
  have hfold : ∀ (l : List Tm) (x : BF), (∀ k ∈ l, k ∈ t.kids) → bnd ((l.map downF).foldl (fun x g => g x) x).1 s = bnd x.1 s := by
    intro l
    induction l with
    | nil => intro x _; rfl
    | cons k l ihl =>
      intro x hk
      rw [List.map_cons, List.foldl_cons, ihl _ (fun y hy => hk y (List.mem_cons_of_mem _ hy))]
      exact ih k (hk k List.mem_cons_self) x s
  rw [downF_eq]
  unfold downK
  split
  · split <;> rfl
  · split
    · exact hw _ _ _ hhead
    · split
      · exact hw _ _ _ hhead
      · split
        · rw [hw _ _ _ hone, hhead]
        · exact hfold _ _ (fun k h => h)
def foldD (l : List Tm) (x : BF) : BF := (l.map downF).foldl (fun x g => g x) x
theorem foldD_step {l : List Tm} {i : Nat} (h : i < l.length) (x : BF) : foldD (l.take (i + 1)) x = downF l[i] (foldD (l.take i) x) := by
  unfold foldD
  rw [List.take_succ_eq_append_getElem h, List.map_append, List.foldl_append]; rfl
theorem foldD_same (s : ByteArray) : ∀ (l : List Tm) (x : BF), bnd (foldD l x).1 s = bnd x.1 s
  | [], _ => rfl
  | k :: l, x => by
    show bnd (foldD l (downF k x)).1 s = _
    rw [foldD_same s l, down_same]
theorem down_var {t : Tm} (h : t.op = 32) (x : BF) : downF t x = if bnd x.1 t.name = 0 then (x.1, putK x.2 t.name true) else x := by rw [downF_eq, downK, if_pos h]
theorem headD_map {l : List Tm} (h : 0 < l.length) : (l.map downF).headD id = downF l[0] := by
  cases l with
  | nil => cases h
  | cons k l => rfl
theorem oneD_map {l : List Tm} (h : 1 < l.length) : ((l.map downF)[1]?).getD id = downF l[1] := by
  rw [List.getElem?_map, List.getElem?_eq_getElem h]; rfl
theorem down_one {t : Tm} (h : t.op = 35 ∨ t.op = 49 ∨ t.op = 50) (h1 : 0 < t.kids.length) (x : BF) : downF t x = withF (downF t.kids[0]) [t.arg] x := by
  rw [downF_eq, downK, if_neg (by omega), if_pos h, headD_map h1]
theorem down_rec {t : Tm} (h : t.op = 36) (h1 : 0 < t.kids.length) (x : BF) : downF t x = withF (downF t.kids[0]) [t.name, t.arg] x := by
  rw [downF_eq, downK, if_neg (by omega), if_neg (by omega), if_pos h, headD_map h1]
theorem down_let {t : Tm} (h : t.op = 38) (h1 : 1 < t.kids.length) (x : BF) : downF t x = withF (downF t.kids[1]) [t.name] (downF t.kids[0] x) := by
  rw [downF_eq, downK, if_neg (by omega), if_neg (by omega), if_neg (by omega), if_pos h, headD_map (by omega), oneD_map h1]
theorem down_else {t : Tm} (h : t.op ≠ 32 ∧ t.op ≠ 35 ∧ t.op ≠ 49 ∧ t.op ≠ 50 ∧ t.op ≠ 36 ∧ t.op ≠ 38) (x : BF) : downF t x = foldD t.kids x := by
  rw [downF_eq, downK, if_neg (by omega), if_neg (by omega), if_neg (by omega), if_neg (by omega)]; rfl
theorem kidsT_each {op : Int} : ∀ (l : List Tm) (i : Nat), kidsT op i (kidL l) = true → ∀ k ∈ l, ∃ b, rightT k b = true
  | [], _, _, k, hk => by cases hk
  | y :: l, i, h, k, hk => by
    have h' : kidsT op i ((y.op, rightT y) :: kidL l) = true := h
    rw [kidsT] at h'
    simp only [Bool.and_eq_true] at h'
    rcases List.mem_cons.1 hk with rfl | hk
    · exact ⟨_, h'.2.1⟩
    · exact kidsT_each l _ h'.2.2 k hk
theorem right_kids {t : Tm} {b : Bool} (h : rightT t b = true) : (t.op ≠ 48 → (t.kids.length : Int) = (shp t.op).2.2.1) ∧ (∀ k ∈ t.kids, ∃ b', rightT k b' = true) ∧ (32 ≤ t.op ∧ t.op < 52) ∧ (t.op = 48 → 0 < t.kids.length) := by
  rw [rightT_eq] at h
  simp only [Bool.and_eq_true] at h
  obtain ⟨hh, hk⟩ := h
  unfold headT at hh
  simp only [Bool.and_eq_true] at hh
  have hv : ¬ (t.op < 32 ∨ 52 ≤ t.op) := fun e => by rw [shp_no e] at hh; exact absurd hh.1 (by simp)
  have hl := hh.2.2.2.2.2.2
  refine ⟨fun e => ?_, kidsT_each _ _ hk, by omega, fun e => ?_⟩
  · have h1 := ((shp_parts hv).2.2 e).1
    rw [h1, decide_eq_true (show (0 : Int) ≤ _ by omega)] at hl
    rw [h1]
    simpa using hl
  · rw [e] at hl
    simp [shp] at hl
    exact List.length_pos_iff.2 hl
theorem shp_one {op : Int} (h : op = 35 ∨ op = 36 ∨ op = 49 ∨ op = 50 ∨ op = 46) : (shp op).2.2.1 = 1 ∧ op ≠ 48 := by
  rcases h with h | h | h | h | h <;> subst h <;> exact ⟨by decide, by decide⟩
theorem shp_two {op : Int} (h : op = 38 ∨ op = 42) : (shp op).2.2.1 = 2 ∧ op ≠ 48 := by
  rcases h with h | h <;> subst h <;> exact ⟨by decide, by decide⟩
end Rw
