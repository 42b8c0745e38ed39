/- Part 4 of the proof: rules, plain laws and walks, merged out of smaller texts. -/
import Derived.Test.YtpoahmeacjggfaaE3
namespace Go.Proofs.Ytpoahmeacjggfaa
open Go Rw Go.RowKit
set_option maxRecDepth 100000
theorem of_spec (l : List Fld) (e : Ty) (M : Nat → Prop) (w : World) (v u : Value) (hs : Sl M w v l) (he : Rep.R M w u e) (hlow0 : Low M w) :
  Calls Try.prog 24 #[v, u] w (Ret fun r w' => Rep.R M w' r (ofF l e) ∧ Ext w w') := by
 have Lw := hlow0
 have hB := lR w.heap.size
 have hE := Below.refl w.heap.size w
 have hsub : ∀ b, M b → M b := fun _ h => h
 obtain ⟨kve, rfl, ope, nme, n64e, hke⟩ := tO he
 have hL := hs.lt
 refine cN (n := 28) Try.func24 rfl rfl rfl ?_
 refine q0 ?_
 refine lC (o_box rfl rfl rfl ?_)
 intro b3 w1 hb_b3 ew1 h3
 replace h3 : Box _ b3 25 [.int .u8 e.op, .string e.name, .int .i64 e.n, kve] := h3
 replace h3 := h3.at (nO Lw hb_b3)
 replace hE := ew1.bl hE hB
 replace he := Rep.Y he ew1
 replace hke := hke.Y ew1
 replace hs := hs.Y ew1
 replace Lw := Lw.Y ew1
 replace hB := ew1.z hB
 refine lC (o_new tK rfl rfl rfl ?_)
 intro b4 w2 qb4 ew2 hb4
 have sw2 := Stp.add ew2 Lw hB (lQ qb4.symm) hb4.lt
 have h4 : MB w.heap.size (Rw.Add M b4) w2 b4 25 [.int .u8 0, .string ⟨#[]⟩, .int .i64 0, .slice none 0 0] := MB.mk' hb4 qb4 hB
 replace hE := hE.trans sw2.below
 replace he := Rep.sp he sw2
 replace hke := hke.sp sw2
 replace hs := hs.sp sw2
 replace h3 := h3.sp sw2
 replace hsub := sw2.sb hsub
 replace Lw := sw2.low
 replace hB := sw2.z hB
 refine q1 (q0 ?_)
 refine lC (oL tK (fun j v hv => h3.cell j v hv) rfl rfl rfl rfl rfl rfl ?_)
 refine lC (o_new tK rfl rfl rfl ?_)
 intro b5 w3 qb5 ew3 hb5
 have ne_h4_h5 : b4 ≠ b5 := by have := h4.lt; omega
 have sw3 := Stp.add ew3 Lw hB (lQ qb5.symm) hb5.lt
 have h5 : MB w.heap.size (Rw.Add (Rw.Add M b4) b5) w3 b5 25 [.int .u8 0, .string ⟨#[]⟩, .int .i64 0, .slice none 0 0] := MB.mk' hb5 qb5 hB
 replace h4 := h4.sp sw3 (ew3.block b4 h4.lt)
 replace hE := hE.trans sw3.below
 replace he := Rep.sp he sw3
 replace hke := hke.sp sw3
 replace hs := hs.sp sw3
 replace h3 := h3.sp sw3
 replace hsub := sw3.sb hsub
 replace Lw := sw3.low
 replace hB := sw3.z hB
 refine lC (o_st tK h5.box rfl rfl rfl rfl (Rep.one he) rfl rfl ?_)
 intro w4 hw4 qw4 bew4
 have uw4 : UpdB _ _ _ := ⟨qw4, bew4⟩
 have sw4 := uw4.sp h5.inM Lw h5.ge
 have frw4 := qw4.2
 replace h4 := h4.sp sw4 (frw4 b4 h4.lt ne_h4_h5)
 replace hE := hE.trans sw4.below
 replace he := Rep.sp he sw4
 replace hke := hke.sp sw4
 replace hs := hs.sp sw4
 replace h3 := h3.sp sw4
 replace hsub := sw4.sb hsub
 replace Lw := sw4.low
 replace hB := sw4.z hB
 replace h5 : MB w.heap.size _ w4 b5 _ [.int .u8 e.op, .string e.name, .int .i64 e.n, kve] := ⟨hw4, h5.inM, h5.ge⟩
 have hsub0 := hsub
 refine q1 (cS (q0 (lP 1 tK rfl ?_)))
 refine lC (o_len tK hs rfl rfl rfl rfl rfl ?_)
 refine lC (o_ai rfl rfl rfl (by omega) rfl rfl ?_)
 refine lP 1 tK rfl (q1 (cB ?_))
 refine c_loop2 (X := Nat) (Y := Value) (fun j kv => [(0, v), (4, .pointer (some ⟨b4, 0, none⟩)), (5, .pointer (some ⟨b5, 0, none⟩)), (6, .int .i64 ((j : Int) - 1))]) (fun j kv w' => j ≤ l.length ∧ Sl (Rw.Add (Rw.Add M b4) b5) w' v l ∧ MB w.heap.size (Rw.Add (Rw.Add M b4) b5) w' b5 25 [.int .u8 (ofF (l.drop j) e).op, .string (ofF (l.drop j) e).name, .int .i64 (ofF (l.drop j) e).n, kv] ∧ Rep.R (Rw.Add (Rw.Add M b4) b5) w' (.agg #[.int .u8 (ofF (l.drop j) e).op, .string (ofF (l.drop j) e).name, .int .i64 (ofF (l.drop j) e).n, kv]) (ofF (l.drop j) e) ∧ MB w.heap.size (Rw.Add (Rw.Add M b4) b5) w' b4 25 [.int .u8 0, .string ⟨#[]⟩, .int .i64 0, .slice none 0 0] ∧ Low (Rw.Add (Rw.Add M b4) b5) w' ∧ Below w.heap.size w w' ∧ w.heap.size ≤ w'.heap.size) (fun j kv => j) (l.length) (kve) (s4 rfl rfl rfl rfl) ?_ ?_
 ·refine ⟨lR _, hs, ?_⟩
  rw [List.drop_length]
  exact ⟨h5, he, h4, Lw, hE, hB⟩
 rintro j kv w5 ⟨hj, hs, h5, hr, h4, Lw, hE, hB⟩
 refine cS (q0 (lP 2 tK rfl (q1 ?_)))
 refine cP _ rfl (fun hc => ?_) (fun hc => ?_)
 ·obtain ⟨j0, rfl⟩ : ∃ j0, j = j0 + 1 := ⟨j - 1, by omega⟩
  have hj0 : j0 < l.length := by omega
  have hT := ofF_drop hj0 e
  refine cK (xS (cS (cB ?_)))
  refine a_beg Ext rfl ?_
  intro w6 ew6
  replace h5 := h5.Y Lw hB ew6
  replace h4 := h4.Y Lw hB ew6
  replace hE := ew6.bl hE hB
  replace hs := hs.Y ew6
  replace hr := Rep.Y hr ew6
  replace Lw := Lw.Y ew6
  replace hB := ew6.z hB
  have hS : Ext w6 w6 := ext_refl _
  have D_hs := hs
  have D_h5 := h5.box
  have D_h4 := h4.box
  refine a_p 0 tK rfl rfl rfl rfl (by kernel_rfl) i3 hS ?_
  refine a_p 1 tK rfl rfl rfl rfl (by kernel_rfl) i3 hS ?_
  refine a_ixS 2 tK D_hs (gE hj0) rfl rfl rfl (by omega) rfl rfl rfl rfl rfl rfl (by kernel_rfl) i4 hS ?_
  intro ebq1 eoq1 euq1 hrq1 hatq1
  obtain ⟨szq1, kvq1, rfl, hyq1⟩ := fld_open hrq1
  replace hatq1 : At _ w6 ebq1 eoq1 [.string l[j0].name, .int .u8 l[j0].ty.op, .string l[j0].ty.name, .int .i64 l[j0].ty.n, kvq1] := hatq1
  refine a_p 3 tK rfl rfl rfl rfl (by kernel_rfl) i3 hS ?_
  refine a_ld 4 tK (fun _ hs => (hatq1.Y hs).cell 0 _ rfl) rfl rfl rfl rfl rfl rfl (by kernel_rfl) i3 hS ?_
  refine a_p 5 tK rfl rfl rfl rfl (by kernel_rfl) i3 hS ?_
  refine a_p 6 tK rfl rfl rfl rfl (by kernel_rfl) i3 hS ?_
  refine a_ixS 7 tK D_hs (gE hj0) rfl rfl rfl (by omega) rfl rfl rfl rfl rfl rfl (by kernel_rfl) i4 hS ?_
  intro ebq2 eoq2 euq2 hrq2 hatq2
  obtain ⟨szq2, kvq2, rfl, hyq2⟩ := fld_open hrq2
  replace hatq2 : At _ w6 ebq2 eoq2 [.string l[j0].name, .int .u8 l[j0].ty.op, .string l[j0].ty.name, .int .i64 l[j0].ty.n, kvq2] := hatq2
  refine a_p 8 tK rfl rfl rfl rfl (by kernel_rfl) i3 hS ?_
  refine a_lds 9 tK (fun _ hs j v hv => ((hatq2.Y hs)).drop 1 (sub := [.int .u8 l[j0].ty.op, .string l[j0].ty.name, .int .i64 l[j0].ty.n, kvq2]) rfl j v hv) rfl rfl rfl rfl rfl rfl rfl (by kernel_rfl) i3 hS ?_
  refine a_lds 10 tK (fun _ hs j v hv => (D_h5.Y hs).cell j v hv) rfl rfl rfl rfl rfl rfl rfl (by kernel_rfl) i3 hS ?_
  refine a_bar 11 rfl (by kernel_rfl) (by kernel_rfl) (oK fo63 rfl rfl rfl (field_spec _ _ _ _ _ _ _ szq1 hyq2 hr Lw) ?_)
  rintro vf w7 ⟨hf, ew7⟩
  replace hf : Rep.R _ _ _ (Ty.mk 11 l[j0].name 0 [l[j0].ty, (ofF (l.drop (j0 + 1)) e)]) := hf
  replace hS := hS.then ew7
  replace h5 := h5.Y Lw hB ew7
  replace h4 := h4.Y Lw hB ew7
  replace hE := ew7.bl hE hB
  replace hs := hs.Y ew7
  replace hr := Rep.Y hr ew7
  replace hrq1 := Rep.Y hrq1 ew7
  replace hyq1 := Rep.Y hyq1 ew7
  replace hatq1 := hatq1.Y ew7
  replace hrq2 := Rep.Y hrq2 ew7
  replace hyq2 := Rep.Y hyq2 ew7
  replace hatq2 := hatq2.Y ew7
  replace Lw := Lw.Y ew7
  replace hB := ew7.z hB
  obtain ⟨kvn, rfl, opn, nmn, n64n, hkn⟩ := tO hf
  refine a_barS Ext 12 rfl (by kernel_rfl) (by kernel_rfl) (o_st tK h5.box rfl rfl rfl rfl (Rep.one hf) rfl rfl ?_)
  intro w8 hw8 qw8 bew8
  have uw8 : UpdB _ _ _ := ⟨qw8, bew8⟩
  have sw8 := uw8.sp h5.inM Lw h5.ge
  have frw8 := qw8.2
  replace h4 := h4.sp sw8 (frw8 b4 h4.lt ne_h4_h5)
  replace hE := hE.trans sw8.below
  replace hs := hs.sp sw8
  replace hr := Rep.sp hr sw8
  replace hrq1 := Rep.sp hrq1 sw8
  replace hyq1 := Rep.sp hyq1 sw8
  replace hatq1 := hatq1.sp sw8
  replace hrq2 := Rep.sp hrq2 sw8
  replace hyq2 := Rep.sp hyq2 sw8
  replace hatq2 := hatq2.sp sw8
  replace hf := Rep.sp hf sw8
  replace Lw := sw8.low
  replace hB := sw8.z hB
  replace hS : Ext w8 w8 := ext_refl _
  replace h5 : MB w.heap.size _ w8 b5 _ [.int .u8 (Ty.mk 11 l[j0].name 0 [l[j0].ty, (ofF (l.drop (j0 + 1)) e)]).op, .string (Ty.mk 11 l[j0].name 0 [l[j0].ty, (ofF (l.drop (j0 + 1)) e)]).name, .int .i64 (Ty.mk 11 l[j0].name 0 [l[j0].ty, (ofF (l.drop (j0 + 1)) e)]).n, kvn] := ⟨hw8, h5.inM, h5.ge⟩
  have D_hs := hs
  have D_h5 := h5.box
  have D_h4 := h4.box
  have D_hatq1 := hatq1
  have D_hatq2 := hatq2
  refine a_end (by kernel_rfl) ?_
  refine x_blk (xS (cG (lP 1 tK rfl ?_)))
  refine lC (o_ai rfl rfl rfl (by omega) rfl rfl ?_)
  refine lP 1 tK rfl (lN ?_)
  exact xN (j0) (kvn) (s4 rfl rfl rfl (gN rfl (by omega))) ⟨by omega, hs, by rw [hT]; exact h5, by rw [hT]; exact hf, h4, Lw, hE, hB⟩ (by omega)
 obtain rfl : j = 0 := by omega
 refine c_exit (xE (xE (x_blkE (xS (q0 ?_)))))
 refine lC (oL tK (fun j v hv => h5.cell j v hv) rfl rfl rfl rfl rfl rfl ?_)
 refine lC (o_st tK h4.box rfl rfl rfl rfl (Rep.one hr) rfl rfl ?_)
 intro w9 hw9 qw9 bew9
 have uw9 : UpdB _ _ _ := ⟨qw9, bew9⟩
 have sw9 := uw9.sp h4.inM Lw h4.ge
 have frw9 := qw9.2
 replace h5 := h5.sp sw9 (frw9 b5 h5.lt ne_h4_h5.symm)
 replace hE := hE.trans sw9.below
 replace hs := hs.sp sw9
 replace hr := Rep.sp hr sw9
 replace Lw := sw9.low
 replace hB := sw9.z hB
 replace h4 : MB w.heap.size _ w9 b4 _ [.int .u8 (ofF (l.drop 0) e).op, .string (ofF (l.drop 0) e).name, .int .i64 (ofF (l.drop 0) e).n, kv] := ⟨hw9, h4.inM, h4.ge⟩
 refine q1 (cR ?_)
 refine x_ret1s tK (fun j v hv => h4.cell j v hv) rfl rfl rfl rfl rfl ?_
 exact ⟨Rep.wk hr (fun b _ h => hsub0 b h), hE⟩
theorem fields_own (t : Ty) (M : Nat → Prop) (w : World) (v : Value) (hsh : shapeF t 114 = true) (ht : Rep.R M w v t) (hlow0 : Low M w) (hsz : psz t ≤ 2000000) :
  Calls Try.prog 26 #[v] w (Ret fun r w' => ∃ x tv M', r = .tuple #[x, tv] ∧ OwnSl 32 w.heap.size M' w' x (fieldsF (spineF t).1) ∧ Rep.R M' w' tv (spineF t).2 ∧ Stp w.heap.size M M' w w') := by
 have Lw := hlow0
 have hB := lR w.heap.size
 have hE := Below.refl w.heap.size w
 have hsub : ∀ b, M b → M b := fun _ h => h
 obtain ⟨kv, rfl, op, nm, n64, hk⟩ := tO ht
 have hsl := spine_len t
 have hT : Stp w.heap.size M M w w := Stp.refl Lw
 refine cN (n := 61) Try.func26 rfl rfl rfl ?_
 refine q0 ?_
 refine lC (o_box rfl rfl rfl ?_)
 intro b1 w1 qb1 ew1 hb1
 have sw1 := Stp.add ew1 Lw hB (lQ qb1.symm) hb1.lt
 have h1 : MB w.heap.size (Rw.Add M b1) w1 b1 25 [.int .u8 t.op, .string t.name, .int .i64 t.n, kv] := MB.mk' hb1 qb1 hB
 replace hT := hT.then sw1
 replace hE := hE.trans sw1.below
 replace ht := Rep.sp ht sw1
 replace hk := hk.sp sw1
 replace hsub := sw1.sb hsub
 replace Lw := sw1.low
 replace hB := sw1.z hB
 refine lP 1 tK rfl ?_
 refine lC (o_new tK rfl rfl rfl ?_)
 intro b3 w2 qb3 ew2 hb3
 have ne_h1_h3 : b1 ≠ b3 := by have := h1.lt; omega
 have sw2 := Stp.add ew2 Lw hB (lQ qb3.symm) hb3.lt
 have h3 : MB w.heap.size (Rw.Add (Rw.Add M b1) b3) w2 b3 25 [.int .u8 0, .string ⟨#[]⟩, .int .i64 0, .slice none 0 0] := MB.mk' hb3 qb3 hB
 replace hT := hT.then sw2
 replace h1 := h1.sp sw2 (ew2.block b1 h1.lt)
 replace hE := hE.trans sw2.below
 replace ht := Rep.sp ht sw2
 replace hk := hk.sp sw2
 replace hsub := sw2.sb hsub
 replace Lw := sw2.low
 replace hB := sw2.z hB
 refine q1 (q0 (lP 1 tK rfl (q1 (cS (cB ?_)))))
 have d_ho_h1 : ∀ x, (.slice none 0 0 : Value).ownBlock = some x → x ≠ b1 := fun x hx => by simp [Value.ownBlock] at hx
 have d_ho_h3 : ∀ x, (.slice none 0 0 : Value).ownBlock = some x → x ≠ b3 := fun x hx => by simp [Value.ownBlock] at hx
 refine c_loop5 (X := Ty) (Y := Value) (Z := Value) (U := Nat → Prop) (V := List Fld) (fun t2 kv v M1 dn => [(1, .pointer (some ⟨b1, 0, none⟩)), (3, .pointer (some ⟨b3, 0, none⟩)), (4, v)]) (fun t2 kv v M1 dn w' => shapeF t2 114 = true ∧ dn ++ (spineF t2).1 = (spineF t).1 ∧ (spineF t2).2 = (spineF t).2 ∧ (0 ≤ t2.op ∧ t2.op ≤ 255) ∧ t2.name.size < 140737488355328 ∧ I64 t2.n ∧ OwnSl 32 w.heap.size M1 w' v (fieldsF dn) ∧ MB w.heap.size M1 w' b1 25 [.int .u8 t2.op, .string t2.name, .int .i64 t2.n, kv] ∧ MB w.heap.size M1 w' b3 25 [.int .u8 0, .string ⟨#[]⟩, .int .i64 0, .slice none 0 0] ∧ (∀ x, (v : Value).ownBlock = some x → x ≠ b1) ∧ (∀ x, (v : Value).ownBlock = some x → x ≠ b3) ∧ Sl M1 w' kv t2.kids ∧ Stp w.heap.size M M1 w w' ∧ Low M1 w' ∧ (∀ b, M b → M1 b) ∧ Below w.heap.size w w' ∧ w.heap.size ≤ w'.heap.size) (fun t2 kv v M1 dn => psz t2) (t) (kv) (.slice none 0 0) ((Rw.Add (Rw.Add M b1) b3)) ([]) (s3 rfl rfl rfl) ?_ ?_
 ·exact ⟨hsh, rfl, rfl, op, nm, n64, own_nil, h1, h3, d_ho_h1, d_ho_h3, hk, hT, Lw, hsub, hE, hB⟩
 clear hk
 rintro t2 kv v M1 dn w3 ⟨hs2, hacc, htl, op2, nm2, n2, ho, h1, h3, d_ho_h1, d_ho_h3, hk, hT, Lw, hsub, hE, hB⟩
 refine cS (q0 (lP 1 tK rfl ?_))
 refine lC (oD tK (h1.cell 0 _ rfl) rfl rfl rfl rfl rfl ?_)
 refine lP 1 tK rfl (q1 ?_)
 refine cP _ rfl (fun hc => ?_) (fun hc => ?_)
 ·obtain ⟨k, r, hks, hsk, hsr⟩ := shape_row hs2 (by omega)
  have hsp := spine_yes (by omega) hks
  have hlen : (fieldsF dn).length < (spineF t).1.length := by rw [fieldsF_len, ← hacc, hsp, List.length_append, List.length_cons]; omega
  refine cK (xS (cB (cS ?_)))
  refine a_beg Ext rfl ?_
  intro w4 ew4
  replace hT := hT.then (Stp.Y ew4 Lw hB)
  replace ho := ho.Y Lw hB ew4
  replace h1 := h1.Y Lw hB ew4
  replace h3 := h3.Y Lw hB ew4
  replace hE := ew4.bl hE hB
  replace hk := hk.Y ew4
  replace Lw := Lw.Y ew4
  replace hB := ew4.z hB
  have hS : Ext w4 w4 := ext_refl _
  have D_h1 := h1.box
  have D_h3 := h3.box
  have D_hk := hk
  refine a_p 0 tK rfl rfl rfl rfl (by kernel_rfl) i3 hS ?_
  refine a_ld 1 tK (fun _ hs => (D_h1.Y hs).cell 1 _ rfl) rfl rfl rfl rfl rfl rfl (by kernel_rfl) i3 hS ?_
  refine a_p 2 tK rfl rfl rfl rfl (by kernel_rfl) i3 hS ?_
  refine a_ld 3 tK (fun _ hs => (D_h1.Y hs).cell 3 _ rfl) rfl rfl rfl rfl rfl rfl (by kernel_rfl) i3 hS ?_
  refine a_ixS 4 tK D_hk (show t2.kids[0]? = some k by rw [hks]; rfl) rfl rfl rfl rfl rfl rfl rfl rfl rfl rfl (by kernel_rfl) i4 hS ?_
  intro ebx eox eux hyx hX
  obtain ⟨kvx, rfl, opx, nmx, n64x, hkx⟩ := tO hyx
  replace hX : At M1 w4 ebx eox [.int .u8 k.op, .string k.name, .int .i64 k.n, kvx] := hX
  refine a_lds 5 tK (fun _ hs j v hv => (hX.Y hs).cell j v hv) rfl rfl rfl rfl rfl rfl rfl (by kernel_rfl) i3 hS ?_
  refine a_build (cells := [.string t2.name, .int .u8 k.op, .string k.name, .int .i64 k.n, kvx]) (css := [[.string t2.name], [.int .u8 k.op, .string k.name, .int .i64 k.n, kvx]]) 6 bd32 rfl rfl rfl rfl rfl rfl (by kernel_rfl) i3 hS ?_
  have hfd : Rep.R _ _ (.agg #[.string t2.name, .int .u8 k.op, .string k.name, .int .i64 k.n, kvx]) (⟨t2.name, k⟩ : Fld) := fld_mk (name := t2.name) (t := k) nm2 hyx
  refine a_one 7 rfl (by kernel_rfl) (o_new tK rfl rfl rfl ?_)
  intro b5 w5 qb5 ew5 hb5
  have gS_b5 := Nat.le_trans hS.size (lQ qb5.symm)
  replace hS := hS.then ew5
  have ne_h1_h5 : b1 ≠ b5 := by have := h1.lt; omega
  have ne_h3_h5 : b3 ≠ b5 := by have := h3.lt; omega
  have d_ho_h5 : ∀ x, (v : Value).ownBlock = some x → x ≠ b5 := fun x hx => by have := (ho.lt x hx).2; omega
  have sw5 := Stp.add ew5 Lw hB (lQ qb5.symm) hb5.lt
  have h5 : MB w.heap.size (Rw.Add M1 b5) w5 b5 32 [.string ⟨#[]⟩, .int .u8 0, .string ⟨#[]⟩, .int .i64 0, .slice none 0 0] := MB.mk' hb5 qb5 hB
  replace hT := hT.then sw5
  replace ho := ho.sp sw5 (fun x hx => ew5.block x (ho.lt x hx).2)
  replace h1 := h1.sp sw5 (ew5.block b1 h1.lt)
  replace h3 := h3.sp sw5 (ew5.block b3 h3.lt)
  replace hE := hE.trans sw5.below
  replace hk := hk.sp sw5
  replace hyx := Rep.sp hyx sw5
  replace hkx := hkx.sp sw5
  replace hX := hX.sp sw5
  replace hfd := Rep.sp hfd sw5
  replace hsub := sw5.sb hsub
  replace Lw := sw5.low
  replace hB := sw5.z hB
  refine ⟨hS, ?_⟩
  refine a_barS Ext 8 rfl (by kernel_rfl) (by kernel_rfl) (o_st tK h5.box rfl rfl rfl rfl (Rep.one hfd) rfl rfl ?_)
  intro w6 hw6 qw6 bew6
  have uw6 : UpdB _ _ _ := ⟨qw6, bew6⟩
  have sw6 := uw6.sp h5.inM Lw h5.ge
  have frw6 := qw6.2
  replace hT := hT.then sw6
  replace ho := ho.sp sw6 (fun x hx => frw6 x (ho.lt x hx).2 (d_ho_h5 x hx))
  replace h1 := h1.sp sw6 (frw6 b1 h1.lt ne_h1_h5)
  replace h3 := h3.sp sw6 (frw6 b3 h3.lt ne_h3_h5)
  replace hE := hE.trans sw6.below
  replace hk := hk.sp sw6
  replace hyx := Rep.sp hyx sw6
  replace hkx := hkx.sp sw6
  replace hX := hX.sp sw6
  replace hfd := Rep.sp hfd sw6
  replace hsub := sw6.sb hsub
  replace Lw := sw6.low
  replace hB := sw6.z hB
  replace hS : Ext w6 w6 := ext_refl _
  replace h5 : MB w.heap.size _ w6 b5 _ [.string t2.name, .int .u8 k.op, .string k.name, .int .i64 k.n, kvx] := ⟨hw6, h5.inM, h5.ge⟩
  have D_h1 := h1.box
  have D_h3 := h3.box
  have D_hk := hk
  have D_hkx := hkx
  have D_hatx := hX
  have D_h5 := h5.box
  refine a_end (by kernel_rfl) ?_
  refine xS (q0 (lP 1 tK rfl (q1 (q0 (lP 1 tK rfl (q1 (cS (q0 (lP 1 tK rfl (q1 (cB ?_)))))))))))
  have d_hn_h1 : ∀ x, (.slice none 0 0 : Value).ownBlock = some x → x ≠ b1 := fun x hx => by simp [Value.ownBlock] at hx
  have d_hn_h3 : ∀ x, (.slice none 0 0 : Value).ownBlock = some x → x ≠ b3 := fun x hx => by simp [Value.ownBlock] at hx
  have dd_hn_ho : ∀ x y, (.slice none 0 0 : Value).ownBlock = some x → (v : Value).ownBlock = some y → x ≠ y := fun x y hx => by simp [Value.ownBlock] at hx
  have d_hn_h5 : ∀ x, (.slice none 0 0 : Value).ownBlock = some x → x ≠ b5 := fun x hx => by simp [Value.ownBlock] at hx
  refine c_loop5 (X := Nat) (Y := Value) (Z := Nat → Prop) (U := Bool) (V := List Fld) (fun i v2 M2 bb nx => [(1, .pointer (some ⟨b1, 0, none⟩)), (3, .pointer (some ⟨b3, 0, none⟩)), (4, v), (5, .pointer (some ⟨b5, 0, none⟩)), (6, v2), (7, .bool bb), (8, .int .i64 (i : Nat))]) (fun i v2 M2 bb nx w' => i ≤ (fieldsF dn).length ∧ InsP (⟨t2.name, k⟩ : Fld) (fieldsF dn) i bb nx ∧ OwnSl 32 w.heap.size M2 w' v (fieldsF dn) ∧ OwnSl 32 w.heap.size M2 w' v2 nx ∧ MB w.heap.size M2 w' b1 25 [.int .u8 t2.op, .string t2.name, .int .i64 t2.n, kv] ∧ MB w.heap.size M2 w' b3 25 [.int .u8 0, .string ⟨#[]⟩, .int .i64 0, .slice none 0 0] ∧ MB w.heap.size M2 w' b5 32 [.string t2.name, .int .u8 k.op, .string k.name, .int .i64 k.n, kvx] ∧ Rep.R M2 w' (.agg #[.string t2.name, .int .u8 k.op, .string k.name, .int .i64 k.n, kvx]) (⟨t2.name, k⟩ : Fld) ∧ (∀ x, (v : Value).ownBlock = some x → x ≠ b1) ∧ (∀ x, (v : Value).ownBlock = some x → x ≠ b3) ∧ (∀ x, (v : Value).ownBlock = some x → x ≠ b5) ∧ (∀ x, (v2 : Value).ownBlock = some x → x ≠ b1) ∧ (∀ x, (v2 : Value).ownBlock = some x → x ≠ b3) ∧ (∀ x y, (v2 : Value).ownBlock = some x → (v : Value).ownBlock = some y → x ≠ y) ∧ (∀ x, (v2 : Value).ownBlock = some x → x ≠ b5) ∧ Sl M2 w' kv t2.kids ∧ Stp w.heap.size M M2 w w' ∧ Low M2 w' ∧ (∀ b, M b → M2 b) ∧ Below w.heap.size w w' ∧ w.heap.size ≤ w'.heap.size) (fun i v2 M2 bb nx => (fieldsF dn).length - i) (0) (.slice none 0 0) ((Rw.Add M1 b5)) (false) ([]) (s7 rfl rfl rfl rfl rfl rfl rfl) ?_ ?_
  ·exact ⟨Nat.zero_le _, InsP.start _ _, ho, own_nil, h1, h3, h5, hfd, d_ho_h1, d_ho_h3, d_ho_h5, d_hn_h1, d_hn_h3, dd_hn_ho, d_hn_h5, hk, hT, Lw, hsub, hE, hB⟩
  rintro i v2 M2 bb nx w7 ⟨hi, hip, ho, hn, h1, h3, h5, hfd, d_ho_h1, d_ho_h3, d_ho_h5, d_hn_h1, d_hn_h3, dd_hn_ho, d_hn_h5, hk, hT, Lw, hsub, hE, hB⟩
  have hlx := hip.len
  refine cS (q0 (lP 2 tK rfl ?_))
  refine lC (o_lenO tK ho rfl rfl rfl rfl rfl ?_)
  refine lP 1 tK rfl (q1 ?_)
  refine cP _ rfl (fun hc1 => ?_) (fun hc1 => ?_)
  ·have hil : i < (fieldsF dn).length := by omega
   refine cK (xS (cS (cB (cS (cS ?_)))))
   refine a_beg Ext rfl ?_
   intro w8 ew8
   replace hT := hT.then (Stp.Y ew8 Lw hB)
   replace ho := ho.Y Lw hB ew8
   replace hn := hn.Y Lw hB ew8
   replace h1 := h1.Y Lw hB ew8
   replace h3 := h3.Y Lw hB ew8
   replace h5 := h5.Y Lw hB ew8
   replace hE := ew8.bl hE hB
   replace hfd := Rep.Y hfd ew8
   replace hk := hk.Y ew8
   replace Lw := Lw.Y ew8
   replace hB := ew8.z hB
   have hS : Ext w8 w8 := ext_refl _
   have D_h1 := h1.box
   have D_h3 := h3.box
   have D_h5 := h5.box
   have D_hk := hk
   refine a_p 0 tK rfl rfl rfl rfl (by kernel_rfl) i3 hS ?_
   refine a_p 1 tK rfl rfl rfl rfl (by kernel_rfl) i3 hS ?_
   refine a_p 2 tK rfl rfl rfl rfl (by kernel_rfl) i3 hS ?_
   refine a_splitB 27 _ rfl (fun hbb => ?_) (fun hbb => ?_)
   ·refine a_p 3 tK rfl rfl rfl rfl (by kernel_rfl) i3 hS ?_
    refine a_ld 4 tK (fun _ hs => (D_h5.Y hs).cell 0 _ rfl) rfl rfl rfl rfl rfl rfl (by kernel_rfl) i3 hS ?_
    refine a_p 5 tK rfl rfl rfl rfl (by kernel_rfl) i3 hS ?_
    refine a_p 6 tK rfl rfl rfl rfl (by kernel_rfl) i3 hS ?_
    refine a_ixO 7 tK ho (gE hil) rfl rfl rfl rfl rfl rfl rfl rfl rfl rfl (by kernel_rfl) i4 hS ?_
    intro ibe0 iue0 hobe0 hre0 hate0
    obtain ⟨sze0, kve0, rfl, hye0⟩ := fld_open hre0
    replace hate0 : At NoM w8 ibe0 _ [.string (fieldsF dn)[i].name, .int .u8 (fieldsF dn)[i].ty.op, .string (fieldsF dn)[i].ty.name, .int .i64 (fieldsF dn)[i].ty.n, kve0] := ⟨(ho.lt _ hobe0).2, fun h => h, hate0.cell⟩
    refine a_p 8 tK rfl rfl rfl rfl (by kernel_rfl) i3 hS ?_
    refine a_ld 9 tK (fun _ hs => (hate0.Y hs).cell 0 _ rfl) rfl rfl rfl rfl rfl rfl (by kernel_rfl) i3 hS ?_
    refine a_p 10 tK rfl rfl rfl rfl (by kernel_rfl) i3 hS ?_
    refine a_p 11 tK rfl rfl rfl rfl (by kernel_rfl) i3 hS ?_
    refine a_end (by kernel_rfl) ?_
    refine xS ?_
    refine c_if _ rfl (fun hc2 => ?_) (fun hc2 => ?_)
    ·rw [sLt_cmpN] at hc2
     replace hc2 := of_decide_eq_true hc2
     refine q0 (lP 1 tK rfl ?_)
     refine lC (oL tK (fun j v hv => h5.cell j v hv) rfl rfl rfl rfl rfl rfl ?_)
     refine lC (o_bs tK rfl rfl rfl rfl rfl rfl rfl (sz1 rfl) rfl rfl rfl ?_)
     intro bw9 w9 qbw9 ew9 hbw9
     have nbw9 := nO Lw qbw9
     replace hT := hT.then (Stp.Y ew9 Lw hB)
     replace ho := ho.Y Lw hB ew9
     replace hn := hn.Y Lw hB ew9
     replace h1 := h1.Y Lw hB ew9
     replace h3 := h3.Y Lw hB ew9
     replace h5 := h5.Y Lw hB ew9
     replace hE := ew9.bl hE hB
     replace hfd := Rep.Y hfd ew9
     replace hk := hk.Y ew9
     replace hre0 := Rep.Y hre0 ew9
     replace hye0 := Rep.Y hye0 ew9
     replace Lw := Lw.Y ew9
     replace hB := ew9.z hB
     refine lC (o_app1 tK hn hbw9 nbw9 hfd Lw hB rfl rfl rfl rfl rfl rfl rfl (by (try simp only [List.length_append, List.length_cons, List.length_nil]); omega) (by show (_ + _) * 72 ≤ _; (try simp only [List.length_append, List.length_cons, List.length_nil]); omega) rfl rfl ?_)
     intro vw10 w10 Mw10 hw10 sw10 frw10 blw10
     have zd_hn_h1 := d_hn_h1
     replace d_hn_h1 : ∀ x, (vw10 : Value).ownBlock = some x → x ≠ b1 := fun x hx => (blw10 x hx).elim (d_hn_h1 x) (fun h e => by have := h1.lt; omega)
     have zd_hn_h3 := d_hn_h3
     replace d_hn_h3 : ∀ x, (vw10 : Value).ownBlock = some x → x ≠ b3 := fun x hx => (blw10 x hx).elim (d_hn_h3 x) (fun h e => by have := h3.lt; omega)
     have zdd_hn_ho := dd_hn_ho
     replace dd_hn_ho : ∀ x y, (vw10 : Value).ownBlock = some x → (v : Value).ownBlock = some y → x ≠ y := fun x y hx hy => (blw10 x hx).elim (fun h => dd_hn_ho x y h hy) (fun h e => by have := (ho.lt y hy).2; omega)
     have zd_hn_h5 := d_hn_h5
     replace d_hn_h5 : ∀ x, (vw10 : Value).ownBlock = some x → x ≠ b5 := fun x hx => (blw10 x hx).elim (d_hn_h5 x) (fun h e => by have := h5.lt; omega)
     replace hT := hT.then sw10
     replace ho := ho.sp sw10 (fun x hx => frw10 x (ho.lt x hx).2 (fun e => zdd_hn_ho x x e.symm hx rfl))
     replace h1 := h1.sp sw10 (frw10 b1 h1.lt (fun e => zd_hn_h1 _ e.symm rfl))
     replace h3 := h3.sp sw10 (frw10 b3 h3.lt (fun e => zd_hn_h3 _ e.symm rfl))
     replace h5 := h5.sp sw10 (frw10 b5 h5.lt (fun e => zd_hn_h5 _ e.symm rfl))
     replace hE := hE.trans sw10.below
     replace hfd := Rep.sp hfd sw10
     replace hk := hk.sp sw10
     replace hre0 := Rep.sp hre0 sw10
     replace hye0 := Rep.sp hye0 sw10
     replace hsub := sw10.sb hsub
     replace Lw := sw10.low
     replace hB := sw10.z hB
     replace hn := hw10
     clear hw10
     refine lP 1 tK rfl (q1 (cG (lP 1 tK rfl (q1 (cG (lP 3 tK rfl ?_))))))
     refine lC (o_ixO tK ho (gE hil) rfl rfl rfl rfl rfl rfl rfl rfl rfl ?_)
     intro ibe1 iue1 hobe1 hre1 hate1
     obtain ⟨sze1, kve1, rfl, hye1⟩ := fld_open hre1
     replace hate1 : At NoM w10 ibe1 _ [.string (fieldsF dn)[i].name, .int .u8 (fieldsF dn)[i].ty.op, .string (fieldsF dn)[i].ty.name, .int .i64 (fieldsF dn)[i].ty.n, kve1] := ⟨(ho.lt _ hobe1).2, fun h => h, hate1.cell⟩
     refine lC (oL tK (fun j v hv => hate1.cell j v hv) rfl rfl rfl rfl rfl rfl ?_)
     refine lC (o_bs tK rfl rfl rfl rfl rfl rfl rfl (sz1 rfl) rfl rfl rfl ?_)
     intro bw11 w11 qbw11 ew11 hbw11
     have nbw11 := nO Lw qbw11
     replace hT := hT.then (Stp.Y ew11 Lw hB)
     replace ho := ho.Y Lw hB ew11
     replace hn := hn.Y Lw hB ew11
     replace h1 := h1.Y Lw hB ew11
     replace h3 := h3.Y Lw hB ew11
     replace h5 := h5.Y Lw hB ew11
     replace hE := ew11.bl hE hB
     replace hfd := Rep.Y hfd ew11
     replace hk := hk.Y ew11
     replace hre0 := Rep.Y hre0 ew11
     replace hye0 := Rep.Y hye0 ew11
     replace hre1 := Rep.Y hre1 ew11
     replace hye1 := Rep.Y hye1 ew11
     replace Lw := Lw.Y ew11
     replace hB := ew11.z hB
     refine lC (o_app1 tK hn hbw11 nbw11 hre1 Lw hB rfl rfl rfl rfl rfl rfl rfl (by (try simp only [List.length_append, List.length_cons, List.length_nil]); omega) (by show (_ + _) * 72 ≤ _; (try simp only [List.length_append, List.length_cons, List.length_nil]); omega) rfl rfl ?_)
     intro vw12 w12 Mw12 hw12 sw12 frw12 blw12
     have zd_hn_h1 := d_hn_h1
     replace d_hn_h1 : ∀ x, (vw12 : Value).ownBlock = some x → x ≠ b1 := fun x hx => (blw12 x hx).elim (d_hn_h1 x) (fun h e => by have := h1.lt; omega)
     have zd_hn_h3 := d_hn_h3
     replace d_hn_h3 : ∀ x, (vw12 : Value).ownBlock = some x → x ≠ b3 := fun x hx => (blw12 x hx).elim (d_hn_h3 x) (fun h e => by have := h3.lt; omega)
     have zdd_hn_ho := dd_hn_ho
     replace dd_hn_ho : ∀ x y, (vw12 : Value).ownBlock = some x → (v : Value).ownBlock = some y → x ≠ y := fun x y hx hy => (blw12 x hx).elim (fun h => dd_hn_ho x y h hy) (fun h e => by have := (ho.lt y hy).2; omega)
     have zd_hn_h5 := d_hn_h5
     replace d_hn_h5 : ∀ x, (vw12 : Value).ownBlock = some x → x ≠ b5 := fun x hx => (blw12 x hx).elim (d_hn_h5 x) (fun h e => by have := h5.lt; omega)
     replace hT := hT.then sw12
     replace ho := ho.sp sw12 (fun x hx => frw12 x (ho.lt x hx).2 (fun e => zdd_hn_ho x x e.symm hx rfl))
     replace h1 := h1.sp sw12 (frw12 b1 h1.lt (fun e => zd_hn_h1 _ e.symm rfl))
     replace h3 := h3.sp sw12 (frw12 b3 h3.lt (fun e => zd_hn_h3 _ e.symm rfl))
     replace h5 := h5.sp sw12 (frw12 b5 h5.lt (fun e => zd_hn_h5 _ e.symm rfl))
     replace hE := hE.trans sw12.below
     replace hfd := Rep.sp hfd sw12
     replace hk := hk.sp sw12
     replace hre0 := Rep.sp hre0 sw12
     replace hye0 := Rep.sp hye0 sw12
     replace hre1 := Rep.sp hre1 sw12
     replace hye1 := Rep.sp hye1 sw12
     replace hsub := sw12.sb hsub
     replace Lw := sw12.low
     replace hB := sw12.z hB
     replace hn := hw12
     clear hw12
     refine lP 1 tK rfl (q2 (xS (cG (lP 1 tK rfl ?_))))
     refine lC (o_ai rfl rfl rfl (by omega) rfl rfl ?_)
     refine lP 1 tK rfl (lN ?_)
     exact x_round5 (i + 1) (vw12) (Mw12) (true) (nx ++ [(⟨t2.name, k⟩ : Fld)] ++ [(fieldsF dn)[i]]) (s7 rfl rfl rfl rfl rfl rfl (gN rfl (by omega))) ⟨by omega, by rw [hbb] at hip; exact hip.here hil hc2, ho, hn, h1, h3, h5, hfd, d_ho_h1, d_ho_h3, d_ho_h5, d_hn_h1, d_hn_h3, dd_hn_ho, d_hn_h5, hk, hT, Lw, hsub, hE, hB⟩ (by omega)
    rw [sLt_cmpN] at hc2
    replace hc2 := of_decide_eq_false hc2
    refine cK (xS (cG (lP 3 tK rfl ?_)))
    refine lC (o_ixO tK ho (gE hil) rfl rfl rfl rfl rfl rfl rfl rfl rfl ?_)
    intro ibe1 iue1 hobe1 hre1 hate1
    obtain ⟨sze1, kve1, rfl, hye1⟩ := fld_open hre1
    replace hate1 : At NoM w8 ibe1 _ [.string (fieldsF dn)[i].name, .int .u8 (fieldsF dn)[i].ty.op, .string (fieldsF dn)[i].ty.name, .int .i64 (fieldsF dn)[i].ty.n, kve1] := ⟨(ho.lt _ hobe1).2, fun h => h, hate1.cell⟩
    refine lC (oL tK (fun j v hv => hate1.cell j v hv) rfl rfl rfl rfl rfl rfl ?_)
    refine lC (o_bs tK rfl rfl rfl rfl rfl rfl rfl (sz1 rfl) rfl rfl rfl ?_)
    intro bw13 w13 qbw13 ew13 hbw13
    have nbw13 := nO Lw qbw13
    replace hT := hT.then (Stp.Y ew13 Lw hB)
    replace ho := ho.Y Lw hB ew13
    replace hn := hn.Y Lw hB ew13
    replace h1 := h1.Y Lw hB ew13
    replace h3 := h3.Y Lw hB ew13
    replace h5 := h5.Y Lw hB ew13
    replace hE := ew13.bl hE hB
    replace hfd := Rep.Y hfd ew13
    replace hk := hk.Y ew13
    replace hre0 := Rep.Y hre0 ew13
    replace hye0 := Rep.Y hye0 ew13
    replace hre1 := Rep.Y hre1 ew13
    replace hye1 := Rep.Y hye1 ew13
    replace Lw := Lw.Y ew13
    replace hB := ew13.z hB
    refine lC (o_app1 tK hn hbw13 nbw13 hre1 Lw hB rfl rfl rfl rfl rfl rfl rfl (by (try simp only [List.length_append, List.length_cons, List.length_nil]); omega) (by show (_ + _) * 72 ≤ _; (try simp only [List.length_append, List.length_cons, List.length_nil]); omega) rfl rfl ?_)
    intro vw14 w14 Mw14 hw14 sw14 frw14 blw14
    have zd_hn_h1 := d_hn_h1
    replace d_hn_h1 : ∀ x, (vw14 : Value).ownBlock = some x → x ≠ b1 := fun x hx => (blw14 x hx).elim (d_hn_h1 x) (fun h e => by have := h1.lt; omega)
    have zd_hn_h3 := d_hn_h3
    replace d_hn_h3 : ∀ x, (vw14 : Value).ownBlock = some x → x ≠ b3 := fun x hx => (blw14 x hx).elim (d_hn_h3 x) (fun h e => by have := h3.lt; omega)
    have zdd_hn_ho := dd_hn_ho
    replace dd_hn_ho : ∀ x y, (vw14 : Value).ownBlock = some x → (v : Value).ownBlock = some y → x ≠ y := fun x y hx hy => (blw14 x hx).elim (fun h => dd_hn_ho x y h hy) (fun h e => by have := (ho.lt y hy).2; omega)
    have zd_hn_h5 := d_hn_h5
    replace d_hn_h5 : ∀ x, (vw14 : Value).ownBlock = some x → x ≠ b5 := fun x hx => (blw14 x hx).elim (d_hn_h5 x) (fun h e => by have := h5.lt; omega)
    replace hT := hT.then sw14
    replace ho := ho.sp sw14 (fun x hx => frw14 x (ho.lt x hx).2 (fun e => zdd_hn_ho x x e.symm hx rfl))
    replace h1 := h1.sp sw14 (frw14 b1 h1.lt (fun e => zd_hn_h1 _ e.symm rfl))
    replace h3 := h3.sp sw14 (frw14 b3 h3.lt (fun e => zd_hn_h3 _ e.symm rfl))
    replace h5 := h5.sp sw14 (frw14 b5 h5.lt (fun e => zd_hn_h5 _ e.symm rfl))
    replace hE := hE.trans sw14.below
    replace hfd := Rep.sp hfd sw14
    replace hk := hk.sp sw14
    replace hre0 := Rep.sp hre0 sw14
    replace hye0 := Rep.sp hye0 sw14
    replace hre1 := Rep.sp hre1 sw14
    replace hye1 := Rep.sp hye1 sw14
    replace hsub := sw14.sb hsub
    replace Lw := sw14.low
    replace hB := sw14.z hB
    replace hn := hw14
    clear hw14
    refine lP 1 tK rfl (q2 (xS (cG (lP 1 tK rfl ?_))))
    refine lC (o_ai rfl rfl rfl (by omega) rfl rfl ?_)
    refine lP 1 tK rfl (lN ?_)
    exact x_round5 (i + 1) (vw14) (Mw14) (bb) (nx ++ [(fieldsF dn)[i]]) (s7 rfl rfl rfl rfl rfl rfl (gN rfl (by omega))) ⟨by omega, by rw [hbb] at hip ⊢; exact hip.skip hil hc2, ho, hn, h1, h3, h5, hfd, d_ho_h1, d_ho_h3, d_ho_h5, d_hn_h1, d_hn_h3, dd_hn_ho, d_hn_h5, hk, hT, Lw, hsub, hE, hB⟩ (by omega)
   refine aK 3 rfl rfl rfl (by kernel_rfl) i3 hS ?_
   refine aK 4 rfl rfl rfl (by kernel_rfl) i3 hS ?_
   refine aK 5 rfl rfl rfl (by kernel_rfl) i3 hS ?_
   refine aK 6 rfl rfl rfl (by kernel_rfl) i3 hS ?_
   refine aK 7 rfl rfl rfl (by kernel_rfl) i3 hS ?_
   refine aK 8 rfl rfl rfl (by kernel_rfl) i3 hS ?_
   refine aK 9 rfl rfl rfl (by kernel_rfl) i3 hS ?_
   refine aK 10 rfl rfl rfl (by kernel_rfl) i3 hS ?_
   refine a_p 11 tK rfl rfl rfl rfl (by kernel_rfl) i3 hS ?_
   refine a_end (by kernel_rfl) ?_
   refine xS (c_ifF rfl (cK (xS (cG (lP 3 tK rfl ?_)))))
   refine lC (o_ixO tK ho (gE hil) rfl rfl rfl rfl rfl rfl rfl rfl rfl ?_)
   intro ibe0 iue0 hobe0 hre0 hate0
   obtain ⟨sze0, kve0, rfl, hye0⟩ := fld_open hre0
   replace hate0 : At NoM w8 ibe0 _ [.string (fieldsF dn)[i].name, .int .u8 (fieldsF dn)[i].ty.op, .string (fieldsF dn)[i].ty.name, .int .i64 (fieldsF dn)[i].ty.n, kve0] := ⟨(ho.lt _ hobe0).2, fun h => h, hate0.cell⟩
   refine lC (oL tK (fun j v hv => hate0.cell j v hv) rfl rfl rfl rfl rfl rfl ?_)
   refine lC (o_bs tK rfl rfl rfl rfl rfl rfl rfl (sz1 rfl) rfl rfl rfl ?_)
   intro bw15 w15 qbw15 ew15 hbw15
   have nbw15 := nO Lw qbw15
   replace hT := hT.then (Stp.Y ew15 Lw hB)
   replace ho := ho.Y Lw hB ew15
   replace hn := hn.Y Lw hB ew15
   replace h1 := h1.Y Lw hB ew15
   replace h3 := h3.Y Lw hB ew15
   replace h5 := h5.Y Lw hB ew15
   replace hE := ew15.bl hE hB
   replace hfd := Rep.Y hfd ew15
   replace hk := hk.Y ew15
   replace hre0 := Rep.Y hre0 ew15
   replace hye0 := Rep.Y hye0 ew15
   replace Lw := Lw.Y ew15
   replace hB := ew15.z hB
   refine lC (o_app1 tK hn hbw15 nbw15 hre0 Lw hB rfl rfl rfl rfl rfl rfl rfl (by (try simp only [List.length_append, List.length_cons, List.length_nil]); omega) (by show (_ + _) * 72 ≤ _; (try simp only [List.length_append, List.length_cons, List.length_nil]); omega) rfl rfl ?_)
   intro vw16 w16 Mw16 hw16 sw16 frw16 blw16
   have zd_hn_h1 := d_hn_h1
   replace d_hn_h1 : ∀ x, (vw16 : Value).ownBlock = some x → x ≠ b1 := fun x hx => (blw16 x hx).elim (d_hn_h1 x) (fun h e => by have := h1.lt; omega)
   have zd_hn_h3 := d_hn_h3
   replace d_hn_h3 : ∀ x, (vw16 : Value).ownBlock = some x → x ≠ b3 := fun x hx => (blw16 x hx).elim (d_hn_h3 x) (fun h e => by have := h3.lt; omega)
   have zdd_hn_ho := dd_hn_ho
   replace dd_hn_ho : ∀ x y, (vw16 : Value).ownBlock = some x → (v : Value).ownBlock = some y → x ≠ y := fun x y hx hy => (blw16 x hx).elim (fun h => dd_hn_ho x y h hy) (fun h e => by have := (ho.lt y hy).2; omega)
   have zd_hn_h5 := d_hn_h5
   replace d_hn_h5 : ∀ x, (vw16 : Value).ownBlock = some x → x ≠ b5 := fun x hx => (blw16 x hx).elim (d_hn_h5 x) (fun h e => by have := h5.lt; omega)
   replace hT := hT.then sw16
   replace ho := ho.sp sw16 (fun x hx => frw16 x (ho.lt x hx).2 (fun e => zdd_hn_ho x x e.symm hx rfl))
   replace h1 := h1.sp sw16 (frw16 b1 h1.lt (fun e => zd_hn_h1 _ e.symm rfl))
   replace h3 := h3.sp sw16 (frw16 b3 h3.lt (fun e => zd_hn_h3 _ e.symm rfl))
   replace h5 := h5.sp sw16 (frw16 b5 h5.lt (fun e => zd_hn_h5 _ e.symm rfl))
   replace hE := hE.trans sw16.below
   replace hfd := Rep.sp hfd sw16
   replace hk := hk.sp sw16
   replace hre0 := Rep.sp hre0 sw16
   replace hye0 := Rep.sp hye0 sw16
   replace hsub := sw16.sb hsub
   replace Lw := sw16.low
   replace hB := sw16.z hB
   replace hn := hw16
   clear hw16
   refine lP 1 tK rfl (q2 (xS (cG (lP 1 tK rfl ?_))))
   refine lC (o_ai rfl rfl rfl (by omega) rfl rfl ?_)
   refine lP 1 tK rfl (lN ?_)
   exact x_round5 (i + 1) (vw16) (Mw16) (bb) (nx ++ [(fieldsF dn)[i]]) (s7 rfl rfl rfl rfl rfl rfl (gN rfl (by omega))) ⟨by omega, by rw [hbb] at hip ⊢; exact hip.past hil, ho, hn, h1, h3, h5, hfd, d_ho_h1, d_ho_h3, d_ho_h5, d_hn_h1, d_hn_h3, dd_hn_ho, d_hn_h5, hk, hT, Lw, hsub, hE, hB⟩ (by omega)
  refine c_exit (xE (xE (x_blkE (xS (cS (q0 (lP 2 tK rfl (q1 ?_))))))))
  refine c_ifB _ rfl (fun hc3 => ?_) (fun hc3 => ?_)
  ·subst hc3
   have hins := hip.fin0 (by omega)
   refine cG (lP 1 tK rfl ?_)
   refine lC (oL tK (fun j v hv => h5.cell j v hv) rfl rfl rfl rfl rfl rfl ?_)
   refine lC (o_bs tK rfl rfl rfl rfl rfl rfl rfl (sz1 rfl) rfl rfl rfl ?_)
   intro bw17 w17 qbw17 ew17 hbw17
   have nbw17 := nO Lw qbw17
   replace hT := hT.then (Stp.Y ew17 Lw hB)
   replace ho := ho.Y Lw hB ew17
   replace hn := hn.Y Lw hB ew17
   replace h1 := h1.Y Lw hB ew17
   replace h3 := h3.Y Lw hB ew17
   replace h5 := h5.Y Lw hB ew17
   replace hE := ew17.bl hE hB
   replace hfd := Rep.Y hfd ew17
   replace hk := hk.Y ew17
   replace Lw := Lw.Y ew17
   replace hB := ew17.z hB
   refine lC (o_app1 tK hn hbw17 nbw17 hfd Lw hB rfl rfl rfl rfl rfl rfl rfl (by (try simp only [List.length_append, List.length_cons, List.length_nil]); omega) (by show (_ + _) * 72 ≤ _; (try simp only [List.length_append, List.length_cons, List.length_nil]); omega) rfl rfl ?_)
   intro vw18 w18 Mw18 hw18 sw18 frw18 blw18
   have zd_hn_h1 := d_hn_h1
   replace d_hn_h1 : ∀ x, (vw18 : Value).ownBlock = some x → x ≠ b1 := fun x hx => (blw18 x hx).elim (d_hn_h1 x) (fun h e => by have := h1.lt; omega)
   have zd_hn_h3 := d_hn_h3
   replace d_hn_h3 : ∀ x, (vw18 : Value).ownBlock = some x → x ≠ b3 := fun x hx => (blw18 x hx).elim (d_hn_h3 x) (fun h e => by have := h3.lt; omega)
   have zdd_hn_ho := dd_hn_ho
   replace dd_hn_ho : ∀ x y, (vw18 : Value).ownBlock = some x → (v : Value).ownBlock = some y → x ≠ y := fun x y hx hy => (blw18 x hx).elim (fun h => dd_hn_ho x y h hy) (fun h e => by have := (ho.lt y hy).2; omega)
   have zd_hn_h5 := d_hn_h5
   replace d_hn_h5 : ∀ x, (vw18 : Value).ownBlock = some x → x ≠ b5 := fun x hx => (blw18 x hx).elim (d_hn_h5 x) (fun h e => by have := h5.lt; omega)
   replace hT := hT.then sw18
   replace ho := ho.sp sw18 (fun x hx => frw18 x (ho.lt x hx).2 (fun e => zdd_hn_ho x x e.symm hx rfl))
   replace h1 := h1.sp sw18 (frw18 b1 h1.lt (fun e => zd_hn_h1 _ e.symm rfl))
   replace h3 := h3.sp sw18 (frw18 b3 h3.lt (fun e => zd_hn_h3 _ e.symm rfl))
   replace h5 := h5.sp sw18 (frw18 b5 h5.lt (fun e => zd_hn_h5 _ e.symm rfl))
   replace hE := hE.trans sw18.below
   replace hfd := Rep.sp hfd sw18
   replace hk := hk.sp sw18
   replace hsub := sw18.sb hsub
   replace Lw := sw18.low
   replace hB := sw18.z hB
   replace hn := hw18
   clear hw18
   refine lP 1 tK rfl (q1 (q0 (lP 2 tK rfl (q1 (cG (lP 1 tK rfl ?_))))))
   refine lC (oD tK (h1.cell 3 _ rfl) rfl rfl rfl rfl rfl ?_)
   refine lC (o_ixS tK hk (show t2.kids[1]? = some r by rw [hks]; rfl) rfl rfl rfl rfl rfl rfl rfl rfl rfl ?_)
   intro eby eoy euy hyy haty
   obtain ⟨kvy, rfl, opy, nmy, n64y, hky⟩ := tO hyy
   replace haty : At Mw18 w18 eby eoy [.int .u8 r.op, .string r.name, .int .i64 r.n, kvy] := haty
   refine lC (oL tK (fun j v hv => haty.cell j v hv) rfl rfl rfl rfl rfl rfl ?_)
   refine lC (o_st tK h1.box rfl rfl rfl rfl (Rep.one hyy) rfl rfl ?_)
   intro w19 hw19 qw19 bew19
   have uw19 : UpdB _ _ _ := ⟨qw19, bew19⟩
   have sw19 := uw19.sp h1.inM Lw h1.ge
   have frw19 := qw19.2
   replace hT := hT.then sw19
   replace ho := ho.sp sw19 (fun x hx => frw19 x (ho.lt x hx).2 (d_ho_h1 x hx))
   replace hn := hn.sp sw19 (fun x hx => frw19 x (hn.lt x hx).2 (d_hn_h1 x hx))
   replace h3 := h3.sp sw19 (frw19 b3 h3.lt ne_h1_h3.symm)
   replace h5 := h5.sp sw19 (frw19 b5 h5.lt ne_h1_h5.symm)
   replace hE := hE.trans sw19.below
   replace hfd := Rep.sp hfd sw19
   replace hk := hk.sp sw19
   replace hyy := Rep.sp hyy sw19
   replace hky := hky.sp sw19
   replace haty := haty.sp sw19
   replace hsub := sw19.sb hsub
   replace Lw := sw19.low
   replace hB := sw19.z hB
   replace h1 : MB w.heap.size _ w19 b1 _ [.int .u8 r.op, .string r.name, .int .i64 r.n, kvy] := ⟨hw19, h1.inM, h1.ge⟩
   refine q2 ?_
   rw [hins] at hn
   exact x_round5 (r) (kvy) (vw18) (Mw18) (dn ++ [(⟨t2.name, k⟩ : Fld)]) (s3 rfl rfl rfl) ⟨hsr, by rw [List.append_assoc, ← hacc, hsp]; rfl, by rw [← htl, hsp], opy, nmy, n64y, by rw [fieldsF_app]; exact hn, h1, h3, d_hn_h1, d_hn_h3, hky, hT, Lw, hsub, hE, hB⟩ (by rw [psz_eq t2, hks, pszs_cons, pszs_cons]; omega)
  subst hc3
  have hins := hip.fin1 (by omega)
  refine cK (xS (q0 (lP 2 tK rfl (q1 (cG (lP 1 tK rfl ?_))))))
  refine lC (oD tK (h1.cell 3 _ rfl) rfl rfl rfl rfl rfl ?_)
  refine lC (o_ixS tK hk (show t2.kids[1]? = some r by rw [hks]; rfl) rfl rfl rfl rfl rfl rfl rfl rfl rfl ?_)
  intro eby eoy euy hyy haty
  obtain ⟨kvy, rfl, opy, nmy, n64y, hky⟩ := tO hyy
  replace haty : At M2 w7 eby eoy [.int .u8 r.op, .string r.name, .int .i64 r.n, kvy] := haty
  refine lC (oL tK (fun j v hv => haty.cell j v hv) rfl rfl rfl rfl rfl rfl ?_)
  refine lC (o_st tK h1.box rfl rfl rfl rfl (Rep.one hyy) rfl rfl ?_)
  intro w20 hw20 qw20 bew20
  have uw20 : UpdB _ _ _ := ⟨qw20, bew20⟩
  have sw20 := uw20.sp h1.inM Lw h1.ge
  have frw20 := qw20.2
  replace hT := hT.then sw20
  replace ho := ho.sp sw20 (fun x hx => frw20 x (ho.lt x hx).2 (d_ho_h1 x hx))
  replace hn := hn.sp sw20 (fun x hx => frw20 x (hn.lt x hx).2 (d_hn_h1 x hx))
  replace h3 := h3.sp sw20 (frw20 b3 h3.lt ne_h1_h3.symm)
  replace h5 := h5.sp sw20 (frw20 b5 h5.lt ne_h1_h5.symm)
  replace hE := hE.trans sw20.below
  replace hfd := Rep.sp hfd sw20
  replace hk := hk.sp sw20
  replace hyy := Rep.sp hyy sw20
  replace hky := hky.sp sw20
  replace haty := haty.sp sw20
  replace hsub := sw20.sb hsub
  replace Lw := sw20.low
  replace hB := sw20.z hB
  replace h1 : MB w.heap.size _ w20 b1 _ [.int .u8 r.op, .string r.name, .int .i64 r.n, kvy] := ⟨hw20, h1.inM, h1.ge⟩
  refine q2 ?_
  rw [hins] at hn
  exact x_round5 (r) (kvy) (v2) (M2) (dn ++ [(⟨t2.name, k⟩ : Fld)]) (s3 rfl rfl rfl) ⟨hsr, by rw [List.append_assoc, ← hacc, hsp]; rfl, by rw [← htl, hsp], opy, nmy, n64y, by rw [fieldsF_app]; exact hn, h1, h3, d_hn_h1, d_hn_h3, hky, hT, Lw, hsub, hE, hB⟩ (by rw [psz_eq t2, hks, pszs_cons, pszs_cons]; omega)
 have hne : t2.op ≠ 11 := by omega
 rw [spine_no hne] at hacc htl
 simp only [List.append_nil] at hacc htl
 have hla : dn.length = (spineF t).1.length := by rw [hacc]
 have hlf := fieldsF_len dn
 refine c_exit (xE (xE (x_blkE (xS (cS ?_)))))
 refine a_beg Ext rfl ?_
 intro w21 ew21
 replace hT := hT.then (Stp.Y ew21 Lw hB)
 replace ho := ho.Y Lw hB ew21
 replace h1 := h1.Y Lw hB ew21
 replace h3 := h3.Y Lw hB ew21
 replace hE := ew21.bl hE hB
 replace hk := hk.Y ew21
 replace Lw := Lw.Y ew21
 replace hB := ew21.z hB
 have hS : Ext w21 w21 := ext_refl _
 have D_h1 := h1.box
 have D_h3 := h3.box
 have D_hk := hk
 refine a_p 0 tK rfl rfl rfl rfl (by kernel_rfl) i3 hS ?_
 refine a_lds 1 tK (fun _ hs j v hv => (D_h1.Y hs).cell j v hv) rfl rfl rfl rfl rfl rfl rfl (by kernel_rfl) i3 hS ?_
 refine a_p 2 tK rfl rfl rfl rfl (by kernel_rfl) i3 hS ?_
 have htl2 := ty_mk op2 nm2 n2 hk
 rw [← ty_eta] at htl2
 refine a_barS Ext 3 rfl (by kernel_rfl) (by kernel_rfl) (o_st tK h3.box rfl rfl rfl rfl (Rep.one htl2) rfl rfl ?_)
 intro w22 hw22 qw22 bew22
 have uw22 : UpdB _ _ _ := ⟨qw22, bew22⟩
 have sw22 := uw22.sp h3.inM Lw h3.ge
 have frw22 := qw22.2
 replace hT := hT.then sw22
 replace ho := ho.sp sw22 (fun x hx => frw22 x (ho.lt x hx).2 (d_ho_h3 x hx))
 replace h1 := h1.sp sw22 (frw22 b1 h1.lt ne_h1_h3)
 replace hE := hE.trans sw22.below
 replace hk := hk.sp sw22
 replace htl2 := Rep.sp htl2 sw22
 replace hsub := sw22.sb hsub
 replace Lw := sw22.low
 replace hB := sw22.z hB
 replace hS : Ext w22 w22 := ext_refl _
 replace h3 : MB w.heap.size _ w22 b3 _ [.int .u8 t2.op, .string t2.name, .int .i64 t2.n, kv] := ⟨hw22, h3.inM, h3.ge⟩
 have D_h1 := h1.box
 have D_h3 := h3.box
 have D_hk := hk
 refine a_end (by kernel_rfl) ?_
 refine xS (cR ?_)
 refine x_ret2ts tK (fun j v hv => h3.cell j v hv) rfl rfl rfl rfl rfl rfl ?_
 rw [hacc] at ho
 exact ⟨_, _, _, rfl, ho, by rw [← htl]; exact htl2, hT⟩
theorem fields_spec (t : Ty) (M : Nat → Prop) (w : World) (v : Value) (hsh : shapeF t 114 = true) (ht : Rep.R M w v t) (Lw : Low M w) (hsz : psz t ≤ 2000000) :
  Calls Try.prog 26 #[v] w (Ret fun r w' => (∃ x tv, r = .tuple #[x, tv] ∧ Sl M w' x (fieldsF (spineF t).1) ∧ Rep.R M w' tv (spineF t).2) ∧ Ext w w') := by
 refine (fields_own t M w v hsh ht Lw hsz).mono fun e w' h => ?_
 cases e with
 | returned r =>
  obtain ⟨x, tv, M', rfl, ho, htl, s⟩ := h
  have := spine_len t
  exact ⟨⟨x, tv, rfl, ho.sl (by rw [fieldsF_len]; omega) Lw s.sub, Rep.wk htl (fun b _ h => s.sub b h)⟩, s.below⟩
 | panicked c => exact h
 | outgrown => exact h
end Go.Proofs.Ytpoahmeacjggfaa
namespace Rw
/-- The canonical form; n: how deep, at most. -/
def canonN : Nat → Ty → Ty
  | 0, t => t
  | n + 1, t => bif decide (t.op = 11) then ofF ((fieldsF (spineF t).1).map fun f => ⟨f.name, canonN n f.ty⟩) (spineF t).2 else .mk t.op t.name t.n (t.kids.map (canonN n))
def canonF (t : Ty) : Ty := canonN (psz t) t
theorem spine_psz (t : Ty) : ∀ f ∈ (spineF t).1, psz f.ty < psz t := by
  induction t using Ty.ind with
  | h t ih =>
    intro f hf
    by_cases ho : t.op = 11
    · rw [spineF_eq] at hf
      split at hf
      · rename_i k r e
        have e1 : t.kids = [k.1, r.1] := by
          have := congrArg (List.map Prod.fst) e
          simpa [List.map_map, Function.comp_def] using this
        have e2 : r.2 = spineF r.1 := by
          rw [e1] at e
          simp at e
          rw [← e.2]
        rw [ho] at hf
        simp only [decide_true, cond_true] at hf
        rw [psz_eq t, e1, pszs_cons, pszs_cons]
        rcases List.mem_cons.1 hf with rfl | hf
        · simp only; omega
        · rw [e2] at hf
          have := ih r.1 (by rw [e1]; simp) f hf
          omega
      · cases hf
    · rw [spine_no ho] at hf
      cases hf
theorem fields_mem {l : List Fld} {f : Fld} (h : f ∈ fieldsF l) : f ∈ l := (fieldsF_st l).symm.mem h
theorem fields_psz {t : Ty} {f : Fld} (h : f ∈ fieldsF (spineF t).1) : psz f.ty < psz t := spine_psz t f (fields_mem h)
theorem kid_psz {t k : Ty} (h : k ∈ t.kids) : psz k < psz t := by
  have := psz_mem h
  rw [psz_eq t]; omega
theorem canonN_eq : ∀ (n m : Nat) (t : Ty), psz t ≤ n → psz t ≤ m → canonN n t = canonN m t
  | 0, _, t, h, _ => by have := psz_pos t; omega
  | _ + 1, 0, t, _, h => by have := psz_pos t; omega
  | n + 1, m + 1, t, h, k => by
    rw [canonN, canonN]
    have e1 : (fieldsF (spineF t).1).map (fun f => (⟨f.name, canonN n f.ty⟩ : Fld)) = (fieldsF (spineF t).1).map fun f => ⟨f.name, canonN m f.ty⟩ := by
      refine List.map_congr_left fun f hf => ?_
      have := fields_psz hf
      rw [canonN_eq n m f.ty (by omega) (by omega)]
    have e2 : t.kids.map (canonN n) = t.kids.map (canonN m) := by
      refine List.map_congr_left fun x hx => ?_
      have := kid_psz hx
      exact canonN_eq n m x (by omega) (by omega)
    rw [e1, e2]
def canonFld (f : Fld) : Fld := ⟨f.name, canonF f.ty⟩
theorem canonF_eq (t : Ty) : canonF t = bif decide (t.op = 11) then ofF ((fieldsF (spineF t).1).map canonFld) (spineF t).2 else .mk t.op t.name t.n (t.kids.map canonF) := by
  unfold canonF
  have hp := psz_pos t
  obtain ⟨n, hn⟩ : ∃ n, psz t = n + 1 := ⟨psz t - 1, by omega⟩
  rw [hn, canonN]
  have e1 : (fieldsF (spineF t).1).map (fun f => (⟨f.name, canonN n f.ty⟩ : Fld)) = (fieldsF (spineF t).1).map canonFld := by
    refine List.map_congr_left fun f hf => ?_
    have := fields_psz hf
    unfold canonFld canonF
    rw [canonN_eq n (psz f.ty) f.ty (by omega) (lR _)]
  have e2 : t.kids.map (canonN n) = t.kids.map fun x => canonN (psz x) x := by
    refine List.map_congr_left fun x hx => ?_
    have := kid_psz hx
    exact canonN_eq n (psz x) x (by omega) (lR _)
  rw [e1, e2]
theorem canon_row {t : Ty} (h : t.op = 11) : canonF t = ofF ((fieldsF (spineF t).1).map canonFld) (spineF t).2 := by rw [canonF_eq, h]; rfl
theorem canon_other {t : Ty} (h : t.op ≠ 11) : canonF t = .mk t.op t.name t.n (t.kids.map canonF) := by rw [canonF_eq, dF h]; rfl
theorem shape_114 {t : Ty} {c : UInt8} (h : shapeF t c = true) (ho : t.op = 11) : shapeF t 114 = true := by
  obtain ⟨_, _, _, _, _, h5⟩ := shape_pos h
  rw [ho] at h5
  have hc : (c.toNat : Int) = 114 := by simpa using h5
  have : c = 114 := UInt8.toNat_inj.1 (by
    show c.toNat = 114
    omega)
  rw [← this]; exact h
theorem spine_shape (t : Ty) : shapeF t 114 = true → ∀ f ∈ (spineF t).1, shapeF f.ty 116 = true := by
  induction t using Ty.ind with
  | h t ih =>
    intro hs f hf
    by_cases ho : t.op = 11
    · obtain ⟨k, r, hk, h1, h2⟩ := shape_row hs ho
      rw [spine_yes ho hk] at hf
      rcases List.mem_cons.1 hf with rfl | hf
      · exact h1
      · exact ih r (by rw [hk]; simp) h2 f hf
    · rw [spine_no ho] at hf
      cases hf
theorem kid_shape {t : Ty} {c : UInt8} (h : shapeF t c = true) {i : Nat} (hi : i < t.kids.length) : ∃ d, shapeF t.kids[i] d = true := by
  obtain ⟨ks, _, hl, hall, _, _⟩ := shape_pos h
  have hi2 : i < ks.data.size := by
    have : ks.data.size = ks.size := rfl
    omega
  exact ⟨ks.data[i], hall i _ _ (gE hi) (Array.getElem?_eq_getElem hi2)⟩
theorem psz_take {t : Ty} {i : Nat} (hi : i < t.kids.length) : psz t.kids[i] < psz t := kid_psz (gM hi)
/-- The first i have been made canonical. -/
def canTo (l : List Fld) (i : Nat) : List Fld := (l.take i).map canonFld ++ l.drop i
theorem canTo_zero (l : List Fld) : canTo l 0 = l := by simp [canTo]
theorem canTo_len (l : List Fld) (i : Nat) : (canTo l i).length = l.length := by simp [canTo]; omega
theorem canTo_get {l : List Fld} {i : Nat} (hi : i < l.length) : (canTo l i)[i]? = some l[i] := by
  unfold canTo
  rw [List.getElem?_append_right (by simp; omega), List.getElem?_drop]
  simp only [List.length_map, List.length_take]
  rw [show i + (i - min i l.length) = i by omega, gE hi]
theorem canTo_set {l : List Fld} {i : Nat} (hi : i < l.length) : (canTo l i).set i (canonFld l[i]) = canTo l (i + 1) := by
  unfold canTo
  rw [take_snoc hi, List.map_append, List.drop_eq_getElem_cons hi, List.set_append_right _ _ (by simp; omega)]
  simp only [List.length_map, List.length_take]
  rw [show i - min i l.length = 0 by omega, List.set_cons_zero, List.append_assoc]
  rfl
theorem canTo_all {l : List Fld} {i : Nat} (hi : l.length ≤ i) : canTo l i = l.map canonFld := by
  unfold canTo
  rw [List.take_of_length_le hi, List.drop_eq_nil_of_le hi, List.append_nil]
def fsum (l : List Fld) : Nat := (l.map fun f => 1 + psz f.ty).sum
theorem fsum_ins (f : Fld) : ∀ l : List Fld, fsum (insF f l) = 1 + psz f.ty + fsum l
  | [] => by simp [fsum, insF]
  | x :: r => by
    unfold insF
    split
    · simp [fsum]
    · have := fsum_ins f r
      simp only [fsum, List.map_cons, List.sum_cons] at this ⊢
      omega
theorem fsum_fields (l : List Fld) : fsum (fieldsF l) = fsum l := by
  have : ∀ (l acc : List Fld), fsum (l.foldl (fun acc f => insF f acc) acc) = fsum acc + fsum l := by
    intro l
    induction l with
    | nil => intro acc; simp [fsum]
    | cons f l ih =>
      intro acc
      rw [List.foldl_cons, ih, fsum_ins]
      simp only [fsum, List.map_cons, List.sum_cons]
      omega
  have h := this l []
  simpa [fsum, fieldsF] using h
theorem row_psz (t : Ty) : psz t = fsum (spineF t).1 + psz (spineF t).2 := by
  induction t using Ty.ind with
  | h t ih =>
    by_cases ho : t.op = 11
    · rcases e : t.kids with _ | ⟨k, _ | ⟨r, _ | ⟨x, l⟩⟩⟩
      · rw [spineF_eq, e]; simp [fsum]
      · rw [spineF_eq, e]; simp [fsum]
      · rw [spine_yes ho e]
        have := ih r (by rw [e]; simp)
        rw [psz_eq t, e, pszs_cons, pszs_cons, pszs_nil]
        simp only [fsum, List.map_cons, List.sum_cons] at this ⊢
        omega
      · rw [spineF_eq, e]; simp [fsum]
    · rw [spine_no ho]; simp [fsum]
theorem psz_of (l : List Fld) (e : Ty) : psz (ofF l e) = fsum l + psz e := by
  induction l with
  | nil => simp [ofF, fsum]
  | cons f l ih =>
    rw [ofF_cons, psz_eq]
    simp only [Ty.kids, pszs_cons, pszs_nil, ih]
    simp only [fsum, List.map_cons, List.sum_cons]
    omega
theorem pszs_map {g : Ty → Ty} : ∀ {l : List Ty}, (∀ x ∈ l, psz (g x) = psz x) → pszs (l.map g) = pszs l
  | [], _ => rfl
  | x :: l, h => by
    rw [List.map_cons, pszs_cons, pszs_cons, h x List.mem_cons_self, pszs_map fun y hy => h y (List.mem_cons_of_mem _ hy)]
theorem psz_canon : ∀ (n : Nat) (t : Ty), psz t ≤ n → psz (canonF t) = psz t
  | 0, t, h => by have := psz_pos t; omega
  | n + 1, t, h => by
    by_cases ho : t.op = 11
    · rw [canon_row ho, psz_of, row_psz t]
      congr 1
      rw [← fsum_fields (spineF t).1]
      unfold fsum
      rw [List.map_map]
      congr 1
      refine List.map_congr_left fun f hf => ?_
      have := fields_psz hf
      show 1 + psz (canonF f.ty) = _
      rw [psz_canon n f.ty (by omega)]
    · rw [canon_other ho, psz_eq, psz_eq t]
      congr 1
      exact pszs_map fun x hx => psz_canon n x (by have := kid_psz hx; omega)
theorem canon_small {t : Ty} {N : Nat} (h : psz t ≤ N) : ∀ x ∈ (fieldsF (spineF t).1).map canonFld, psz x.ty ≤ N := fun x hx => by
  obtain ⟨f, hf, rfl⟩ := List.mem_map.1 hx
  have := fields_psz hf
  show psz (canonF f.ty) ≤ N
  rw [psz_canon _ _ (lR _)]; omega
theorem spine_small {t : Ty} {N : Nat} (h : psz t ≤ N) : psz (spineF t).2 ≤ N := by have := row_psz t; omega
end Rw
namespace Go.Proofs.Ytpoahmeacjggfaa
open Go Rw Go.RowKit
set_option maxRecDepth 100000
theorem canon_own (n : Nat) : ∀ (t : Ty) (c : UInt8) (M : Nat → Prop) (w : World) (v : Value), psz t ≤ n → shapeF t c = true → Rep.R M w v t → Low M w → psz t ≤ 2000000 →
  Calls Try.prog 73 #[v] w (Ret fun r w' => OTy 25 w.heap.size w' (canonF t) r (Plus NoM w w') ∧ Ext w w') := by
 induction n with
 | zero => intro t c M w v h; have := psz_pos t; omega
 | succ n ih =>
 intro t c M w v hn hsh ht hlow0 hsz
 have Lw := hlow0
 have hB := lR w.heap.size
 have hE := Below.refl w.heap.size w
 have hsub : ∀ b, M b → M b := fun _ h => h
 obtain ⟨kv, rfl, op, nm, n64, hk⟩ := tO ht
 have hps := psz_eq t
 have hkl := len_psz t.kids
 refine cN (n := 52) Try.func73 rfl rfl rfl ?_
 refine q0 ?_
 refine lC (o_box rfl rfl rfl ?_)
 intro b1 w1 qb1 ew1 hb1
 have sw1 := Stp.add ew1 Lw hB (lQ qb1.symm) hb1.lt
 have h1 : MB w.heap.size (Rw.Add M b1) w1 b1 25 [.int .u8 t.op, .string t.name, .int .i64 t.n, kv] := MB.mk' hb1 qb1 hB
 replace hE := hE.trans sw1.below
 replace ht := Rep.sp ht sw1
 replace hk := hk.sp sw1
 replace hsub := sw1.sb hsub
 replace Lw := sw1.low
 replace hB := sw1.z hB
 refine lC (o_new tK rfl rfl rfl ?_)
 intro b2 w2 qb2 ew2 hb2
 have ne_h1_h2 : b1 ≠ b2 := by have := h1.lt; omega
 have sw2 := Stp.add ew2 Lw hB (lQ qb2.symm) hb2.lt
 have h2 : MB w.heap.size (Rw.Add (Rw.Add M b1) b2) w2 b2 25 [.int .u8 0, .string ⟨#[]⟩, .int .i64 0, .slice none 0 0] := MB.mk' hb2 qb2 hB
 replace h1 := h1.sp sw2 (ew2.block b1 h1.lt)
 replace hE := hE.trans sw2.below
 replace ht := Rep.sp ht sw2
 replace hk := hk.sp sw2
 replace hsub := sw2.sb hsub
 replace Lw := sw2.low
 replace hB := sw2.z hB
 refine q1 (cS (q0 (lP 1 tK rfl ?_)))
 refine lC (oD tK (h1.cell 0 _ rfl) rfl rfl rfl rfl rfl ?_)
 refine lP 1 tK rfl (q1 ?_)
 refine cP _ rfl (fun hc0 => ?_) (fun hc0 => ?_)
 ·have hop : t.op = 11 := by omega
  refine q0 ?_
  refine lC (oL tK (fun j v hv => h1.cell j v hv) rfl rfl rfl rfl rfl rfl ?_)
  have hsh2 := shape_114 hsh hop
  have hsl := spine_len t
  have hfl0 := fieldsF_len (spineF t).1
  have lh1 := h1.lt
  have lh2 := h2.lt
  refine lC (oK fo69 rfl rfl rfl (flat_spec t _ _ _ hsh2 ht Lw hsz) ?_)
  rintro _ w3 ⟨xv, tv, M2, rfl, ho, htl, sw3⟩
  have blw3 := sw3.below
  have d_ho_h1 : ∀ x, (xv : Value).ownBlock = some x → x ≠ b1 := fun x hx => by have := (ho.lt x hx).1; omega
  have d_ho_h2 : ∀ x, (xv : Value).ownBlock = some x → x ≠ b2 := fun x hx => by have := (ho.lt x hx).1; omega
  replace sw3 := sw3.mono hB
  replace ho := ho.mono hB
  replace h1 := h1.sp sw3 (blw3.block b1 lh1)
  replace h2 := h2.sp sw3 (blw3.block b2 lh2)
  replace hE := hE.trans sw3.below
  replace ht := Rep.sp ht sw3
  replace hk := hk.sp sw3
  replace hsub := sw3.sb hsub
  replace Lw := sw3.low
  replace hB := sw3.z hB
  obtain ⟨kve, rfl, ope, nme, n64e, hke⟩ := tO htl
  refine lP 3 tK rfl ?_
  refine lC (o_new tK rfl rfl rfl ?_)
  intro b4 w4 qb4 ew4 hb4
  have nb4 := nO Lw qb4
  refine lP 1 tK rfl ?_
  refine lC (o_st tK hb4 rfl rfl rfl rfl (Rep.one htl) rfl rfl ?_)
  intro w5 h4 uw5 bew5
  have ew5 : Ext w3 w5 := ew4.trans (bew5 _ (lQ qb4.symm))
  replace h1 := h1.Y Lw hB ew5
  replace h2 := h2.Y Lw hB ew5
  replace ho := ho.Y Lw hB ew5
  replace hE := ew5.bl hE hB
  replace ht := Rep.Y ht ew5
  replace hk := hk.Y ew5
  replace htl := Rep.Y htl ew5
  replace hke := hke.Y ew5
  replace Lw := Lw.Y ew5
  replace hB := ew5.z hB
  replace h4 : Box w5 b4 25 [.int .u8 (spineF t).2.op, .string (spineF t).2.name, .int .i64 (spineF t).2.n, kve] := h4
  replace h4 := h4.at nb4
  refine q1 (cS (q0 (lP 1 tK rfl ?_)))
  refine lC (o_lenO tK ho rfl rfl rfl rfl rfl ?_)
  refine lP 1 tK rfl (q1 (cB ?_))
  refine c_loop (X := Nat) (fun i => [(2, .pointer (some ⟨b2, 0, none⟩)), (3, xv), (4, .pointer (some ⟨b4, 0, none⟩)), (18, .int .i64 ((fieldsF (spineF t).1).length : Int)), (19, .int .i64 (i : Nat))]) (fun i w' => i ≤ (fieldsF (spineF t).1).length ∧ OwnSl 32 w.heap.size M2 w' xv (canTo (fieldsF (spineF t).1) i) ∧ MB w.heap.size M2 w' b1 25 [.int .u8 t.op, .string t.name, .int .i64 t.n, kv] ∧ MB w.heap.size M2 w' b2 25 [.int .u8 0, .string ⟨#[]⟩, .int .i64 0, .slice none 0 0] ∧ At M2 w' b4 0 [.int .u8 (spineF t).2.op, .string (spineF t).2.name, .int .i64 (spineF t).2.n, kve] ∧ Rep.R M2 w' (.agg #[.int .u8 (spineF t).2.op, .string (spineF t).2.name, .int .i64 (spineF t).2.n, kve]) (spineF t).2 ∧ Low M2 w' ∧ (∀ b, M b → M2 b) ∧ Below w.heap.size w w' ∧ w.heap.size ≤ w'.heap.size) (fun i => (fieldsF (spineF t).1).length - i) (0) (s5 rfl rfl rfl (gN rfl (by omega)) (gN rfl rfl)) ?_ ?_
  ·refine ⟨Nat.zero_le _, ?_, h1, h2, h4, htl, Lw, hsub, hE, hB⟩
   rw [canTo_zero]; exact ho
  clear hsub
  rintro i w6 ⟨hi, ho, h1, h2, h4, htl, Lw, hsub, hE, hB⟩
  have hcl := canTo_len (fieldsF (spineF t).1) i
  refine q0 (lP 1 tK rfl (q1 (cS ?_)))
  refine cP _ rfl (fun c1 => ?_) (fun c1 => ?_)
  ·have hil : i < (fieldsF (spineF t).1).length := by omega
   refine cK (xS (cS (cB (q0 (lP 2 tK rfl (q1 (cG (lP 4 tK rfl ?_))))))))
   refine lC (o_ixO tK ho (canTo_get hil) rfl rfl rfl rfl rfl rfl rfl rfl rfl ?_)
   intro ibx iux hobx hrx hX
   obtain ⟨szx, kvx, rfl, hyx⟩ := fld_open hrx
   replace hX : At NoM w6 ibx _ [.string (fieldsF (spineF t).1)[i].name, .int .u8 (fieldsF (spineF t).1)[i].ty.op, .string (fieldsF (spineF t).1)[i].ty.name, .int .i64 (fieldsF (spineF t).1)[i].ty.n, kvx] := ⟨(ho.lt _ hobx).2, fun h => h, hX.cell⟩
   refine lP 1 tK rfl ?_
   refine lC (oL tK (fun j v hv => (hX).drop 1 (sub := [.int .u8 (fieldsF (spineF t).1)[i].ty.op, .string (fieldsF (spineF t).1)[i].ty.name, .int .i64 (fieldsF (spineF t).1)[i].ty.n, kvx]) rfl j v hv) rfl rfl rfl rfl rfl rfl ?_)
   have hfm := gM hil
   have hfp := fields_psz hfm
   have hfs := spine_shape t hsh2 _ (fields_mem hfm)
   refine lC (oK fo73 rfl rfl rfl (ih _ 116 _ _ _ (by omega) hfs hyx Lw (by omega)) ?_)
   rintro vc w7 ⟨hc, ew7⟩
   replace hc := hc.repNew Lw
   replace ho := ho.Y Lw hB ew7
   replace h1 := h1.Y Lw hB ew7
   replace h2 := h2.Y Lw hB ew7
   replace hE := ew7.bl hE hB
   replace h4 := h4.Y ew7
   replace htl := Rep.Y htl ew7
   replace hrx := Rep.Y hrx ew7
   replace hyx := Rep.Y hyx ew7
   replace Lw := Lw.Y ew7
   replace hB := ew7.z hB
   obtain ⟨kvc, rfl, opc, nmc, n64c, hkc⟩ := tO hc
   refine lC (o_ixO tK ho (canTo_get hil) rfl rfl rfl rfl rfl rfl rfl rfl rfl ?_)
   intro ibz iuz hobz hrz hatz
   obtain ⟨szz, kvz, rfl, hyz⟩ := fld_open hrz
   replace hatz : OAt _ _ _ [.string (fieldsF (spineF t).1)[i].name, .int .u8 (fieldsF (spineF t).1)[i].ty.op, .string (fieldsF (spineF t).1)[i].ty.name, .int .i64 (fieldsF (spineF t).1)[i].ty.n, kvz] := hatz
   refine lP 1 tK rfl ?_
   have hnf : Rep.R _ w7 (.agg #[.string (fieldsF (spineF t).1)[i].name, .int .u8 (canonF (fieldsF (spineF t).1)[i].ty).op, .string (canonF (fieldsF (spineF t).1)[i].ty).name, .int .i64 (canonF (fieldsF (spineF t).1)[i].ty).n, kvc]) (canonFld (fieldsF (spineF t).1)[i]) := fld_mk szz hc
   refine lC (o_stP (j := i) (k := 1) (us := [.string (fieldsF (spineF t).1)[i].name, .int .u8 (fieldsF (spineF t).1)[i].ty.op, .string (fieldsF (spineF t).1)[i].ty.name, .int .i64 (fieldsF (spineF t).1)[i].ty.n, kvz]) tK ho hobz (by omega) (fun q a hq => hatz.cell q a hq) rfl hnf Lw rfl rfl rfl rfl rfl rfl rfl (Rep.one hc) (by decide) rfl rfl ?_)
   intro w8 hw8 sw8 frw8
   replace h1 := h1.sp sw8 (frw8 b1 h1.lt (fun e => d_ho_h1 _ hobz e.symm))
   replace h2 := h2.sp sw8 (frw8 b2 h2.lt (fun e => d_ho_h2 _ hobz e.symm))
   replace hE := hE.trans sw8.below
   replace h4 := h4.sp sw8
   replace htl := Rep.sp htl sw8
   replace hrx := Rep.sp hrx sw8
   replace hyx := Rep.sp hyx sw8
   replace hc := Rep.sp hc sw8
   replace hsub := sw8.sb hsub
   replace Lw := sw8.low
   replace hB := sw8.z hB
   replace ho := hw8
   clear hw8
   refine q2 (xS (cG ?_))
   refine lC (o_ai rfl rfl rfl (by omega) rfl rfl ?_)
   refine lP 1 tK rfl (lN ?_)
   exact x_round (i + 1) (s5 rfl rfl rfl rfl (gN rfl (by omega))) ⟨by omega, by rw [← canTo_set hil]; exact ho, h1, h2, h4, htl, Lw, hsub, hE, hB⟩ (by omega)
  refine c_exit (xE (xE (x_blkE (xS (q0 (lP 1 tK rfl ?_))))))
  refine lC (oL tK (fun j v hv => h4.cell j v hv) rfl rfl rfl rfl rfl rfl ?_)
  have hall : canTo (fieldsF (spineF t).1) i = (fieldsF (spineF t).1).map canonFld := canTo_all (by omega)
  rw [hall] at ho
  have hml : ((fieldsF (spineF t).1).map canonFld).length = (fieldsF (spineF t).1).length := List.length_map _
  have hfz := ho.froze (by omega)
  replace h1 := h1.less (v := xv) d_ho_h1
  replace h2 := h2.less (v := xv) d_ho_h2
  replace h4 := h4.wk (fun b _ h => less_sub (v := xv) b h)
  replace htl := Rep.wk htl (fun b _ h => less_sub (v := xv) b h)
  replace Lw : Low (Less M2 xv) w6 := fun b h => Lw b h.1
  replace hsub : ∀ b, _ → Less M2 xv b := fun b h => ⟨hsub b h, fun e => by have := (ho.lt b e).1; have := hlow0 b h; omega⟩
  have l_h1 := h1.lt
  have l_h2 := h2.lt
  have hB0 := hB
  refine lC (oK fo23 rfl rfl rfl (join_own _ _ _ _ _ _ 0 hfz htl Lw (canon_small hsz) (spine_small hsz)) ?_)
  rintro vj w9 ⟨hj, ew9⟩
  rw [← canon_row hop] at hj
  replace hj := hj.ge hB0
  have hGl : ∀ c, Plus NoM w6 w9 c → w6.heap.size ≤ c := fun c h => h.elim (fun h => h.elim) (fun h => h.1)
  replace h1 := h1.Y Lw hB ew9
  replace h2 := h2.Y Lw hB ew9
  replace hE := ew9.bl hE hB
  replace h4 := h4.Y ew9
  replace htl := Rep.Y htl ew9
  replace hfz := hfz.Y ew9
  replace Lw := Lw.Y ew9
  replace hB := ew9.z hB
  generalize Plus NoM w6 w9 = G at hj hGl
  have d_hj_h1 : ∀ x, G x → x ≠ b1 := fun x hx => by have := hGl x hx; omega
  have d_hj_h2 : ∀ x, G x → x ≠ b2 := fun x hx => by have := hGl x hx; omega
  obtain ⟨kvj, usj, Hj, rfl, opj, nmj, n64j, hknj, hrj, hOj, hHj⟩ := oty_open hj
  refine lC (o_st tK h2.box rfl rfl rfl rfl hj.one rfl rfl ?_)
  intro w10 hw10 qw10 bew10
  have uw10 : UpdB _ _ _ := ⟨qw10, bew10⟩
  have sw10 := uw10.sp h2.inM Lw h2.ge
  have frw10 := qw10.2
  replace h1 := h1.sp sw10 (frw10 b1 h1.lt ne_h1_h2)
  replace hj := hj.sp sw10 (fun x hx => frw10 x (hj.lt x hx).2 (d_hj_h2 x hx))
  replace hE := hE.trans sw10.below
  replace h4 := h4.sp sw10
  replace htl := Rep.sp htl sw10
  replace hfz := hfz.sp sw10
  replace hsub := sw10.sb hsub
  replace Lw := sw10.low
  replace hB := sw10.z hB
  replace h2 : MB w.heap.size _ w10 b2 _ [.int .u8 (canonF t).op, .string (canonF t).name, .int .i64 (canonF t).n, kvj] := ⟨hw10, h2.inM, h2.ge⟩
  refine q1 (cR (xR ?_))
  refine x_ret1s tK (fun j v hv => h2.cell j v hv) rfl rfl rfl rfl rfl ?_
  exact ⟨hj.mono (fun c hc => .inr (hj.lt c hc)) (fun c hc => hc.elim (fun h => h.elim) id), hE⟩
 have hop : t.op ≠ 11 := by omega
 refine cK (xS (q0 (lP 1 tK rfl (q1 (cS (q0 (lP 1 tK rfl ?_)))))))
 refine lC (oD tK (h1.cell 3 _ rfl) rfl rfl rfl rfl rfl ?_)
 refine lC (o_len tK hk rfl rfl rfl rfl rfl ?_)
 refine lP 1 tK rfl (q1 (cB ?_))
 have d_ho_h1 : ∀ x, (.slice none 0 0 : Value).ownBlock = some x → x ≠ b1 := fun x hx => by simp [Value.ownBlock] at hx
 have d_ho_h2 : ∀ x, (.slice none 0 0 : Value).ownBlock = some x → x ≠ b2 := fun x hx => by simp [Value.ownBlock] at hx
 have d_hO_h1 : ∀ x, NoM x → x ≠ b1 := fun _ h => h.elim
 have d_hO_h2 : ∀ x, NoM x → x ≠ b2 := fun _ h => h.elim
 have dd_ho_hO : ∀ x y, (.slice none 0 0 : Value).ownBlock = some x → NoM y → x ≠ y := fun _ _ _ h => h.elim
 refine c_loop5 (X := Nat) (Y := Value) (Z := Nat → Prop) (U := List (VN 3)) (V := Nat → Prop) (fun i v M1 us F => [(1, .pointer (some ⟨b1, 0, none⟩)), (2, .pointer (some ⟨b2, 0, none⟩)), (6, v), (37, kv), (38, .int .i64 (t.kids.length : Int)), (39, .int .i64 (i : Nat))]) (fun i v M1 us F w' => i ≤ t.kids.length ∧ OwnSl 25 w.heap.size M1 w' v us ∧ OTs 25 w.heap.size w' us ((t.kids.take i).map canonF) F ∧ MB w.heap.size M1 w' b1 25 [.int .u8 t.op, .string t.name, .int .i64 t.n, kv] ∧ MB w.heap.size M1 w' b2 25 [.int .u8 0, .string ⟨#[]⟩, .int .i64 0, .slice none 0 0] ∧ (∀ x, (v : Value).ownBlock = some x → x ≠ b1) ∧ (∀ x, (v : Value).ownBlock = some x → x ≠ b2) ∧ (∀ x, F x → x ≠ b1) ∧ (∀ x, F x → x ≠ b2) ∧ (∀ x y, (v : Value).ownBlock = some x → F y → x ≠ y) ∧ Sl M1 w' kv t.kids ∧ Low M1 w' ∧ (∀ b, M b → M1 b) ∧ Below w.heap.size w w' ∧ w.heap.size ≤ w'.heap.size) (fun i v M1 us F => t.kids.length - i) (0) (.slice none 0 0) ((Rw.Add (Rw.Add M b1) b2)) ([]) (NoM) (s6 rfl rfl rfl rfl rfl rfl) ?_ ?_
 ·exact ⟨Nat.zero_le _, own_nil, ots_nil (fun _ h => h.elim), h1, h2, d_ho_h1, d_ho_h2, d_hO_h1, d_hO_h2, dd_ho_hO, hk, Lw, hsub, hE, hB⟩
 rintro i v M1 us F w11 ⟨hi, ho, hO, h1, h2, d_ho_h1, d_ho_h2, d_hO_h1, d_hO_h2, dd_ho_hO, hk, Lw, hsub, hE, hB⟩
 have hul := hO.len
 rw [List.length_map, List.length_take] at hul
 refine q0 (lP 1 tK rfl (q1 (cS ?_)))
 refine cP _ rfl (fun c2 => ?_) (fun c2 => ?_)
 ·refine cK (xS (cS (cB (q0 ?_))))
  have hik : i < t.kids.length := by omega
  have hp1 := psz_take hik
  obtain ⟨kd, hkd⟩ := kid_shape hsh hik
  refine lC (o_ixS tK hk (gE hik) rfl rfl rfl rfl rfl rfl rfl rfl rfl ?_)
  intro ebx eox eux hyx hX
  obtain ⟨kvx, rfl, opx, nmx, n64x, hkx⟩ := tO hyx
  replace hX : At M1 w11 ebx eox [.int .u8 t.kids[i].op, .string t.kids[i].name, .int .i64 t.kids[i].n, kvx] := hX
  refine lC (oL tK (fun j v hv => hX.cell j v hv) rfl rfl rfl rfl rfl rfl ?_)
  refine lC (o_new tK rfl rfl rfl ?_)
  intro b8 w12 qb8 ew12 hb8
  have nb8 := nO Lw qb8
  refine lC (o_st tK hb8 rfl rfl rfl rfl (Rep.one hyx) rfl rfl ?_)
  intro w13 h8 uw13 bew13
  have ew13 : Ext w11 w13 := ew12.trans (bew13 _ (lQ qb8.symm))
  replace ho := ho.Y Lw hB ew13
  replace hO := hO.Y Lw hB ew13
  replace h1 := h1.Y Lw hB ew13
  replace h2 := h2.Y Lw hB ew13
  replace hE := ew13.bl hE hB
  replace hk := hk.Y ew13
  replace hyx := Rep.Y hyx ew13
  replace hkx := hkx.Y ew13
  replace hX := hX.Y ew13
  replace Lw := Lw.Y ew13
  replace hB := ew13.z hB
  replace h8 : Box w13 b8 25 [.int .u8 t.kids[i].op, .string t.kids[i].name, .int .i64 t.kids[i].n, kvx] := h8
  replace h8 := h8.at nb8
  refine q1 (cG (lP 1 tK rfl ?_))
  refine lC (oL tK (fun j v hv => h8.cell j v hv) rfl rfl rfl rfl rfl rfl ?_)
  have l_h1 := h1.lt
  have l_h2 := h2.lt
  have l_ho := ho.lt
  have l_hO := hO.lt
  have hB0 := hB
  refine lC (oK fo73 rfl rfl rfl (ih _ _ _ _ _ (by omega) hkd hyx Lw (by omega)) ?_)
  rintro vc w14 ⟨hc, ew14⟩
  replace hc := hc.ge hB0
  have hGl : ∀ c, Plus NoM w13 w14 c → w13.heap.size ≤ c := fun c h => h.elim (fun h => h.elim) (fun h => h.1)
  replace ho := ho.Y Lw hB ew14
  replace hO := hO.Y Lw hB ew14
  replace h1 := h1.Y Lw hB ew14
  replace h2 := h2.Y Lw hB ew14
  replace hE := ew14.bl hE hB
  replace hk := hk.Y ew14
  replace hyx := Rep.Y hyx ew14
  replace hkx := hkx.Y ew14
  replace hX := hX.Y ew14
  replace h8 := h8.Y ew14
  replace Lw := Lw.Y ew14
  replace hB := ew14.z hB
  generalize Plus NoM w13 w14 = G at hc hGl
  have d_hc_h1 : ∀ x, G x → x ≠ b1 := fun x hx => by have := hGl x hx; omega
  have d_hc_h2 : ∀ x, G x → x ≠ b2 := fun x hx => by have := hGl x hx; omega
  have dd_ho_hc : ∀ x y, (v : Value).ownBlock = some x → G y → x ≠ y := fun x y hx hy => by have := hGl y hy; have := (l_ho x hx).2; omega
  have dd_hc_hO : ∀ c, G c → ¬ F c := fun c hg hf => by have := hGl c hg; have := (l_hO c hf).2; omega
  refine lC (o_bs tK rfl rfl rfl rfl rfl rfl rfl (sz1 hc.size) rfl rfl rfl ?_)
  intro bw15 w15 qbw15 ew15 hbw15
  have nbw15 := nO Lw qbw15
  replace ho := ho.Y Lw hB ew15
  replace hO := hO.Y Lw hB ew15
  replace h1 := h1.Y Lw hB ew15
  replace h2 := h2.Y Lw hB ew15
  replace hc := hc.Y Lw hB ew15
  replace hE := ew15.bl hE hB
  replace hk := hk.Y ew15
  replace hyx := Rep.Y hyx ew15
  replace hkx := hkx.Y ew15
  replace hX := hX.Y ew15
  replace h8 := h8.Y ew15
  replace Lw := Lw.Y ew15
  replace hB := ew15.z hB
  refine lC (o_app1 tK ho hbw15 nbw15 hc.vn Lw hB rfl rfl rfl rfl rfl rfl rfl (by omega) (by show (_ + _) * 56 ≤ _; omega) rfl rfl ?_)
  intro vw16 w16 Mw16 hw16 sw16 frw16 blw16
  have zd_ho_h1 := d_ho_h1
  replace d_ho_h1 : ∀ x, (vw16 : Value).ownBlock = some x → x ≠ b1 := fun x hx => (blw16 x hx).elim (d_ho_h1 x) (fun h e => by have := h1.lt; omega)
  have zd_ho_h2 := d_ho_h2
  replace d_ho_h2 : ∀ x, (vw16 : Value).ownBlock = some x → x ≠ b2 := fun x hx => (blw16 x hx).elim (d_ho_h2 x) (fun h e => by have := h2.lt; omega)
  have zdd_ho_hO := dd_ho_hO
  replace dd_ho_hO : ∀ x y, (vw16 : Value).ownBlock = some x → F y → x ≠ y := fun x y hx hy => (blw16 x hx).elim (fun h => dd_ho_hO x y h hy) (fun h e => by have := (hO.lt y hy).2; omega)
  have zdd_ho_hc := dd_ho_hc
  replace dd_ho_hc : ∀ x y, (vw16 : Value).ownBlock = some x → G y → x ≠ y := fun x y hx hy => (blw16 x hx).elim (fun h => dd_ho_hc x y h hy) (fun h e => by have := (hc.lt y hy).2; omega)
  replace hO := hO.sp sw16 (fun x hx => frw16 x (hO.lt x hx).2 (fun e => zdd_ho_hO x x e.symm hx rfl))
  replace h1 := h1.sp sw16 (frw16 b1 h1.lt (fun e => zd_ho_h1 _ e.symm rfl))
  replace h2 := h2.sp sw16 (frw16 b2 h2.lt (fun e => zd_ho_h2 _ e.symm rfl))
  replace hc := hc.sp sw16 (fun x hx => frw16 x (hc.lt x hx).2 (fun e => zdd_ho_hc x x e.symm hx rfl))
  replace hE := hE.trans sw16.below
  replace hk := hk.sp sw16
  replace hyx := Rep.sp hyx sw16
  replace hkx := hkx.sp sw16
  replace hX := hX.sp sw16
  replace h8 := h8.sp sw16
  replace hsub := sw16.sb hsub
  replace Lw := sw16.low
  replace hB := sw16.z hB
  replace ho := hw16
  clear hw16
  refine lP 1 tK rfl (q2 (xS (cG ?_)))
  refine lC (o_ai rfl rfl rfl (by omega) rfl rfl ?_)
  refine lP 1 tK rfl (lN ?_)
  have hO2 := hO.app hc dd_hc_hO
  exact x_round5 (i + 1) (vw16) (Mw16) (us ++ [⟨vc⟩]) (fun c => F c ∨ G c) (s6 rfl rfl rfl rfl rfl (gN rfl (by omega))) ⟨by omega, ho, by rw [List.take_succ_eq_append_getElem hik, List.map_append]; exact hO2, h1, h2, d_ho_h1, d_ho_h2, (fun x hx => hx.elim (d_hO_h1 x) (d_hc_h1 x)), (fun x hx => hx.elim (d_hO_h2 x) (d_hc_h2 x)), (fun x y hx hy => hy.elim (dd_ho_hO x y hx) (dd_ho_hc x y hx)), hk, Lw, hsub, hE, hB⟩ (by omega)
 refine c_exit (xE (xE (x_blkE (xS (q0 (lP 2 tK rfl ?_))))))
 obtain rfl : i = t.kids.length := by omega
 rw [List.take_of_length_le (lR _)] at hO
 obtain ⟨av, cv, rfl, hcv⟩ := ho.val
 refine lC (o_st tK h1.box rfl rfl rfl rfl (by simp [Value.cells, Value.oneCell']) rfl rfl ?_)
 intro w17 hw17 qw17 bew17
 have uw17 : UpdB _ _ _ := ⟨qw17, bew17⟩
 have sw17 := uw17.sp h1.inM Lw h1.ge
 have frw17 := qw17.2
 replace ho := ho.sp sw17 (fun x hx => frw17 x (ho.lt x hx).2 (d_ho_h1 x hx))
 replace hO := hO.sp sw17 (fun x hx => frw17 x (hO.lt x hx).2 (d_hO_h1 x hx))
 replace h2 := h2.sp sw17 (frw17 b2 h2.lt ne_h1_h2.symm)
 replace hE := hE.trans sw17.below
 replace hk := hk.sp sw17
 replace hsub := sw17.sb hsub
 replace Lw := sw17.low
 replace hB := sw17.z hB
 replace h1 : MB w.heap.size _ w17 b1 _ [.int .u8 t.op, .string t.name, .int .i64 t.n, .slice av us.length cv] := ⟨hw17, h1.inM, h1.ge⟩
 refine q1 (q0 ?_)
 refine lC (oL tK (fun j v hv => h1.cell j v hv) rfl rfl rfl rfl rfl rfl ?_)
 refine lC (o_st tK h2.box rfl rfl rfl rfl (by intro u hu; simp [Value.cells] at hu; rcases hu with rfl | rfl | rfl | rfl <;> rfl) rfl rfl ?_)
 intro w18 hw18 qw18 bew18
 have uw18 : UpdB _ _ _ := ⟨qw18, bew18⟩
 have sw18 := uw18.sp h2.inM Lw h2.ge
 have frw18 := qw18.2
 replace ho := ho.sp sw18 (fun x hx => frw18 x (ho.lt x hx).2 (d_ho_h2 x hx))
 replace hO := hO.sp sw18 (fun x hx => frw18 x (hO.lt x hx).2 (d_hO_h2 x hx))
 replace h1 := h1.sp sw18 (frw18 b1 h1.lt ne_h1_h2)
 replace hE := hE.trans sw18.below
 replace hk := hk.sp sw18
 replace hsub := sw18.sb hsub
 replace Lw := sw18.low
 replace hB := sw18.z hB
 replace h2 : MB w.heap.size _ w18 b2 _ [.int .u8 t.op, .string t.name, .int .i64 t.n, .slice av us.length cv] := ⟨hw18, h2.inM, h2.ge⟩
 refine q1 (cR ?_)
 refine x_ret1s tK (fun j v hv => h2.cell j v hv) rfl rfl rfl rfl rfl ?_
 have hfin := oty_fin op nm n64 (by simp; omega) ho hO dd_ho_hO
 rw [← canon_other hop] at hfin
 exact ⟨hfin, hE⟩
theorem canon_all (n : Nat) (t : Ty) (c : UInt8) (M : Nat → Prop) (w : World) (v : Value) (hn : psz t ≤ n) (hsh : shapeF t c = true) (ht : Rep.R M w v t) (Lw : Low M w) (hsz : psz t ≤ 2000000) :
  Calls Try.prog 73 #[v] w (Ret fun r w' => Rep.R M w' r (canonF t) ∧ Ext w w') := (canon_own n t c M w v hn hsh ht Lw hsz).mono (Ret.mono fun r w' h => ⟨h.1.repNew Lw, h.2⟩)
theorem refCanon_all (n : Nat) : ∀ (t : Ty) (c : UInt8) (M : Nat → Prop) (w : World) (v : Value), psz t ≤ n → shapeF t c = true → Rep.R M w v t → Low M w → psz t ≤ 2000000 →
  Calls Try.prog 49 #[v] w (Ret fun r w' => Rep.R M w' r (canonF t) ∧ Ext w w') := by
 induction n with
 | zero => intro t c M w v h; have := psz_pos t; omega
 | succ n ih =>
 intro t c M w v hn hsh ht hlow0 hsz
 have Lw := hlow0
 have hB := lR w.heap.size
 have hE := Below.refl w.heap.size w
 have hsub : ∀ b, M b → M b := fun _ h => h
 obtain ⟨kv, rfl, op, nm, n64, hk⟩ := tO ht
 have hps := psz_eq t
 have hkl := len_psz t.kids
 refine cN (n := 61) Try.func49 rfl rfl rfl ?_
 refine q0 ?_
 refine lC (o_box rfl rfl rfl ?_)
 intro b1 w1 hb_b1 ew1 h1
 replace h1 : Box _ b1 25 [.int .u8 t.op, .string t.name, .int .i64 t.n, kv] := h1
 replace h1 := h1.at (nO Lw hb_b1)
 replace hE := ew1.bl hE hB
 replace ht := Rep.Y ht ew1
 replace hk := hk.Y ew1
 replace Lw := Lw.Y ew1
 replace hB := ew1.z hB
 refine lC (o_new tK rfl rfl rfl ?_)
 intro b2 w2 qb2 ew2 hb2
 have sw2 := Stp.add ew2 Lw hB (lQ qb2.symm) hb2.lt
 have h2 : MB w.heap.size (Rw.Add M b2) w2 b2 25 [.int .u8 0, .string ⟨#[]⟩, .int .i64 0, .slice none 0 0] := MB.mk' hb2 qb2 hB
 replace hE := hE.trans sw2.below
 replace ht := Rep.sp ht sw2
 replace hk := hk.sp sw2
 replace h1 := h1.sp sw2
 replace hsub := sw2.sb hsub
 replace Lw := sw2.low
 replace hB := sw2.z hB
 refine q1 (cS (q0 (lP 1 tK rfl ?_)))
 refine lC (oD tK (h1.cell 0 _ rfl) rfl rfl rfl rfl rfl ?_)
 refine lP 1 tK rfl (q1 ?_)
 refine cP _ rfl (fun hc0 => ?_) (fun hc0 => ?_)
 ·have hop : t.op = 11 := by omega
  refine q0 ?_
  refine lC (oL tK (fun j v hv => h1.cell j v hv) rfl rfl rfl rfl rfl rfl ?_)
  have hsh2 := shape_114 hsh hop
  have hsl := spine_len t
  have hfl0 := fieldsF_len (spineF t).1
  have lh2 := h2.lt
  refine lC (oK fo26 rfl rfl rfl (fields_own t _ _ _ hsh2 ht Lw hsz) ?_)
  rintro _ w3 ⟨xv, tv, M2, rfl, ho, htl, sw3⟩
  have blw3 := sw3.below
  have d_ho_h2 : ∀ x, (xv : Value).ownBlock = some x → x ≠ b2 := fun x hx => by have := (ho.lt x hx).1; omega
  replace sw3 := sw3.mono hB
  replace ho := ho.mono hB
  replace h2 := h2.sp sw3 (blw3.block b2 lh2)
  replace hE := hE.trans sw3.below
  replace ht := Rep.sp ht sw3
  replace hk := hk.sp sw3
  replace h1 := h1.sp sw3
  replace hsub := sw3.sb hsub
  replace Lw := sw3.low
  replace hB := sw3.z hB
  obtain ⟨kve, rfl, ope, nme, n64e, hke⟩ := tO htl
  refine lP 3 tK rfl ?_
  refine lC (o_new tK rfl rfl rfl ?_)
  intro b4 w4 qb4 ew4 hb4
  have nb4 := nO Lw qb4
  refine lP 1 tK rfl ?_
  refine lC (o_st tK hb4 rfl rfl rfl rfl (Rep.one htl) rfl rfl ?_)
  intro w5 h4 uw5 bew5
  have ew5 : Ext w3 w5 := ew4.trans (bew5 _ (lQ qb4.symm))
  replace h2 := h2.Y Lw hB ew5
  replace ho := ho.Y Lw hB ew5
  replace hE := ew5.bl hE hB
  replace ht := Rep.Y ht ew5
  replace hk := hk.Y ew5
  replace h1 := h1.Y ew5
  replace htl := Rep.Y htl ew5
  replace hke := hke.Y ew5
  replace Lw := Lw.Y ew5
  replace hB := ew5.z hB
  replace h4 : Box w5 b4 25 [.int .u8 (spineF t).2.op, .string (spineF t).2.name, .int .i64 (spineF t).2.n, kve] := h4
  replace h4 := h4.at nb4
  refine q1 (cS (q0 (lP 1 tK rfl (q1 (cB ?_)))))
  refine c_loop (X := Nat) (fun i => [(2, .pointer (some ⟨b2, 0, none⟩)), (3, xv), (4, .pointer (some ⟨b4, 0, none⟩)), (5, .int .i64 (i : Nat))]) (fun i w' => i ≤ (fieldsF (spineF t).1).length ∧ OwnSl 32 w.heap.size M2 w' xv (canTo (fieldsF (spineF t).1) i) ∧ MB w.heap.size M2 w' b2 25 [.int .u8 0, .string ⟨#[]⟩, .int .i64 0, .slice none 0 0] ∧ At M2 w' b4 0 [.int .u8 (spineF t).2.op, .string (spineF t).2.name, .int .i64 (spineF t).2.n, kve] ∧ Rep.R M2 w' (.agg #[.int .u8 (spineF t).2.op, .string (spineF t).2.name, .int .i64 (spineF t).2.n, kve]) (spineF t).2 ∧ Low M2 w' ∧ (∀ b, M b → M2 b) ∧ Below w.heap.size w w' ∧ w.heap.size ≤ w'.heap.size) (fun i => (fieldsF (spineF t).1).length - i) (0) (s4 rfl rfl rfl (gN rfl rfl)) ?_ ?_
  ·refine ⟨Nat.zero_le _, ?_, h2, h4, htl, Lw, hsub, hE, hB⟩
   rw [canTo_zero]; exact ho
  clear hsub
  rintro i w6 ⟨hi, ho, h2, h4, htl, Lw, hsub, hE, hB⟩
  have hcl := canTo_len (fieldsF (spineF t).1) i
  refine cS (q0 (lP 2 tK rfl ?_))
  refine lC (o_lenO tK ho rfl rfl rfl rfl rfl ?_)
  refine lP 1 tK rfl (q1 ?_)
  refine cP _ rfl (fun c1 => ?_) (fun c1 => ?_)
  ·have hil : i < (fieldsF (spineF t).1).length := by omega
   refine cK (xS (cS (cB (cG (lP 4 tK rfl ?_)))))
   refine lC (o_ixO tK ho (canTo_get hil) rfl rfl rfl rfl rfl rfl rfl rfl rfl ?_)
   intro ibx iux hobx hrx hX
   obtain ⟨szx, kvx, rfl, hyx⟩ := fld_open hrx
   replace hX : At NoM w6 ibx _ [.string (fieldsF (spineF t).1)[i].name, .int .u8 (fieldsF (spineF t).1)[i].ty.op, .string (fieldsF (spineF t).1)[i].ty.name, .int .i64 (fieldsF (spineF t).1)[i].ty.n, kvx] := ⟨(ho.lt _ hobx).2, fun h => h, hX.cell⟩
   refine lP 1 tK rfl ?_
   refine lC (oL tK (fun j v hv => (hX).drop 1 (sub := [.int .u8 (fieldsF (spineF t).1)[i].ty.op, .string (fieldsF (spineF t).1)[i].ty.name, .int .i64 (fieldsF (spineF t).1)[i].ty.n, kvx]) rfl j v hv) rfl rfl rfl rfl rfl rfl ?_)
   have hfm := gM hil
   have hfp := fields_psz hfm
   have hfs := spine_shape t hsh2 _ (fields_mem hfm)
   refine lC (oK fo49 rfl rfl rfl (ih _ 116 _ _ _ (by omega) hfs hyx Lw (by omega)) ?_)
   rintro vc w7 ⟨hc, ew7⟩
   replace ho := ho.Y Lw hB ew7
   replace h2 := h2.Y Lw hB ew7
   replace hE := ew7.bl hE hB
   replace h4 := h4.Y ew7
   replace htl := Rep.Y htl ew7
   replace hrx := Rep.Y hrx ew7
   replace hyx := Rep.Y hyx ew7
   replace Lw := Lw.Y ew7
   replace hB := ew7.z hB
   obtain ⟨kvc, rfl, opc, nmc, n64c, hkc⟩ := tO hc
   refine lC (o_ixO tK ho (canTo_get hil) rfl rfl rfl rfl rfl rfl rfl rfl rfl ?_)
   intro ibz iuz hobz hrz hatz
   obtain ⟨szz, kvz, rfl, hyz⟩ := fld_open hrz
   replace hatz : OAt _ _ _ [.string (fieldsF (spineF t).1)[i].name, .int .u8 (fieldsF (spineF t).1)[i].ty.op, .string (fieldsF (spineF t).1)[i].ty.name, .int .i64 (fieldsF (spineF t).1)[i].ty.n, kvz] := hatz
   refine lP 1 tK rfl ?_
   have hnf : Rep.R _ w7 (.agg #[.string (fieldsF (spineF t).1)[i].name, .int .u8 (canonF (fieldsF (spineF t).1)[i].ty).op, .string (canonF (fieldsF (spineF t).1)[i].ty).name, .int .i64 (canonF (fieldsF (spineF t).1)[i].ty).n, kvc]) (canonFld (fieldsF (spineF t).1)[i]) := fld_mk szz hc
   refine lC (o_stP (j := i) (k := 1) (us := [.string (fieldsF (spineF t).1)[i].name, .int .u8 (fieldsF (spineF t).1)[i].ty.op, .string (fieldsF (spineF t).1)[i].ty.name, .int .i64 (fieldsF (spineF t).1)[i].ty.n, kvz]) tK ho hobz (by omega) (fun q a hq => hatz.cell q a hq) rfl hnf Lw rfl rfl rfl rfl rfl rfl rfl (Rep.one hc) (by decide) rfl rfl ?_)
   intro w8 hw8 sw8 frw8
   replace h2 := h2.sp sw8 (frw8 b2 h2.lt (fun e => d_ho_h2 _ hobz e.symm))
   replace hE := hE.trans sw8.below
   replace h4 := h4.sp sw8
   replace htl := Rep.sp htl sw8
   replace hrx := Rep.sp hrx sw8
   replace hyx := Rep.sp hyx sw8
   replace hc := Rep.sp hc sw8
   replace hsub := sw8.sb hsub
   replace Lw := sw8.low
   replace hB := sw8.z hB
   replace ho := hw8
   clear hw8
   refine q2 (xS (cG (lP 1 tK rfl ?_)))
   refine lC (o_ai rfl rfl rfl (by omega) rfl rfl ?_)
   refine lP 1 tK rfl (lN ?_)
   exact x_round (i + 1) (s4 rfl rfl rfl (gN rfl (by omega))) ⟨by omega, by rw [← canTo_set hil]; exact ho, h2, h4, htl, Lw, hsub, hE, hB⟩ (by omega)
  refine c_exit (xE (xE (x_blkE (xS (q0 (lP 1 tK rfl ?_))))))
  refine lC (oL tK (fun j v hv => h4.cell j v hv) rfl rfl rfl rfl rfl rfl ?_)
  have hall : canTo (fieldsF (spineF t).1) i = (fieldsF (spineF t).1).map canonFld := canTo_all (by omega)
  rw [hall] at ho
  have hml : ((fieldsF (spineF t).1).map canonFld).length = (fieldsF (spineF t).1).length := List.length_map _
  have hfz := ho.froze (by omega)
  replace h2 := h2.less (v := xv) d_ho_h2
  replace h4 := h4.wk (fun b _ h => less_sub (v := xv) b h)
  replace htl := Rep.wk htl (fun b _ h => less_sub (v := xv) b h)
  replace Lw : Low (Less M2 xv) w6 := fun b h => Lw b h.1
  replace hsub : ∀ b, _ → Less M2 xv b := fun b h => ⟨hsub b h, fun e => by have := (ho.lt b e).1; have := hlow0 b h; omega⟩
  refine lC (oK fo24 rfl rfl rfl (of_spec _ _ _ _ _ _ hfz htl Lw) ?_)
  rintro vj w9 ⟨hj, ew9⟩
  rw [← canon_row hop] at hj
  replace h2 := h2.Y Lw hB ew9
  replace hE := ew9.bl hE hB
  replace h4 := h4.Y ew9
  replace htl := Rep.Y htl ew9
  replace hfz := hfz.Y ew9
  replace Lw := Lw.Y ew9
  replace hB := ew9.z hB
  obtain ⟨kvj, rfl, opj, nmj, n64j, hkj⟩ := tO hj
  refine lC (o_st tK h2.box rfl rfl rfl rfl (Rep.one hj) rfl rfl ?_)
  intro w10 hw10 qw10 bew10
  have uw10 : UpdB _ _ _ := ⟨qw10, bew10⟩
  have sw10 := uw10.sp h2.inM Lw h2.ge
  have frw10 := qw10.2
  replace hE := hE.trans sw10.below
  replace h4 := h4.sp sw10
  replace htl := Rep.sp htl sw10
  replace hfz := hfz.sp sw10
  replace hj := Rep.sp hj sw10
  replace hsub := sw10.sb hsub
  replace Lw := sw10.low
  replace hB := sw10.z hB
  replace h2 : MB w.heap.size _ w10 b2 _ [.int .u8 (canonF t).op, .string (canonF t).name, .int .i64 (canonF t).n, kvj] := ⟨hw10, h2.inM, h2.ge⟩
  refine q1 (cR (xR ?_))
  refine x_ret1s tK (fun j v hv => h2.cell j v hv) rfl rfl rfl rfl rfl ?_
  exact ⟨Rep.wk hj (fun b _ h => hsub b h), hE⟩
 have hop : t.op ≠ 11 := by omega
 refine cK (xS (q0 (lP 1 tK rfl ?_)))
 refine lC (oD tK (h1.cell 0 _ rfl) rfl rfl rfl rfl rfl ?_)
 refine lP 1 tK rfl ?_
 refine lC (oD tK (h1.cell 1 _ rfl) rfl rfl rfl rfl rfl ?_)
 refine lP 1 tK rfl ?_
 refine lC (oD tK (h1.cell 2 _ rfl) rfl rfl rfl rfl rfl ?_)
 refine lC (o_build (cells := [.int .u8 t.op, .string t.name, .int .i64 t.n, .slice none 0 0]) bd25 rfl rfl rfl rfl rfl ?_)
 refine lC (o_new tK rfl rfl rfl ?_)
 intro b6 w11 qb6 ew11 hb6
 have ne_h2_h6 : b2 ≠ b6 := by have := h2.lt; omega
 have sw11 := Stp.add ew11 Lw hB (lQ qb6.symm) hb6.lt
 have h6 : MB w.heap.size (Rw.Add (Rw.Add M b2) b6) w11 b6 25 [.int .u8 0, .string ⟨#[]⟩, .int .i64 0, .slice none 0 0] := MB.mk' hb6 qb6 hB
 replace h2 := h2.sp sw11 (ew11.block b2 h2.lt)
 replace hE := hE.trans sw11.below
 replace ht := Rep.sp ht sw11
 replace hk := hk.sp sw11
 replace h1 := h1.sp sw11
 replace hsub := sw11.sb hsub
 replace Lw := sw11.low
 replace hB := sw11.z hB
 refine lC (o_st tK h6.box rfl rfl rfl rfl (by simp [Value.cells, Value.oneCell']) rfl rfl ?_)
 intro w12 hw12 qw12 bew12
 have uw12 : UpdB _ _ _ := ⟨qw12, bew12⟩
 have sw12 := uw12.sp h6.inM Lw h6.ge
 have frw12 := qw12.2
 replace h2 := h2.sp sw12 (frw12 b2 h2.lt ne_h2_h6)
 replace hE := hE.trans sw12.below
 replace ht := Rep.sp ht sw12
 replace hk := hk.sp sw12
 replace h1 := h1.sp sw12
 replace hsub := sw12.sb hsub
 replace Lw := sw12.low
 replace hB := sw12.z hB
 replace h6 : MB w.heap.size _ w12 b6 _ [.int .u8 t.op, .string t.name, .int .i64 t.n, .slice none 0 0] := ⟨hw12, h6.inM, h6.ge⟩
 refine q1 (cS (q0 (lP 1 tK rfl (q1 (cB ?_)))))
 have d_ho_h2 : ∀ x, (.slice none 0 0 : Value).ownBlock = some x → x ≠ b2 := fun x hx => by simp [Value.ownBlock] at hx
 have d_ho_h6 : ∀ x, (.slice none 0 0 : Value).ownBlock = some x → x ≠ b6 := fun x hx => by simp [Value.ownBlock] at hx
 refine c_loop3 (X := Nat) (Y := Value) (Z := Nat → Prop) (fun i v M1 => [(1, .pointer (some ⟨b1, 0, none⟩)), (2, .pointer (some ⟨b2, 0, none⟩)), (6, .pointer (some ⟨b6, 0, none⟩)), (7, .int .i64 (i : Nat))]) (fun i v M1 w' => i ≤ t.kids.length ∧ OwnSl 25 w.heap.size M1 w' v ((t.kids.take i).map canonF) ∧ MB w.heap.size M1 w' b2 25 [.int .u8 0, .string ⟨#[]⟩, .int .i64 0, .slice none 0 0] ∧ MB w.heap.size M1 w' b6 25 [.int .u8 t.op, .string t.name, .int .i64 t.n, v] ∧ At M1 w' b1 0 [.int .u8 t.op, .string t.name, .int .i64 t.n, kv] ∧ (∀ x, (v : Value).ownBlock = some x → x ≠ b2) ∧ (∀ x, (v : Value).ownBlock = some x → x ≠ b6) ∧ Sl M1 w' kv t.kids ∧ Low M1 w' ∧ (∀ b, M b → M1 b) ∧ Below w.heap.size w w' ∧ w.heap.size ≤ w'.heap.size) (fun i v M1 => t.kids.length - i) (0) (.slice none 0 0) ((Rw.Add (Rw.Add M b2) b6)) (s4 rfl rfl rfl rfl) ?_ ?_
 ·exact ⟨Nat.zero_le _, own_nil, h2, h6, h1, d_ho_h2, d_ho_h6, hk, Lw, hsub, hE, hB⟩
 rintro i v M1 w13 ⟨hi, ho, h2, h6, h1, d_ho_h2, d_ho_h6, hk, Lw, hsub, hE, hB⟩
 refine cS (q0 (lP 2 tK rfl ?_))
 refine lC (oD tK (h1.cell 3 _ rfl) rfl rfl rfl rfl rfl ?_)
 refine lC (o_len tK hk rfl rfl rfl rfl rfl ?_)
 refine lP 1 tK rfl (q1 ?_)
 refine cP _ rfl (fun c2 => ?_) (fun c2 => ?_)
 ·refine cK (xS (cS (cB ?_)))
  refine a_beg Ext rfl ?_
  intro w14 ew14
  replace ho := ho.Y Lw hB ew14
  replace h2 := h2.Y Lw hB ew14
  replace h6 := h6.Y Lw hB ew14
  replace hE := ew14.bl hE hB
  replace h1 := h1.Y ew14
  replace hk := hk.Y ew14
  replace Lw := Lw.Y ew14
  replace hB := ew14.z hB
  have hS : Ext w14 w14 := ext_refl _
  have D_h2 := h2.box
  have D_h6 := h6.box
  have D_h1 := h1
  have D_hk := hk
  refine a_p 0 tK rfl rfl rfl rfl (by kernel_rfl) i3 hS ?_
  refine a_ld 1 tK (fun _ hs => (D_h6.Y hs).cell 3 _ rfl) rfl rfl rfl rfl rfl rfl (by kernel_rfl) i3 hS ?_
  refine a_p 2 tK rfl rfl rfl rfl (by kernel_rfl) i3 hS ?_
  refine a_ld 3 tK (fun _ hs => (D_h1.Y hs).cell 3 _ rfl) rfl rfl rfl rfl rfl rfl (by kernel_rfl) i3 hS ?_
  refine a_p 4 tK rfl rfl rfl rfl (by kernel_rfl) i3 hS ?_
  have hik : i < t.kids.length := by omega
  have hp1 := psz_take hik
  obtain ⟨kd, hkd⟩ := kid_shape hsh hik
  refine a_ixS 5 tK D_hk (gE hik) rfl rfl rfl rfl rfl rfl rfl rfl rfl rfl (by kernel_rfl) i4 hS ?_
  intro ebx eox eux hyx hX
  obtain ⟨kvx, rfl, opx, nmx, n64x, hkx⟩ := tO hyx
  replace hX : At M1 w14 ebx eox [.int .u8 t.kids[i].op, .string t.kids[i].name, .int .i64 t.kids[i].n, kvx] := hX
  refine a_lds 6 tK (fun _ hs j v hv => (hX.Y hs).cell j v hv) rfl rfl rfl rfl rfl rfl rfl (by kernel_rfl) i3 hS ?_
  refine a_one 7 rfl (by kernel_rfl) (oK fo49 rfl rfl rfl (ih _ _ _ _ _ (by omega) hkd hyx Lw (by omega)) ?_)
  rintro vc w15 ⟨hc, ew15⟩
  replace hS := hS.then ew15
  replace ho := ho.Y Lw hB ew15
  replace h2 := h2.Y Lw hB ew15
  replace h6 := h6.Y Lw hB ew15
  replace hE := ew15.bl hE hB
  replace h1 := h1.Y ew15
  replace hk := hk.Y ew15
  replace hyx := Rep.Y hyx ew15
  replace hkx := hkx.Y ew15
  replace hX := hX.Y ew15
  replace Lw := Lw.Y ew15
  replace hB := ew15.z hB
  refine ⟨hS, ?_⟩
  refine a_one 8 rfl (by kernel_rfl) (o_bs tK rfl rfl rfl rfl rfl rfl rfl (sz1 (Rep.size hc)) rfl rfl rfl ?_)
  intro bw16 w16 qbw16 ew16 hbw16
  have nbw16 := nO Lw qbw16
  replace hS := hS.then ew16
  replace ho := ho.Y Lw hB ew16
  replace h2 := h2.Y Lw hB ew16
  replace h6 := h6.Y Lw hB ew16
  replace hE := ew16.bl hE hB
  replace h1 := h1.Y ew16
  replace hk := hk.Y ew16
  replace hyx := Rep.Y hyx ew16
  replace hkx := hkx.Y ew16
  replace hX := hX.Y ew16
  replace hc := Rep.Y hc ew16
  replace Lw := Lw.Y ew16
  replace hB := ew16.z hB
  refine ⟨hS, ?_⟩
  refine a_barS Ext 9 rfl (by kernel_rfl) (by kernel_rfl) (o_app1 tK ho hbw16 nbw16 hc Lw hB rfl rfl rfl rfl rfl rfl rfl (by simp; omega) (by show (_ + _) * 56 ≤ _; simp; omega) rfl rfl ?_)
  intro vw17 w17 Mw17 hw17 sw17 frw17 blw17
  have zd_ho_h2 := d_ho_h2
  replace d_ho_h2 : ∀ x, (vw17 : Value).ownBlock = some x → x ≠ b2 := fun x hx => (blw17 x hx).elim (d_ho_h2 x) (fun h e => by have := h2.lt; omega)
  have zd_ho_h6 := d_ho_h6
  replace d_ho_h6 : ∀ x, (vw17 : Value).ownBlock = some x → x ≠ b6 := fun x hx => (blw17 x hx).elim (d_ho_h6 x) (fun h e => by have := h6.lt; omega)
  replace h2 := h2.sp sw17 (frw17 b2 h2.lt (fun e => zd_ho_h2 _ e.symm rfl))
  replace h6 := h6.sp sw17 (frw17 b6 h6.lt (fun e => zd_ho_h6 _ e.symm rfl))
  replace hE := hE.trans sw17.below
  replace h1 := h1.sp sw17
  replace hk := hk.sp sw17
  replace hyx := Rep.sp hyx sw17
  replace hkx := hkx.sp sw17
  replace hX := hX.sp sw17
  replace hc := Rep.sp hc sw17
  replace hsub := sw17.sb hsub
  replace Lw := sw17.low
  replace hB := sw17.z hB
  replace hS : Ext w17 w17 := ext_refl _
  replace ho := hw17
  clear hw17
  have D_h2 := h2.box
  have D_h6 := h6.box
  have D_h1 := h1
  have D_hk := hk
  have D_hkx := hkx
  have D_hatx := hX
  refine a_p 10 tK rfl rfl rfl rfl (by kernel_rfl) i3 hS ?_
  obtain ⟨av6, cv6, rfl, _⟩ := ho.val
  refine a_barS Ext 11 rfl (by kernel_rfl) (by kernel_rfl) (o_st tK h6.box rfl rfl rfl rfl (by simp [Value.cells, Value.oneCell']) rfl rfl ?_)
  intro w18 hw18 qw18 bew18
  have uw18 : UpdB _ _ _ := ⟨qw18, bew18⟩
  have sw18 := uw18.sp h6.inM Lw h6.ge
  have frw18 := qw18.2
  replace ho := ho.sp sw18 (fun x hx => frw18 x (ho.lt x hx).2 (d_ho_h6 x hx))
  replace h2 := h2.sp sw18 (frw18 b2 h2.lt ne_h2_h6)
  replace hE := hE.trans sw18.below
  replace h1 := h1.sp sw18
  replace hk := hk.sp sw18
  replace hyx := Rep.sp hyx sw18
  replace hkx := hkx.sp sw18
  replace hX := hX.sp sw18
  replace hc := Rep.sp hc sw18
  replace hsub := sw18.sb hsub
  replace Lw := sw18.low
  replace hB := sw18.z hB
  replace hS : Ext w18 w18 := ext_refl _
  replace h6 : MB w.heap.size _ w18 b6 _ [.int .u8 t.op, .string t.name, .int .i64 t.n, (.slice av6 ((t.kids.take i).map canonF ++ [canonF t.kids[i]]).length cv6)] := ⟨hw18, h6.inM, h6.ge⟩
  have D_h2 := h2.box
  have D_h6 := h6.box
  have D_h1 := h1
  have D_hk := hk
  have D_hkx := hkx
  have D_hatx := hX
  refine a_end (by kernel_rfl) ?_
  refine x_blk (xS (cG (lP 1 tK rfl ?_)))
  refine lC (o_ai rfl rfl rfl (by omega) rfl rfl ?_)
  refine lP 1 tK rfl (lN ?_)
  exact x_round3 (i + 1) ((.slice av6 ((t.kids.take i).map canonF ++ [canonF t.kids[i]]).length cv6)) (Mw17) (s4 rfl rfl rfl (gN rfl (by omega))) ⟨by omega, by rw [List.take_succ_eq_append_getElem hik, List.map_append]; exact ho, h2, h6, h1, d_ho_h2, d_ho_h6, hk, Lw, hsub, hE, hB⟩ (by omega)
 refine c_exit (xE (xE (x_blkE (xS (q0 ?_)))))
 refine lC (oL tK (fun j v hv => h6.cell j v hv) rfl rfl rfl rfl rfl rfl ?_)
 obtain rfl : i = t.kids.length := by omega
 rw [List.take_of_length_le (lR _)] at ho
 obtain ⟨av, cv, rfl, hcv⟩ := ho.val
 have hml : (t.kids.map canonF).length = t.kids.length := List.length_map _
 refine lC (o_st tK h2.box rfl rfl rfl rfl (by intro u hu; simp [Value.cells] at hu; rcases hu with rfl | rfl | rfl | rfl <;> rfl) rfl rfl ?_)
 intro w19 hw19 qw19 bew19
 have uw19 : UpdB _ _ _ := ⟨qw19, bew19⟩
 have sw19 := uw19.sp h2.inM Lw h2.ge
 have frw19 := qw19.2
 replace ho := ho.sp sw19 (fun x hx => frw19 x (ho.lt x hx).2 (d_ho_h2 x hx))
 replace h6 := h6.sp sw19 (frw19 b6 h6.lt ne_h2_h6.symm)
 replace hE := hE.trans sw19.below
 replace h1 := h1.sp sw19
 replace hk := hk.sp sw19
 replace hsub := sw19.sb hsub
 replace Lw := sw19.low
 replace hB := sw19.z hB
 replace h2 : MB w.heap.size _ w19 b2 _ [.int .u8 t.op, .string t.name, .int .i64 t.n, .slice av (t.kids.map canonF).length cv] := ⟨hw19, h2.inM, h2.ge⟩
 refine q1 (cR ?_)
 refine x_ret1s tK (fun j v hv => h2.cell j v hv) rfl rfl rfl rfl rfl ?_
 have hfin := ty_mk op nm n64 (ho.sl (by omega) hlow0 hsub)
 rw [← canon_other hop] at hfin
 exact ⟨hfin, hE⟩
theorem kRight_specB (t : Ty) (M : Nat → Prop) (w : World) (v : Value) (ht : Rep.R M w v t) (Lw : Low M w) : Calls Try.prog 16 #[v] w (Ret fun r w' => r = .bool (rightB t) ∧ Ext w w') := by
 have h := kRight_spec t M w v ht Lw
 rwa [rightB_law] at h
theorem kRow_specB (t : Ty) (M : Nat → Prop) (w : World) (v : Value) (ht : Rep.R M w v t) (Lw : Low M w) : Calls Try.prog 18 #[v] w (Ret fun r w' => r = .bool (rowB t) ∧ Ext w w') := by
 have h := kRow_spec t M w v ht Lw
 rwa [rowB_law] at h
theorem either_specB (t : Ty) (M : Nat → Prop) (w : World) (v : Value) (ht : Rep.R M w v t) (Lw : Low M w) : Calls Try.prog 70 #[v] w (Ret fun r w' => r = .bool (rightB t || rowB t) ∧ Ext w w') := by
 have h := either_spec t M w v ht Lw
 rwa [rightB_law, rowB_law] at h
theorem shape_either {t : Ty} (h : (rightB t || rowB t) = true) : ∃ c, shapeF t c = true := by
 rw [Bool.or_eq_true] at h
 rcases h with h | h
 ·unfold rightB at h; rw [Bool.and_eq_true] at h; exact ⟨_, h.1⟩
 ·unfold rowB at h; rw [Bool.and_eq_true] at h; exact ⟨_, h.1⟩
end Go.Proofs.Ytpoahmeacjggfaa
namespace Rw
/-- How many fields of a name. -/
def cntN (l : List Fld) (s : ByteArray) : Nat := (l.filter fun f => decide (f.name = s)).length
/-- How many fields of lesser names. -/
def lessN (l : List Fld) (s : ByteArray) : Nat := (l.filter fun f => decide (cmpN f.name s < 0)).length
theorem cntN_le (l : List Fld) (s : ByteArray) : cntN l s ≤ l.length := List.length_filter_le _ _
theorem cntN_app (l k : List Fld) (s : ByteArray) : cntN (l ++ k) s = cntN l s + cntN k s := by unfold cntN; rw [List.filter_append, List.length_append]
theorem lessN_app (l k : List Fld) (s : ByteArray) : lessN (l ++ k) s = lessN l s + lessN k s := by unfold lessN; rw [List.filter_append, List.length_append]
theorem cntN_yes {f : Fld} {s : ByteArray} (h : f.name = s) : cntN [f] s = 1 := by simp [cntN, h]
theorem cntN_no {f : Fld} {s : ByteArray} (h : f.name ≠ s) : cntN [f] s = 0 := by simp [cntN, h]
theorem lessN_yes {f : Fld} {s : ByteArray} (h : cmpN f.name s < 0) : lessN [f] s = 1 := by simp [lessN, h]
theorem lessN_no {f : Fld} {s : ByteArray} (h : ¬ cmpN f.name s < 0) : lessN [f] s = 0 := by simp [lessN]; omega
theorem cntN_takeY {l : List Fld} {i : Nat} {s : ByteArray} (hi : i < l.length) (h : l[i].name = s) : cntN (l.take (i + 1)) s = cntN (l.take i) s + 1 := by rw [take_snoc hi, cntN_app, cntN_yes h]
theorem cntN_takeN {l : List Fld} {i : Nat} {s : ByteArray} (hi : i < l.length) (h : l[i].name ≠ s) : cntN (l.take (i + 1)) s = cntN (l.take i) s := by rw [take_snoc hi, cntN_app, cntN_no h]; rfl
theorem cntN_take_le (l : List Fld) (i : Nat) (s : ByteArray) : cntN (l.take i) s ≤ i := Nat.le_trans (cntN_le _ _) (by rw [List.length_take]; omega)
theorem cntN_zero {l : List Fld} {s : ByteArray} (h : ∀ f ∈ l, f.name ≠ s) : cntN l s = 0 := by
  unfold cntN
  rw [List.filter_eq_nil_iff.2 (fun f hf => by simpa using h f hf)]; rfl
theorem lessN_zero {l : List Fld} {s : ByteArray} (h : ∀ f ∈ l, ¬ cmpN f.name s < 0) : lessN l s = 0 := by
  unfold lessN
  rw [List.filter_eq_nil_iff.2 (fun f hf => by simpa using h f hf)]; rfl
theorem lt_ne {a b : ByteArray} (h : cmpN a b < 0) : a ≠ b := fun e => by subst e; rw [cmpN_eq.2 rfl] at h; omega
theorem srt_run : ∀ {l : List Fld}, Srt l → ∀ (s : ByteArray) (k : Nat) (h : k < l.length), (l[k].name = s ↔ lessN l s ≤ k ∧ k < lessN l s + cntN l s)
  | [], _, _, _, h => absurd h (Nat.not_lt_zero _)
  | x :: l, hs, s, k, h => by
    obtain ⟨h1, h2⟩ := List.pairwise_cons.1 hs
    have ih := srt_run h2 s
    have e1 : cntN (x :: l) s = cntN [x] s + cntN l s := cntN_app [x] l s
    have e2 : lessN (x :: l) s = lessN [x] s + lessN l s := lessN_app [x] l s
    by_cases hx : x.name = s
    · have n0 : ∀ f ∈ l, ¬ cmpN f.name s < 0 := fun f hf => by have := h1 f hf; rw [hx] at this; exact this
      have z := lessN_zero n0
      rw [cntN_yes hx] at e1
      rw [lessN_no (fun hlt => lt_ne hlt hx)] at e2
      cases k with
      | zero => simp only [List.getElem_cons_zero, hx, true_iff]; omega
      | succ k =>
        have := ih k (by simpa using h)
        simp only [List.getElem_cons_succ]
        rw [this]; omega
    · by_cases hlt : cmpN x.name s < 0
      · rw [cntN_no hx] at e1
        rw [lessN_yes hlt] at e2
        cases k with
        | zero => simp only [List.getElem_cons_zero]; exact ⟨fun e => absurd e hx, fun e => by omega⟩
        | succ k =>
          have := ih k (by simpa using h)
          simp only [List.getElem_cons_succ]
          rw [this]; omega
      · have hle : leN s x.name := hlt
        have ne : ∀ f ∈ l, f.name ≠ s := fun f hf e => by
          have := h1 f hf
          rw [e] at this
          exact hx (leN_antisymm this hle)
        have z := cntN_zero ne
        rw [cntN_no hx] at e1
        constructor
        · intro e
          cases k with
          | zero => exact absurd e hx
          | succ k => exact absurd e (ne _ (gM _))
        · intro e; omega
theorem nth_iff {l : List Fld} (hs : Srt l) (s : ByteArray) (n : Nat) : n < cntN l s ↔ ∃ h : lessN l s + n < l.length, l[lessN l s + n].name = s := by
  constructor
  · intro h
    have hle : lessN l s + cntN l s ≤ l.length := by
      clear h
      unfold lessN cntN
      induction l with
      | nil => simp
      | cons x l ih =>
        have := ih (List.pairwise_cons.1 hs).2
        simp only [List.filter_cons, List.length_cons]
        by_cases hx : x.name = s
        · have : ¬ cmpN x.name s < 0 := fun hlt => lt_ne hlt hx
          simp [hx, cmpN_eq.2 rfl] at this ⊢
          omega
        · by_cases hlt : cmpN x.name s < 0 <;> simp [hx, hlt] <;> omega
    exact ⟨by omega, (srt_run hs s _ (by omega)).2 ⟨by omega, by omega⟩⟩
  · rintro ⟨h, e⟩
    have := (srt_run hs s _ h).1 e
    omega
/-! ## Parts of what is right -/
theorem rightB_of {t : Ty} (h : rightB t = true) : shapeF t 116 = true ∧ onceB t = true := by unfold rightB at h; rwa [Bool.and_eq_true] at h
theorem rowB_of {t : Ty} (h : rowB t = true) : shapeF t 114 = true ∧ onceB t = true := by unfold rowB at h; rwa [Bool.and_eq_true] at h
theorem rightB_mk {t : Ty} (h : shapeF t 116 = true) (k : onceB t = true) : rightB t = true := by unfold rightB; rw [h, k]; rfl
theorem rowB_mk {t : Ty} (h : shapeF t 114 = true) (k : onceB t = true) : rowB t = true := by unfold rowB; rw [h, k]; rfl
theorem once_kid {t k : Ty} (h : onceB t = true) (hk : k ∈ t.kids) : onceB k = true := by
  rw [once_true] at h ⊢
  intro x hx y hy
  have hs : ∀ z ∈ partsL k, z ∈ partsL t := fun z hz => by
    rw [partsL_eq t]
    exact List.mem_cons_of_mem _ (List.mem_flatMap.2 ⟨k, hk, hz⟩)
  exact h x (hs x hx) y (hs y hy)
theorem right_op {t : Ty} (h : rightB t = true) : t.op < 8 := by
  obtain ⟨ks, _, _, _, _, h5⟩ := shape_pos (rightB_of h).1
  have : ¬ 8 ≤ t.op := by
    intro hc
    rw [dT hc] at h5
    exact absurd h5 (by decide)
  omega
theorem row_op {t : Ty} (h : rowB t = true) : 8 ≤ t.op := by
  obtain ⟨ks, _, _, _, _, h5⟩ := shape_pos (rowB_of h).1
  by_cases hc : 8 ≤ t.op
  · exact hc
  · rw [dF hc] at h5
    exact absurd h5 (by decide)
theorem right_n {t : Ty} (h : rightB t = true) (ho : t.op ≠ 7) : t.n = 0 := by
  obtain ⟨ks, _, _, _, h4, _⟩ := shape_pos (rightB_of h).1
  have := right_op h
  unfold headOk at h4
  simp only [Bool.and_eq_true, Bool.or_eq_true, decide_eq_true_eq] at h4
  omega
theorem kids_at {t : Ty} {c : UInt8} {ks : ByteArray} (h : shapeF t c = true) (hk : kidsOf t.op = some ks) : t.kids.length = ks.size ∧ ∀ (j : Nat) x d, t.kids[j]? = some x → ks.data[j]? = some d → shapeF x d = true := by
  obtain ⟨ks', h1, h2, h3, _⟩ := shape_pos h
  rw [hk] at h1
  cases h1
  exact ⟨h2, h3⟩
theorem fun_kids {t : Ty} (h : rightB t = true) (ho : t.op = 4) : ∃ k r, t.kids = [k, r] ∧ rightB k = true ∧ rightB r = true := by
  obtain ⟨h1, h2⟩ := kids_at (rightB_of h).1 (show kidsOf t.op = some ⟨#[116, 116]⟩ by rw [ho]; rfl)
  rcases e : t.kids with _ | ⟨k, _ | ⟨r, _ | ⟨x, l⟩⟩⟩ <;> rw [e] at h1 <;> simp [ByteArray.size] at h1
  have ho2 := (rightB_of h).2
  exact ⟨k, r, rfl, rightB_mk (h2 0 k 116 (by rw [e]; rfl) rfl) (once_kid ho2 (by rw [e]; simp)), rightB_mk (h2 1 r 116 (by rw [e]; rfl) rfl) (once_kid ho2 (by rw [e]; simp))⟩
theorem rec_kids {t : Ty} (h : rightB t = true) (ho : t.op = 5 ∨ t.op = 6) : ∃ k, t.kids = [k] ∧ rowB k = true := by
  obtain ⟨h1, h2⟩ := kids_at (rightB_of h).1 (show kidsOf t.op = some ⟨#[114]⟩ by rcases ho with ho | ho <;> rw [ho] <;> rfl)
  rcases e : t.kids with _ | ⟨k, _ | ⟨r, l⟩⟩ <;> rw [e] at h1 <;> simp [ByteArray.size] at h1
  exact ⟨k, rfl, rowB_mk (h2 0 k 114 (by rw [e]; rfl) rfl) (once_kid (rightB_of h).2 (by rw [e]; simp))⟩
theorem spine_right {t : Ty} : rowB t = true → (∀ f ∈ (spineF t).1, rightB f.ty = true) ∧ rowB (spineF t).2 = true ∧ (spineF t).2.op ≠ 11 := by
  induction t using Ty.ind with
  | h t ih =>
    intro h
    by_cases ho : t.op = 11
    · obtain ⟨k, r, e, h1, h2⟩ := shape_row (rowB_of h).1 ho
      rw [spine_yes ho e]
      have hon := (rowB_of h).2
      obtain ⟨i1, i2⟩ := ih r (by rw [e]; simp) (rowB_mk h2 (once_kid hon (by rw [e]; simp)))
      refine ⟨fun f hf => ?_, i2⟩
      rcases List.mem_cons.1 hf with rfl | hf
      · exact rightB_mk h1 (once_kid hon (by rw [e]; simp))
      · exact i1 f hf
    · rw [spine_no ho]
      exact ⟨fun f hf => (by cases hf), h, ho⟩
theorem flat_yes {t : Ty} (h : rowB t = true) : flatF t = (fieldsF (spineF t).1, (spineF t).2) := by rw [flatF, h]; rfl
theorem flt_right {t : Ty} (h : rowB t = true) {f : Fld} (hf : f ∈ (flatF t).1) : rightB f.ty = true := by
  rw [flat_yes h] at hf
  exact (spine_right h).1 f (fields_mem hf)
theorem flt_psz {t : Ty} {f : Fld} (hf : f ∈ (flatF t).1) : psz f.ty < psz t := by
  unfold flatF at hf
  cases h : rowB t
  · rw [h] at hf; cases hf
  · rw [h] at hf; exact fields_psz hf
theorem flt_tail {t : Ty} (h : rowB t = true) : (flatF t).2.op ≠ 3 := by
  rw [flat_yes h]
  have := row_op (spine_right h).2.1
  show (spineF t).2.op ≠ 3
  omega
theorem flt_srt (t : Ty) : Srt (flatF t).1 := by
  unfold flatF
  cases rowB t
  · exact List.Pairwise.nil
  · exact fieldsF_srt _
theorem flt_len (t : Ty) : (flatF t).1.length < psz t := by
  have := spine_len t
  have h0 := psz_pos t
  unfold flatF
  cases rowB t
  · simpa using h0
  · simpa [fieldsF_len] using this
/-! ## The relations -/
/-- By a ? alone. -/
def dynF (less : Bool) (a b : Ty) : Bool := (decide (b.op = 3) || decide (b.op = 9)) || (!less && (decide (a.op = 3) || decide (a.op = 9)))
/-- Fields of the first row, of the second one. -/
def okL (h : Ty → Ty → Bool) (l m : List Fld) (t : Ty) (i : Nat) : Bool := match l[i]? with
  | none => true
  | some f => bif decide (cntN (l.take i) f.name < cntN m f.name) then (match m[lessN m f.name + cntN (l.take i) f.name]? with
    | some g => h f.ty g.ty
    | none => false) else decide (t.op = 9)
def okM (less : Bool) (l m : List Fld) (s : Ty) (k : Nat) : Bool := match m[k]? with
  | none => true
  | some g => decide (cntN (m.take k) g.name < cntN l g.name) || (!less && decide (s.op = 9))
def tailF (less : Bool) (s t : Ty) : Bool := dynF less s t || (decide (s.op = t.op) && decide (s.n = t.n))
def rowsN (h : Ty → Ty → Bool) (less : Bool) (a b : Ty) : Bool :=
  (List.range (flatF a).1.length).all (okL h (flatF a).1 (flatF b).1 (flatF b).2) && ((List.range (flatF b).1.length).all (okM less (flatF a).1 (flatF b).1 (flatF a).2) && tailF less (flatF a).2 (flatF b).2)
def funP (h : Ty → Ty → Bool) : List Ty → List Ty → Bool
  | [k, r], [k2, r2] => h k k2 && h r r2
  | _, _ => false
def recP (less : Bool) (h : Ty → Ty → Bool) : List Ty → List Ty → Bool
  | [k], [k2] => rowsN h less k k2
  | _, _ => false
def holdsN : Nat → Bool → Ty → Ty → Bool
  | 0, _, _, _ => false
  | n + 1, less, a, b => dynF less a b || ((decide (a.op = b.op) && decide (a.n = b.n)) && (bif decide (a.op = 4) then funP (holdsN n less) a.kids b.kids
    else bif decide (a.op = 5) || decide (a.op = 6) then recP less (holdsN n less) a.kids b.kids else true))
def holdsF (less : Bool) (a b : Ty) : Bool := holdsN (psz a) less a b
def rowsF (less : Bool) (a b : Ty) : Bool := rowsN (holdsF less) less a b
theorem okL_congr {h k : Ty → Ty → Bool} {l m : List Fld} {t : Ty} (e : ∀ f ∈ l, ∀ y, h f.ty y = k f.ty y) (i : Nat) : okL h l m t i = okL k l m t i := by
  unfold okL
  cases hl : l[i]? with
  | none => rfl
  | some f =>
    simp only
    cases m[lessN m f.name + cntN (l.take i) f.name]? with
    | none => rfl
    | some g => simp only [e f (List.mem_of_getElem? hl) g.ty]
theorem rowsN_congr {h k : Ty → Ty → Bool} {less : Bool} {a b : Ty} (e : ∀ x, psz x < psz a → ∀ y, h x y = k x y) : rowsN h less a b = rowsN k less a b := by
  unfold rowsN
  rw [show okL h (flatF a).1 (flatF b).1 (flatF b).2 = okL k (flatF a).1 (flatF b).1 (flatF b).2 from funext fun i => okL_congr (fun f hf y => e f.ty (flt_psz hf) y) i]
theorem funP_congr {h k : Ty → Ty → Bool} {l : List Ty} (e : ∀ x ∈ l, ∀ y, h x y = k x y) (m : List Ty) : funP h l m = funP k l m := by
  rcases l with _ | ⟨x, _ | ⟨y, _ | ⟨z, l⟩⟩⟩ <;> rcases m with _ | ⟨x2, _ | ⟨y2, _ | ⟨z2, m⟩⟩⟩ <;> try rfl
  simp only [funP]
  rw [e x (by simp), e y (by simp)]
theorem recP_congr {less : Bool} {h k : Ty → Ty → Bool} {l : List Ty} (e : ∀ x ∈ l, ∀ z, psz z ≤ psz x → ∀ y, h z y = k z y) (m : List Ty) : recP less h l m = recP less k l m := by
  rcases l with _ | ⟨x, _ | ⟨y, l⟩⟩ <;> rcases m with _ | ⟨x2, _ | ⟨y2, m⟩⟩ <;> try rfl
  simp only [recP]
  exact rowsN_congr fun z hz y => e x (by simp) z (by omega) y
theorem holdsN_eq {less : Bool} : ∀ (n m : Nat) (a : Ty), psz a ≤ n → psz a ≤ m → ∀ b, holdsN n less a b = holdsN m less a b := by
  intro n
  induction n with
  | zero => intro m a h; have := psz_pos a; omega
  | succ n ih =>
    intro m a hn hm b
    cases m with
    | zero => have := psz_pos a; omega
    | succ m =>
      rw [holdsN, holdsN]
      rw [funP_congr (h := holdsN n less) (k := holdsN m less) (fun x hx y => by have := kid_psz hx; exact ih m x (by omega) (by omega) y),
        recP_congr (h := holdsN n less) (k := holdsN m less) (fun x hx z hz y => by have := kid_psz hx; exact ih m z (by omega) (by omega) y)]
theorem holdsF_eq (less : Bool) (a b : Ty) : holdsF less a b = (dynF less a b || ((decide (a.op = b.op) && decide (a.n = b.n)) && (bif decide (a.op = 4) then funP (holdsF less) a.kids b.kids
    else bif decide (a.op = 5) || decide (a.op = 6) then recP less (holdsF less) a.kids b.kids else true))) := by
  have hp := psz_pos a
  obtain ⟨n, hn⟩ : ∃ n, psz a = n + 1 := ⟨psz a - 1, by omega⟩
  show holdsN (psz a) less a b = _
  rw [hn, holdsN]
  rw [funP_congr (h := holdsN n less) (k := holdsF less) (fun x hx y => by have := kid_psz hx; exact holdsN_eq n (psz x) x (by omega) (by omega) y),
    recP_congr (h := holdsN n less) (k := holdsF less) (fun x hx z hz y => by have := kid_psz hx; exact holdsN_eq n (psz z) z (by omega) (by omega) y)]
/-! ## The scan -/
theorem srt_idx : ∀ {m : List Fld}, Srt m → ∀ {k : Nat} (h : k < m.length), k = lessN m m[k].name + cntN (m.take k) m[k].name
  | [], _, _, h => absurd h (Nat.not_lt_zero _)
  | x :: m, hs, 0, _ => by
    obtain ⟨h1, h2⟩ := List.pairwise_cons.1 hs
    have z : lessN (x :: m) x.name = 0 := lessN_zero fun f hf => by
      rcases List.mem_cons.1 hf with rfl | hf
      · rw [cmpN_eq.2 rfl]; simp
      · exact h1 f hf
    simp only [List.getElem_cons_zero, z]; rfl
  | x :: m, hs, k + 1, h => by
    obtain ⟨h1, h2⟩ := List.pairwise_cons.1 hs
    have hk : k < m.length := by simpa using h
    have ih := srt_idx h2 hk
    have e1 : lessN (x :: m) m[k].name = lessN [x] m[k].name + lessN m m[k].name := lessN_app [x] m _
    have e2 : cntN (x :: m.take k) m[k].name = cntN [x] m[k].name + cntN (m.take k) m[k].name := cntN_app [x] _ _
    have hx : leN x.name m[k].name := h1 _ (gM hk)
    simp only [List.getElem_cons_succ, List.take_succ_cons]
    rw [e1, e2]
    by_cases hn : x.name = m[k].name
    · rw [cntN_yes hn, lessN_no (fun hlt => lt_ne hlt hn)]; omega
    · have : cmpN x.name m[k].name < 0 := by
        have hne : cmpN x.name m[k].name ≠ 0 := fun e => hn (cmpN_eq.1 e)
        have h2 : ¬ cmpN m[k].name x.name < 0 := hx
        rw [cmpN_flip] at h2
        omega
      rw [cntN_no hn, lessN_yes this]; omega
/-- How far the scan has come. -/
structure MrgI (l m : List Fld) (i k : Nat) : Prop where
  fl : ∀ (p : Nat) (f : Fld), i ≤ p → l[p]? = some f → cntN (m.take k) f.name ≤ cntN (l.take i) f.name
  fm : ∀ (q : Nat) (g : Fld), k ≤ q → m[q]? = some g → cntN (l.take i) g.name ≤ cntN (m.take k) g.name
theorem MrgI.start (l m : List Fld) : MrgI l m 0 0 := ⟨fun _ _ _ _ => lR _, fun _ _ _ _ => lR _⟩
theorem MrgI.symm {l m : List Fld} {i k : Nat} (h : MrgI l m i k) : MrgI m l k i := ⟨h.fm, h.fl⟩
theorem cnt_rest {m : List Fld} {k : Nat} {s : ByteArray} (h : ∀ (q : Nat) (g : Fld), k ≤ q → m[q]? = some g → g.name ≠ s) : cntN m s = cntN (m.take k) s := by
  have e : cntN (m.take k ++ m.drop k) s = cntN (m.take k) s + cntN (m.drop k) s := cntN_app _ _ _
  rw [List.take_append_drop] at e
  rw [e, cntN_zero (l := m.drop k) fun f hf => ?_]; rfl
  obtain ⟨j, hj, rfl⟩ := List.getElem_of_mem hf
  rw [List.length_drop] at hj
  rw [List.getElem_drop]
  exact h (k + j) _ (by omega) (gE (by omega))
theorem MrgI.stepL {l m : List Fld} {i k : Nat} (h : MrgI l m i k) (hm : Srt m) (hi : i < l.length) (hk : k = m.length ∨ ∃ hk : k < m.length, cmpN l[i].name m[k].name < 0) : MrgI l m (i + 1) k ∧ ¬ cntN (l.take i) l[i].name < cntN m l[i].name := by
  have hno : ∀ (q : Nat) (g : Fld), k ≤ q → m[q]? = some g → g.name ≠ l[i].name := fun q g hq hg e => by
    have hq2 := (List.getElem?_eq_some_iff.1 hg).1
    rcases hk with hk | ⟨hk, hlt⟩
    · omega
    · have hle : leN m[k].name g.name := by
        by_cases e2 : q = k
        · subst e2; rw [gE hk] at hg; cases hg; exact leN_refl _
        · have := List.pairwise_iff_getElem.1 hm k q hk hq2 (by omega)
          rw [gE hq2] at hg; cases hg; exact this
      rw [e] at hle
      exact hle hlt
  refine ⟨⟨fun p f hp hf => ?_, fun q g hq hg => ?_⟩, ?_⟩
  · have := h.fl p f (by omega) hf
    by_cases e : l[i].name = f.name
    · rw [cntN_takeY hi e]; omega
    · rw [cntN_takeN hi e]; exact this
  · have := h.fm q g hq hg
    rw [cntN_takeN hi (fun e => hno q g hq hg e.symm)]; exact this
  · have h1 := h.fl i l[i] (lR _) (gE hi)
    rw [cnt_rest hno]; omega
theorem cnt_at {l : List Fld} {i : Nat} (hi : i < l.length) : cntN (l.take i) l[i].name < cntN l l[i].name := by
  have e : cntN (l.take (i + 1) ++ l.drop (i + 1)) l[i].name = cntN (l.take (i + 1)) l[i].name + cntN (l.drop (i + 1)) l[i].name := cntN_app _ _ _
  rw [List.take_append_drop, cntN_takeY hi rfl] at e
  omega
theorem MrgI.stepB {l m : List Fld} {i k : Nat} (h : MrgI l m i k) (hm : Srt m) (hi : i < l.length) (hk : k < m.length) (hn : l[i].name = m[k].name) : MrgI l m (i + 1) (k + 1) ∧ lessN m l[i].name + cntN (l.take i) l[i].name = k ∧ cntN (l.take i) l[i].name < cntN m l[i].name ∧ cntN (m.take k) m[k].name < cntN l m[k].name := by
  have h1 := h.fl i l[i] (lR _) (gE hi)
  have h2 := h.fm k m[k] (lR _) (gE hk)
  have h3 := srt_idx hm hk
  have h4 := cnt_at hi
  have h5 := cnt_at hk
  rw [← hn] at h2 h3 h5 ⊢
  refine ⟨⟨fun p f hp hf => ?_, fun q g hq hg => ?_⟩, by omega, by omega, by omega⟩
  · have := h.fl p f (by omega) hf
    by_cases e : l[i].name = f.name
    · rw [cntN_takeY hi e, cntN_takeY hk (hn ▸ e)]; omega
    · rw [cntN_takeN hi e, cntN_takeN hk (hn ▸ e)]; exact this
  · have := h.fm q g (by omega) hg
    by_cases e : l[i].name = g.name
    · rw [cntN_takeY hi e, cntN_takeY hk (hn ▸ e)]; omega
    · rw [cntN_takeN hi e, cntN_takeN hk (hn ▸ e)]; exact this
theorem names_eq {a b : ByteArray} (h : ¬ cmpN a b < 0) (k : ¬ cmpN b a < 0) : a = b := leN_antisymm (a := a) (b := b) k h
theorem okL_no {h : Ty → Ty → Bool} {l m : List Fld} {t : Ty} {i : Nat} (hi : i < l.length) (hc : ¬ cntN (l.take i) l[i].name < cntN m l[i].name) : okL h l m t i = decide (t.op = 9) := by
  unfold okL; rw [gE hi]; simp only [dF hc, cond_false]
theorem okL_yes {h : Ty → Ty → Bool} {l m : List Fld} {t : Ty} {i k : Nat} (hi : i < l.length) (hk : k < m.length) (hc : cntN (l.take i) l[i].name < cntN m l[i].name) (e : lessN m l[i].name + cntN (l.take i) l[i].name = k) : okL h l m t i = h l[i].ty m[k].ty := by
  unfold okL; rw [gE hi]; simp only [dT hc, cond_true, e, gE hk]
theorem okM_no {less : Bool} {l m : List Fld} {s : Ty} {k : Nat} (hk : k < m.length) (hc : ¬ cntN (m.take k) m[k].name < cntN l m[k].name) : okM less l m s k = (!less && decide (s.op = 9)) := by
  unfold okM; rw [gE hk]; simp only [dF hc, Bool.false_or]
theorem okM_yes {less : Bool} {l m : List Fld} {s : Ty} {k : Nat} (hk : k < m.length) (hc : cntN (m.take k) m[k].name < cntN l m[k].name) : okM less l m s k = true := by
  unfold okM; rw [gE hk]; simp only [dT hc, Bool.true_or]
theorem all_no {n i : Nat} {p : Nat → Bool} (hi : i < n) (h : p i = false) : (List.range n).all p = false := by
  rw [List.all_eq_false]
  exact ⟨i, List.mem_range.2 hi, by rw [h]; simp⟩
theorem all_yes {n : Nat} {p : Nat → Bool} (h : ∀ i, i < n → p i = true) : (List.range n).all p = true := List.all_eq_true.2 fun i hi => h i (List.mem_range.1 hi)
theorem rows_noL {less : Bool} {a b : Ty} {l m : List Fld} {i : Nat} (el : (flatF a).1 = l) (em : (flatF b).1 = m) (hi : i < l.length) (h : okL (holdsF less) l m (flatF b).2 i = false) : rowsF less a b = false := by
  subst el; subst em
  unfold rowsF rowsN; rw [all_no hi h]; rfl
theorem rows_noM {less : Bool} {a b : Ty} {l m : List Fld} {k : Nat} (el : (flatF a).1 = l) (em : (flatF b).1 = m) (hk : k < m.length) (h : okM less l m (flatF a).2 k = false) : rowsF less a b = false := by
  subst el; subst em
  unfold rowsF rowsN; rw [all_no hk h]; simp
theorem rows_all {less : Bool} {a b : Ty} {l m : List Fld} (el : (flatF a).1 = l) (em : (flatF b).1 = m) (h : ∀ i, i < l.length → okL (holdsF less) l m (flatF b).2 i = true) (g : ∀ k, k < m.length → okM less l m (flatF a).2 k = true) : rowsF less a b = tailF less (flatF a).2 (flatF b).2 := by
  subst el; subst em
  unfold rowsF rowsN; rw [all_yes h, all_yes g]; rfl
theorem ok_step {p : Nat → Bool} {i : Nat} (h : ∀ j, j < i → p j = true) (hi : p i = true) : ∀ j, j < i + 1 → p j = true := fun j hj => by
  by_cases e : j = i
  · subst e; exact hi
  · exact h j (by omega)
/-- The n-th field of a name: its place, or -1. -/
def nthZ (l : List Fld) (s : ByteArray) (n : Nat) : Int := bif decide (n < cntN l s) then ((lessN l s + n : Nat) : Int) else -1
theorem nthZ_yes {l : List Fld} {s : ByteArray} {n : Nat} (h : n < cntN l s) : nthZ l s n = ((lessN l s + n : Nat) : Int) := by rw [nthZ, dT h]; rfl
theorem nthZ_no {l : List Fld} {s : ByteArray} {n : Nat} (h : ¬ n < cntN l s) : nthZ l s n = -1 := by rw [nthZ, dF h]; rfl
/-- Asked of types, or of rows. -/
def askedF (less : Bool) (a b : Ty) : Bool := bif rowB a && rowB b then rowsF less a b else (rightB a && rightB b) && holdsF less a b
theorem right_row {t : Ty} (h : rightB t = true) : rowB t = false := by
  cases hr : rowB t with
  | false => rfl
  | true => have := right_op h; have := row_op hr; omega
end Rw
namespace Go.Proofs.Ytpoahmeacjggfaa
open Go Rw Go.RowKit
set_option maxRecDepth 100000
theorem eitherP_spec (x y : Ty) (M : Nat → Prop) (w : World) (v u : Value) (hx : Rep.R M w v x) (hy : Rep.R M w u y) (Lw : Low M w) :
  Calls Try.prog 102 #[v, u] w (Ret fun r w' => r = .bool (dynF false x y) ∧ Ext w w') := by
 have hE := Below.refl w.heap.size w
 have hB := lR w.heap.size
 obtain ⟨kva, rfl, opa, nma, n64a, hka⟩ := tO hx
 obtain ⟨kvb, rfl, opb, nmb, n64b, hkb⟩ := tO hy
 refine cN (n := 23) Try.func102 rfl rfl rfl ?_
 refine q0 ?_
 refine lC (o_box rfl rfl rfl ?_)
 intro b2 w1 hb_b2 ew1 h2
 replace h2 : Box _ b2 25 [.int .u8 x.op, .string x.name, .int .i64 x.n, kva] := h2
 replace h2 := h2.at (nO Lw hb_b2)
 replace hE := ew1.bl hE hB
 replace hx := Rep.Y hx ew1
 replace hka := hka.Y ew1
 replace hy := Rep.Y hy ew1
 replace hkb := hkb.Y ew1
 replace Lw := Lw.Y ew1
 replace hB := ew1.z hB
 refine lC (o_box rfl rfl rfl ?_)
 intro b3 w2 hb_b3 ew2 h3
 replace h3 : Box _ b3 25 [.int .u8 y.op, .string y.name, .int .i64 y.n, kvb] := h3
 replace h3 := h3.at (nO Lw hb_b3)
 replace hE := ew2.bl hE hB
 replace hx := Rep.Y hx ew2
 replace hka := hka.Y ew2
 replace hy := Rep.Y hy ew2
 replace hkb := hkb.Y ew2
 replace h2 := h2.Y ew2
 replace Lw := Lw.Y ew2
 replace hB := ew2.z hB
 refine lP 1 tK rfl (q1 (q0 (lP 1 tK rfl ?_)))
 refine lC (oD tK (h2.cell 0 _ rfl) rfl rfl rfl rfl rfl ?_)
 refine lP 2 tK rfl ?_
 refine lS 8 _ rfl (fun c1 => ?_) (fun c1 => ?_)
 ·refine lP 15 tK rfl (q1 (cR (x1_ rfl rfl ?_)))
  exact ⟨by simp [dynF, *], hE⟩
 refine lP 1 tK rfl ?_
 refine lC (oD tK (h3.cell 0 _ rfl) rfl rfl rfl rfl rfl ?_)
 refine lP 3 tK rfl ?_
 refine lS 13 _ rfl (fun c2 => ?_) (fun c2 => ?_)
 ·refine lP 10 tK rfl (q1 (cR (x1_ rfl rfl ?_)))
  exact ⟨by simp [dynF, *], hE⟩
 refine lP 1 tK rfl ?_
 refine lC (oD tK (h2.cell 0 _ rfl) rfl rfl rfl rfl rfl ?_)
 refine lP 3 tK rfl ?_
 refine lS 18 _ rfl (fun c3 => ?_) (fun c3 => ?_)
 ·refine lP 5 tK rfl (q1 (cR (x1_ rfl rfl ?_)))
  exact ⟨by simp [dynF, *], hE⟩
 refine lP 1 tK rfl ?_
 refine lC (oD tK (h3.cell 0 _ rfl) rfl rfl rfl rfl rfl ?_)
 refine lP 3 tK rfl (q1 (cR (x1_ rfl rfl ?_)))
 exact ⟨by simp [dynF, *], hE⟩
theorem second_spec (x y : Ty) (M : Nat → Prop) (w : World) (v u : Value) (hx : Rep.R M w v x) (hy : Rep.R M w u y) (Lw : Low M w) :
  Calls Try.prog 108 #[v, u] w (Ret fun r w' => r = .bool (dynF true x y) ∧ Ext w w') := by
 have hE := Below.refl w.heap.size w
 have hB := lR w.heap.size
 obtain ⟨kva, rfl, opa, nma, n64a, hka⟩ := tO hx
 obtain ⟨kvb, rfl, opb, nmb, n64b, hkb⟩ := tO hy
 refine cN (n := 13) Try.func108 rfl rfl rfl ?_
 refine q0 ?_
 refine lC (o_box rfl rfl rfl ?_)
 intro b2 w1 hb_b2 ew1 h2
 replace h2 : Box _ b2 25 [.int .u8 x.op, .string x.name, .int .i64 x.n, kva] := h2
 replace h2 := h2.at (nO Lw hb_b2)
 replace hE := ew1.bl hE hB
 replace hx := Rep.Y hx ew1
 replace hka := hka.Y ew1
 replace hy := Rep.Y hy ew1
 replace hkb := hkb.Y ew1
 replace Lw := Lw.Y ew1
 replace hB := ew1.z hB
 refine lC (o_box rfl rfl rfl ?_)
 intro b3 w2 hb_b3 ew2 h3
 replace h3 : Box _ b3 25 [.int .u8 y.op, .string y.name, .int .i64 y.n, kvb] := h3
 replace h3 := h3.at (nO Lw hb_b3)
 replace hE := ew2.bl hE hB
 replace hx := Rep.Y hx ew2
 replace hka := hka.Y ew2
 replace hy := Rep.Y hy ew2
 replace hkb := hkb.Y ew2
 replace h2 := h2.Y ew2
 replace Lw := Lw.Y ew2
 replace hB := ew2.z hB
 refine lP 1 tK rfl (q1 (q0 (lP 1 tK rfl ?_)))
 refine lC (oD tK (h3.cell 0 _ rfl) rfl rfl rfl rfl rfl ?_)
 refine lP 2 tK rfl ?_
 refine lS 8 _ rfl (fun c1 => ?_) (fun c1 => ?_)
 ·refine lP 5 tK rfl (q1 (cR (x1_ rfl rfl ?_)))
  exact ⟨by simp [dynF, *], hE⟩
 refine lP 1 tK rfl ?_
 refine lC (oD tK (h3.cell 0 _ rfl) rfl rfl rfl rfl rfl ?_)
 refine lP 3 tK rfl (q1 (cR (x1_ rfl rfl ?_)))
 exact ⟨by simp [dynF, *], hE⟩
theorem cons1_spec (x y : Ty) (M : Nat → Prop) (w : World) (v u : Value) (hx : Rep.R M w v x) (hy : Rep.R M w u y) (Lw : Low M w) :
  Calls Try.prog 103 #[v, u] w (Ret fun r w' => r = .bool (!false && decide (y.op = 9)) ∧ Ext w w') := by
 have hE := Below.refl w.heap.size w
 have hB := lR w.heap.size
 obtain ⟨kva, rfl, opa, nma, n64a, hka⟩ := tO hx
 obtain ⟨kvb, rfl, opb, nmb, n64b, hkb⟩ := tO hy
 refine cN (n := 8) Try.func103 rfl rfl rfl ?_
 refine q0 ?_
 refine lC (o_box rfl rfl rfl ?_)
 intro b2 w1 hb_b2 ew1 h2
 replace h2 : Box _ b2 25 [.int .u8 x.op, .string x.name, .int .i64 x.n, kva] := h2
 replace h2 := h2.at (nO Lw hb_b2)
 replace hE := ew1.bl hE hB
 replace hx := Rep.Y hx ew1
 replace hka := hka.Y ew1
 replace hy := Rep.Y hy ew1
 replace hkb := hkb.Y ew1
 replace Lw := Lw.Y ew1
 replace hB := ew1.z hB
 refine lC (o_box rfl rfl rfl ?_)
 intro b3 w2 hb_b3 ew2 h3
 replace h3 : Box _ b3 25 [.int .u8 y.op, .string y.name, .int .i64 y.n, kvb] := h3
 replace h3 := h3.at (nO Lw hb_b3)
 replace hE := ew2.bl hE hB
 replace hx := Rep.Y hx ew2
 replace hka := hka.Y ew2
 replace hy := Rep.Y hy ew2
 replace hkb := hkb.Y ew2
 replace h2 := h2.Y ew2
 replace Lw := Lw.Y ew2
 replace hB := ew2.z hB
 refine lP 1 tK rfl (q1 (q0 (lP 1 tK rfl ?_)))
 refine lC (oD tK (h3.cell 0 _ rfl) rfl rfl rfl rfl rfl ?_)
 refine lP 2 tK rfl (q1 (cR (x1_ rfl rfl ?_)))
 exact ⟨by simp [*], hE⟩
theorem less1_spec (x y : Ty) (M : Nat → Prop) (w : World) (v u : Value) (hx : Rep.R M w v x) (hy : Rep.R M w u y) (Lw : Low M w) :
  Calls Try.prog 109 #[v, u] w (Ret fun r w' => r = .bool (!true && decide (y.op = 9)) ∧ Ext w w') := by
 have hE := Below.refl w.heap.size w
 have hB := lR w.heap.size
 obtain ⟨kva, rfl, opa, nma, n64a, hka⟩ := tO hx
 obtain ⟨kvb, rfl, opb, nmb, n64b, hkb⟩ := tO hy
 refine cN (n := 5) Try.func109 rfl rfl rfl ?_
 refine q0 ?_
 refine lC (o_box rfl rfl rfl ?_)
 intro b2 w1 hb_b2 ew1 h2
 replace h2 : Box _ b2 25 [.int .u8 x.op, .string x.name, .int .i64 x.n, kva] := h2
 replace h2 := h2.at (nO Lw hb_b2)
 replace hE := ew1.bl hE hB
 replace hx := Rep.Y hx ew1
 replace hka := hka.Y ew1
 replace hy := Rep.Y hy ew1
 replace hkb := hkb.Y ew1
 replace Lw := Lw.Y ew1
 replace hB := ew1.z hB
 refine lC (o_box rfl rfl rfl ?_)
 intro b3 w2 hb_b3 ew2 h3
 replace h3 : Box _ b3 25 [.int .u8 y.op, .string y.name, .int .i64 y.n, kvb] := h3
 replace h3 := h3.at (nO Lw hb_b3)
 replace hE := ew2.bl hE hB
 replace hx := Rep.Y hx ew2
 replace hka := hka.Y ew2
 replace hy := Rep.Y hy ew2
 replace hkb := hkb.Y ew2
 replace h2 := h2.Y ew2
 replace Lw := Lw.Y ew2
 replace hB := ew2.z hB
 refine lP 1 tK rfl (q1 (q0 (lP 1 tK rfl (q1 (cR (x1_ rfl rfl ?_))))))
 exact ⟨by simp [*], hE⟩
theorem rows_of (less : Bool) (fd fl : Nat) (fod : FnOk Try.prog fd) (fol : FnOk Try.prog fl) (Hd : ∀ (x y : Ty) (M : Nat → Prop) (w : World) (v u : Value), Rep.R M w v x → Rep.R M w u y → Low M w → Calls Try.prog fd #[v, u] w (Ret fun r w' => r = .bool (dynF less x y) ∧ Ext w w')) (Hl : ∀ (x y : Ty) (M : Nat → Prop) (w : World) (v u : Value), Rep.R M w v x → Rep.R M w u y → Low M w → Calls Try.prog fl #[v, u] w (Ret fun r w' => r = .bool (!less && decide (y.op = 9)) ∧ Ext w w')) (a b : Ty) (IH : ∀ x y, psz x < psz a → rightB x = true → rightB y = true → psz y ≤ 2000000 → ∀ (M : Nat → Prop) (w : World) (v u : Value), Rep.R M w v x → Rep.R M w u y → Low M w → Calls Try.prog 105 #[.agg #[.func (.func fd) #[] #[], .func (.func fl) #[] #[]], v, u] w (Ret fun r w' => r = .bool (holdsF less x y) ∧ Ext w w')) (M : Nat → Prop) (w : World) (v u : Value) (hra : rowB a = true) (hrb : rowB b = true) (ha : Rep.R M w v a) (hb : Rep.R M w u b) (Lw : Low M w) (hza : psz a ≤ 2000000) (hzb : psz b ≤ 2000000) :
  Calls Try.prog 104 #[.agg #[.func (.func fd) #[] #[], .func (.func fl) #[] #[]], v, u] w (Ret fun r w' => r = .bool (rowsF less a b) ∧ Ext w w') := by
 have hE := Below.refl w.heap.size w
 have hB := lR w.heap.size
 obtain ⟨kva, rfl, opa, nma, n64a, hka⟩ := tO ha
 obtain ⟨kvb, rfl, opb, nmb, n64b, hkb⟩ := tO hb
 refine cN (n := 124) Try.func104 rfl rfl rfl ?_
 refine q0 ?_
 refine lC (o_box rfl rfl rfl ?_)
 intro b3 w1 hb_b3 ew1 h3
 replace h3 := h3.at (nO Lw hb_b3)
 replace hE := ew1.bl hE hB
 replace ha := Rep.Y ha ew1
 replace hka := hka.Y ew1
 replace hb := Rep.Y hb ew1
 replace hkb := hkb.Y ew1
 replace Lw := Lw.Y ew1
 replace hB := ew1.z hB
 replace h3 : At _ _ b3 0 [.func (.func fd) #[] #[], .func (.func fl) #[] #[]] := h3
 refine lC (o_box rfl rfl rfl ?_)
 intro b4 w2 hb_b4 ew2 h4
 replace h4 : Box _ b4 25 [.int .u8 a.op, .string a.name, .int .i64 a.n, kva] := h4
 replace h4 := h4.at (nO Lw hb_b4)
 replace hE := ew2.bl hE hB
 replace ha := Rep.Y ha ew2
 replace hka := hka.Y ew2
 replace hb := Rep.Y hb ew2
 replace hkb := hkb.Y ew2
 replace h3 := h3.Y ew2
 replace Lw := Lw.Y ew2
 replace hB := ew2.z hB
 refine lC (o_box rfl rfl rfl ?_)
 intro b5 w3 hb_b5 ew3 h5
 replace h5 : Box _ b5 25 [.int .u8 b.op, .string b.name, .int .i64 b.n, kvb] := h5
 replace h5 := h5.at (nO Lw hb_b5)
 replace hE := ew3.bl hE hB
 replace ha := Rep.Y ha ew3
 replace hka := hka.Y ew3
 replace hb := Rep.Y hb ew3
 replace hkb := hkb.Y ew3
 replace h3 := h3.Y ew3
 replace h4 := h4.Y ew3
 replace Lw := Lw.Y ew3
 replace hB := ew3.z hB
 refine lP 1 tK rfl (q1 (q0 ?_))
 refine lC (oL tK (fun j v hv => h4.cell j v hv) rfl rfl rfl rfl rfl rfl ?_)
 refine lC (oK fo25 rfl rfl rfl (Flat_spec a _ _ _ ha Lw hza) ?_)
 rintro _ w4 ⟨⟨xl, vs, rfl, hfl, hvs⟩, ew4⟩
 obtain ⟨l, el⟩ : ∃ l, (flatF a).1 = l := ⟨_, rfl⟩
 rw [el] at hfl
 obtain ⟨s, es⟩ : ∃ l, (flatF a).2 = l := ⟨_, rfl⟩
 rw [es] at hvs
 have hsl : Srt l := el ▸ flt_srt a
 have hll : l.length ≤ 2000000 := by have := flt_len a; rw [el] at this; omega
 have hrl : ∀ f ∈ l, rightB f.ty = true ∧ psz f.ty < psz a := fun f hf => ⟨flt_right hra (by rw [el]; exact hf), flt_psz (t := a) (by rw [el]; exact hf)⟩
 replace hE := ew4.bl hE hB
 replace ha := Rep.Y ha ew4
 replace hka := hka.Y ew4
 replace hb := Rep.Y hb ew4
 replace hkb := hkb.Y ew4
 replace h3 := h3.Y ew4
 replace h4 := h4.Y ew4
 replace h5 := h5.Y ew4
 replace Lw := Lw.Y ew4
 replace hB := ew4.z hB
 obtain ⟨kvs, rfl, ops, nms, n64s, hks⟩ := tO hvs
 refine lP 3 tK rfl ?_
 refine lC (o_new tK rfl rfl rfl ?_)
 intro b8 w5 qb8 ew5 hb8
 have nb8 := nO Lw qb8
 refine lP 1 tK rfl ?_
 refine lC (o_st tK hb8 rfl rfl rfl rfl (Rep.one hvs) rfl rfl ?_)
 intro w6 h8 uw6 bew6
 have ew6 : Ext w4 w6 := ew5.trans (bew6 _ (lQ qb8.symm))
 replace hE := ew6.bl hE hB
 replace ha := Rep.Y ha ew6
 replace hka := hka.Y ew6
 replace hb := Rep.Y hb ew6
 replace hkb := hkb.Y ew6
 replace h3 := h3.Y ew6
 replace h4 := h4.Y ew6
 replace h5 := h5.Y ew6
 replace hfl := hfl.Y ew6
 replace hvs := Rep.Y hvs ew6
 replace hks := hks.Y ew6
 replace Lw := Lw.Y ew6
 replace hB := ew6.z hB
 replace h8 : Box w6 b8 25 [.int .u8 s.op, .string s.name, .int .i64 s.n, kvs] := h8
 replace h8 := h8.at nb8
 refine q1 (q0 ?_)
 refine lC (oL tK (fun j v hv => h5.cell j v hv) rfl rfl rfl rfl rfl rfl ?_)
 refine lC (oK fo25 rfl rfl rfl (Flat_spec b _ _ _ hb Lw hzb) ?_)
 rintro _ w7 ⟨⟨xm, vt, rfl, hfm, hvt⟩, ew7⟩
 obtain ⟨m, em⟩ : ∃ l, (flatF b).1 = l := ⟨_, rfl⟩
 rw [em] at hfm
 obtain ⟨t, et⟩ : ∃ l, (flatF b).2 = l := ⟨_, rfl⟩
 rw [et] at hvt
 have hsm : Srt m := em ▸ flt_srt b
 have hlm : m.length ≤ 2000000 := by have := flt_len b; rw [em] at this; omega
 have hrm : ∀ f ∈ m, rightB f.ty = true ∧ psz f.ty < psz b := fun f hf => ⟨flt_right hrb (by rw [em]; exact hf), flt_psz (t := b) (by rw [em]; exact hf)⟩
 replace hE := ew7.bl hE hB
 replace ha := Rep.Y ha ew7
 replace hka := hka.Y ew7
 replace hb := Rep.Y hb ew7
 replace hkb := hkb.Y ew7
 replace h3 := h3.Y ew7
 replace h4 := h4.Y ew7
 replace h5 := h5.Y ew7
 replace hfl := hfl.Y ew7
 replace hvs := Rep.Y hvs ew7
 replace hks := hks.Y ew7
 replace h8 := h8.Y ew7
 replace Lw := Lw.Y ew7
 replace hB := ew7.z hB
 obtain ⟨kvt, rfl, opt, nmt, n64t, hkt⟩ := tO hvt
 refine lP 3 tK rfl ?_
 refine lC (o_new tK rfl rfl rfl ?_)
 intro b10 w8 qb10 ew8 hb10
 have nb10 := nO Lw qb10
 refine lP 1 tK rfl ?_
 refine lC (o_st tK hb10 rfl rfl rfl rfl (Rep.one hvt) rfl rfl ?_)
 intro w9 h10 uw9 bew9
 have ew9 : Ext w7 w9 := ew8.trans (bew9 _ (lQ qb10.symm))
 replace hE := ew9.bl hE hB
 replace ha := Rep.Y ha ew9
 replace hka := hka.Y ew9
 replace hb := Rep.Y hb ew9
 replace hkb := hkb.Y ew9
 replace h3 := h3.Y ew9
 replace h4 := h4.Y ew9
 replace h5 := h5.Y ew9
 replace hfl := hfl.Y ew9
 replace hvs := Rep.Y hvs ew9
 replace hks := hks.Y ew9
 replace h8 := h8.Y ew9
 replace hfm := hfm.Y ew9
 replace hvt := Rep.Y hvt ew9
 replace hkt := hkt.Y ew9
 replace Lw := Lw.Y ew9
 replace hB := ew9.z hB
 replace h10 : Box w9 b10 25 [.int .u8 t.op, .string t.name, .int .i64 t.n, kvt] := h10
 replace h10 := h10.at nb10
 refine q1 (q0 (lP 2 tK rfl (q1 (cS (cB ?_)))))
 clear h4 ha hka
 refine c_loop2 (X := Nat) (Y := Nat) (fun i k => [(3, .pointer (some ⟨b3, 0, none⟩)), (5, .pointer (some ⟨b5, 0, none⟩)), (7, xl), (8, .pointer (some ⟨b8, 0, none⟩)), (9, xm), (10, .pointer (some ⟨b10, 0, none⟩)), (11, .int .i64 (i : Nat)), (12, .int .i64 (k : Nat))]) (fun i k w' => i ≤ l.length ∧ k ≤ m.length ∧ MrgI l m i k ∧ (∀ j, j < i → okL (holdsF less) l m t j = true) ∧ (∀ j, j < k → okM less l m s j = true) ∧ At M w' b3 0 [.func (.func fd) #[] #[], .func (.func fl) #[] #[]] ∧ At M w' b5 0 [.int .u8 b.op, .string b.name, .int .i64 b.n, kvb] ∧ At M w' b8 0 [.int .u8 s.op, .string s.name, .int .i64 s.n, kvs] ∧ At M w' b10 0 [.int .u8 t.op, .string t.name, .int .i64 t.n, kvt] ∧ Sl M w' xl l ∧ Sl M w' xm m ∧ Rep.R M w' (.agg #[.int .u8 b.op, .string b.name, .int .i64 b.n, kvb]) b ∧ Rep.R M w' (.agg #[.int .u8 s.op, .string s.name, .int .i64 s.n, kvs]) s ∧ Rep.R M w' (.agg #[.int .u8 t.op, .string t.name, .int .i64 t.n, kvt]) t ∧ Low M w' ∧ Below w.heap.size w w' ∧ w.heap.size ≤ w'.heap.size) (fun i k => l.length - i + (m.length - k)) (0) (0) (s8 rfl rfl rfl rfl rfl rfl rfl rfl) ?_ ?_
 ·exact ⟨Nat.zero_le _, Nat.zero_le _, MrgI.start l m, fun j h => absurd h (Nat.not_lt_zero _), fun j h => absurd h (Nat.not_lt_zero _), h3, h5, h8, h10, hfl, hfm, hb, hvs, hvt, Lw, hE, hB⟩
 rintro i k w10 ⟨hi, hk, hmg, hokl, hokm, h3, h5, h8, h10, hfl, hfm, hb, hvs, hvt, Lw, hE, hB⟩
 refine cS (q0 (lP 2 tK rfl ?_))
 refine lC (o_len tK hfl rfl rfl rfl rfl rfl ?_)
 refine lP 2 tK rfl ?_
 refine lS 27 _ rfl (fun hA => ?_) (fun hA => ?_)
 ·have hil : i < l.length := by omega
  refine lP 5 tK rfl (q1 (cI rfl (cK (xS (cB (cB (cS ?_)))))))
  refine a_beg Ext rfl ?_
  intro w11 ew11
  replace hE := ew11.bl hE hB
  replace h3 := h3.Y ew11
  replace h5 := h5.Y ew11
  replace h8 := h8.Y ew11
  replace h10 := h10.Y ew11
  replace hfl := hfl.Y ew11
  replace hfm := hfm.Y ew11
  replace hb := Rep.Y hb ew11
  replace hvs := Rep.Y hvs ew11
  replace hvt := Rep.Y hvt ew11
  replace Lw := Lw.Y ew11
  replace hB := ew11.z hB
  have hS : Ext w11 w11 := ext_refl _
  have D_h3 := h3
  have D_h5 := h5
  have D_h8 := h8
  have D_h10 := h10
  have D_hfl := hfl
  have D_hfm := hfm
  refine a_p 0 tK rfl rfl rfl rfl (by kernel_rfl) i3 hS ?_
  refine a_p 1 tK rfl rfl rfl rfl (by kernel_rfl) i3 hS ?_
  refine a_len 2 tK hfm rfl rfl rfl rfl rfl rfl (by kernel_rfl) i3 hS ?_
  refine a_p 3 tK rfl rfl rfl rfl (by kernel_rfl) i3 hS ?_
  refine a_p 4 tK rfl rfl rfl rfl (by kernel_rfl) i3 hS ?_
  refine a_splitP 55 _ rfl (fun hke => ?_) (fun hke => ?_)
  ·have hst := hmg.stepL hsm hil (.inl (by omega))
   refine aK 5 rfl rfl rfl (by kernel_rfl) i3 hS ?_
   refine aK 6 rfl rfl rfl (by kernel_rfl) i3 hS ?_
   refine aK 7 rfl rfl rfl (by kernel_rfl) i3 hS ?_
   refine aK 8 rfl rfl rfl (by kernel_rfl) i3 hS ?_
   refine aK 9 rfl rfl rfl (by kernel_rfl) i3 hS ?_
   refine aK 10 rfl rfl rfl (by kernel_rfl) i3 hS ?_
   refine aK 11 rfl rfl rfl (by kernel_rfl) i3 hS ?_
   refine aK 12 rfl rfl rfl (by kernel_rfl) i3 hS ?_
   refine aK 13 rfl rfl rfl (by kernel_rfl) i3 hS ?_
   refine aK 14 rfl rfl rfl (by kernel_rfl) i3 hS ?_
   refine aK 15 rfl rfl rfl (by kernel_rfl) i3 hS ?_
   refine aK 16 rfl rfl rfl (by kernel_rfl) i3 hS ?_
   refine aK 17 rfl rfl rfl (by kernel_rfl) i3 hS ?_
   refine aK 18 rfl rfl rfl (by kernel_rfl) i3 hS ?_
   refine aK 19 rfl rfl rfl (by kernel_rfl) i3 hS ?_
   refine aK 20 rfl rfl rfl (by kernel_rfl) i3 hS ?_
   refine aK 21 rfl rfl rfl (by kernel_rfl) i3 hS ?_
   refine a_p 22 tK rfl rfl rfl rfl (by kernel_rfl) i3 hS ?_
   refine a_p 23 tK rfl rfl rfl rfl (by kernel_rfl) i3 hS ?_
   refine a_end (by kernel_rfl) ?_
   refine xS (cI rfl (cS (q0 (lP 1 tK rfl ?_))))
   refine lC (oD tK (h10.cell 0 _ rfl) rfl rfl rfl rfl rfl ?_)
   refine lP 1 tK rfl (q1 ?_)
   refine c_ifN _ rfl (fun hto => ?_) (fun hto => ?_)
   ·refine q0 (lP 1 tK rfl (q1 (cR (xR (xB (xB (xR (xB (xR (x1_ rfl rfl ?_))))))))))
    rw [rows_noL el em hil (by rw [et, okL_no hil hst.2]; exact dF hto)]
    exact ⟨rfl, hE⟩
   refine cK (xS (cG (lP 1 tK rfl ?_)))
   refine lC (o_ai rfl rfl rfl (by omega) rfl rfl ?_)
   refine lP 1 tK rfl (q2 (x_blk ?_))
   exact xN (i + 1) (k) (s8 rfl rfl rfl rfl rfl rfl (gN rfl (by omega)) rfl) ⟨by omega, by omega, hst.1, ok_step hokl (by rw [okL_no hil hst.2]; exact dT hto), hokm, h3, h5, h8, h10, hfl, hfm, hb, hvs, hvt, Lw, hE, hB⟩ (by omega)
  have hkl : k < m.length := by omega
  refine a_p 5 tK rfl rfl rfl rfl (by kernel_rfl) i3 hS ?_
  refine a_p 6 tK rfl rfl rfl rfl (by kernel_rfl) i3 hS ?_
  refine a_len 7 tK hfl rfl rfl rfl rfl rfl rfl (by kernel_rfl) i3 hS ?_
  refine a_p 8 tK rfl rfl rfl rfl (by kernel_rfl) i3 hS ?_
  refine a_p 9 tK rfl rfl rfl rfl (by kernel_rfl) i3 hS ?_
  refine a_splitP 60 _ rfl (fun hib => ?_) (fun hib => ?_)
  ·refine a_p 10 tK rfl rfl rfl rfl (by kernel_rfl) i3 hS ?_
   refine a_p 11 tK rfl rfl rfl rfl (by kernel_rfl) i3 hS ?_
   refine a_ixS 12 tK D_hfl (gE hil) rfl rfl rfl rfl rfl rfl rfl rfl rfl rfl (by kernel_rfl) i4 hS ?_
   intro ebq0 eoq0 euq0 hrq0 hatq0
   obtain ⟨szq0, kvq0, rfl, hyq0⟩ := fld_open hrq0
   replace hatq0 : At _ w11 ebq0 eoq0 [.string l[i].name, .int .u8 l[i].ty.op, .string l[i].ty.name, .int .i64 l[i].ty.n, kvq0] := hatq0
   refine a_p 13 tK rfl rfl rfl rfl (by kernel_rfl) i3 hS ?_
   refine a_ld 14 tK (fun _ hs => (hatq0.Y hs).cell 0 _ rfl) rfl rfl rfl rfl rfl rfl (by kernel_rfl) i3 hS ?_
   refine a_p 15 tK rfl rfl rfl rfl (by kernel_rfl) i3 hS ?_
   refine a_p 16 tK rfl rfl rfl rfl (by kernel_rfl) i3 hS ?_
   refine a_ixS 17 tK D_hfm (gE hkl) rfl rfl rfl rfl rfl rfl rfl rfl rfl rfl (by kernel_rfl) i4 hS ?_
   intro ebq1 eoq1 euq1 hrq1 hatq1
   obtain ⟨szq1, kvq1, rfl, hyq1⟩ := fld_open hrq1
   replace hatq1 : At _ w11 ebq1 eoq1 [.string m[k].name, .int .u8 m[k].ty.op, .string m[k].ty.name, .int .i64 m[k].ty.n, kvq1] := hatq1
   refine a_p 18 tK rfl rfl rfl rfl (by kernel_rfl) i3 hS ?_
   refine a_ld 19 tK (fun _ hs => (hatq1.Y hs).cell 0 _ rfl) rfl rfl rfl rfl rfl rfl (by kernel_rfl) i3 hS ?_
   refine a_p 20 tK rfl rfl rfl rfl (by kernel_rfl) i3 hS ?_
   refine a_p 21 tK rfl rfl rfl rfl (by kernel_rfl) i3 hS ?_
   refine a_p 22 tK rfl rfl rfl rfl (by kernel_rfl) i3 hS ?_
   refine a_p 23 tK rfl rfl rfl rfl (by kernel_rfl) i3 hS ?_
   refine a_end (by kernel_rfl) ?_
   refine xS ?_
   refine c_if _ rfl (fun hlt => ?_) (fun hlt => ?_)
   ·rw [sLt_cmpN] at hlt
    replace hlt := of_decide_eq_true hlt
    have hst := hmg.stepL hsm hil (.inr ⟨hkl, hlt⟩)
    refine cS (q0 (lP 1 tK rfl ?_))
    refine lC (oD tK (h10.cell 0 _ rfl) rfl rfl rfl rfl rfl ?_)
    refine lP 1 tK rfl (q1 ?_)
    refine c_ifN _ rfl (fun hto => ?_) (fun hto => ?_)
    ·refine q0 (lP 1 tK rfl (q1 (cR (xR (xB (xB (xR (xB (xR (x1_ rfl rfl ?_))))))))))
     rw [rows_noL el em hil (by rw [et, okL_no hil hst.2]; exact dF hto)]
     exact ⟨rfl, hE⟩
    refine cK (xS (cG (lP 1 tK rfl ?_)))
    refine lC (o_ai rfl rfl rfl (by omega) rfl rfl ?_)
    refine lP 1 tK rfl (q2 (x_blk ?_))
    exact xN (i + 1) (k) (s8 rfl rfl rfl rfl rfl rfl (gN rfl (by omega)) rfl) ⟨by omega, by omega, hst.1, ok_step hokl (by rw [okL_no hil hst.2]; exact dT hto), hokm, h3, h5, h8, h10, hfl, hfm, hb, hvs, hvt, Lw, hE, hB⟩ (by omega)
   rw [sLt_cmpN] at hlt
   replace hlt := of_decide_eq_false hlt
   refine cS ?_
   refine a_beg Ext rfl ?_
   intro w12 ew12
   replace hE := ew12.bl hE hB
   replace h3 := h3.Y ew12
   replace h5 := h5.Y ew12
   replace h8 := h8.Y ew12
   replace h10 := h10.Y ew12
   replace hfl := hfl.Y ew12
   replace hfm := hfm.Y ew12
   replace hb := Rep.Y hb ew12
   replace hvs := Rep.Y hvs ew12
   replace hvt := Rep.Y hvt ew12
   replace hrq0 := Rep.Y hrq0 ew12
   replace hyq0 := Rep.Y hyq0 ew12
   replace hatq0 := hatq0.Y ew12
   replace hrq1 := Rep.Y hrq1 ew12
   replace hyq1 := Rep.Y hyq1 ew12
   replace hatq1 := hatq1.Y ew12
   replace Lw := Lw.Y ew12
   replace hB := ew12.z hB
   have hS : Ext w12 w12 := ext_refl _
   have D_h3 := h3
   have D_h5 := h5
   have D_h8 := h8
   have D_h10 := h10
   have D_hfl := hfl
   have D_hfm := hfm
   have D_hatq0 := hatq0
   have D_hatq1 := hatq1
   refine a_p 0 tK rfl rfl rfl rfl (by kernel_rfl) i3 hS ?_
   refine a_p 1 tK rfl rfl rfl rfl (by kernel_rfl) i3 hS ?_
   refine a_len 2 tK hfl rfl rfl rfl rfl rfl rfl (by kernel_rfl) i3 hS ?_
   refine a_p 3 tK rfl rfl rfl rfl (by kernel_rfl) i3 hS ?_
   refine a_p 4 tK rfl rfl rfl rfl (by kernel_rfl) i3 hS ?_
   refine a_splitP 84 _ rfl (fun hie => ?_) (fun hie => ?_)
   ·exact absurd hie (by omega)
   refine a_p 5 tK rfl rfl rfl rfl (by kernel_rfl) i3 hS ?_
   refine a_p 6 tK rfl rfl rfl rfl (by kernel_rfl) i3 hS ?_
   refine a_ixS 7 tK D_hfm (gE hkl) rfl rfl rfl rfl rfl rfl rfl rfl rfl rfl (by kernel_rfl) i4 hS ?_
   intro ebq2 eoq2 euq2 hrq2 hatq2
   obtain ⟨szq2, kvq2, rfl, hyq2⟩ := fld_open hrq2
   replace hatq2 : At _ w12 ebq2 eoq2 [.string m[k].name, .int .u8 m[k].ty.op, .string m[k].ty.name, .int .i64 m[k].ty.n, kvq2] := hatq2
   refine a_p 8 tK rfl rfl rfl rfl (by kernel_rfl) i3 hS ?_
   refine a_ld 9 tK (fun _ hs => (hatq2.Y hs).cell 0 _ rfl) rfl rfl rfl rfl rfl rfl (by kernel_rfl) i3 hS ?_
   refine a_p 10 tK rfl rfl rfl rfl (by kernel_rfl) i3 hS ?_
   refine a_p 11 tK rfl rfl rfl rfl (by kernel_rfl) i3 hS ?_
   refine a_ixS 12 tK D_hfl (gE hil) rfl rfl rfl rfl rfl rfl rfl rfl rfl rfl (by kernel_rfl) i4 hS ?_
   intro ebq3 eoq3 euq3 hrq3 hatq3
   obtain ⟨szq3, kvq3, rfl, hyq3⟩ := fld_open hrq3
   replace hatq3 : At _ w12 ebq3 eoq3 [.string l[i].name, .int .u8 l[i].ty.op, .string l[i].ty.name, .int .i64 l[i].ty.n, kvq3] := hatq3
   refine a_p 13 tK rfl rfl rfl rfl (by kernel_rfl) i3 hS ?_
   refine a_ld 14 tK (fun _ hs => (hatq3.Y hs).cell 0 _ rfl) rfl rfl rfl rfl rfl rfl (by kernel_rfl) i3 hS ?_
   refine a_p 15 tK rfl rfl rfl rfl (by kernel_rfl) i3 hS ?_
   refine a_p 16 tK rfl rfl rfl rfl (by kernel_rfl) i3 hS ?_
   refine a_p 17 tK rfl rfl rfl rfl (by kernel_rfl) i3 hS ?_
   refine a_end (by kernel_rfl) ?_
   refine xS ?_
   refine c_if _ rfl (fun hlt2 => ?_) (fun hlt2 => ?_)
   ·rw [sLt_cmpN] at hlt2
    replace hlt2 := of_decide_eq_true hlt2
    have hst := hmg.symm.stepL hsl hkl (.inr ⟨hil, hlt2⟩)
    refine cS (q0 (lP 1 tK rfl ?_))
    refine lC (oD tK (h3.cell 1 _ rfl) rfl rfl rfl rfl rfl ?_)
    refine lC (oL tK (fun j v hv => h5.cell j v hv) rfl rfl rfl rfl rfl rfl ?_)
    refine lC (oL tK (fun j v hv => h8.cell j v hv) rfl rfl rfl rfl rfl rfl ?_)
    refine lC (o_dyn rfl fol rfl rfl rfl (Hl b s M _ _ _ hb hvs Lw) ?_)
    rintro _ w13 ⟨rfl, ew13⟩
    replace hE := ew13.bl hE hB
    replace h3 := h3.Y ew13
    replace h5 := h5.Y ew13
    replace h8 := h8.Y ew13
    replace h10 := h10.Y ew13
    replace hfl := hfl.Y ew13
    replace hfm := hfm.Y ew13
    replace hb := Rep.Y hb ew13
    replace hvs := Rep.Y hvs ew13
    replace hvt := Rep.Y hvt ew13
    replace hrq0 := Rep.Y hrq0 ew13
    replace hyq0 := Rep.Y hyq0 ew13
    replace hatq0 := hatq0.Y ew13
    replace hrq1 := Rep.Y hrq1 ew13
    replace hyq1 := Rep.Y hyq1 ew13
    replace hatq1 := hatq1.Y ew13
    replace hrq2 := Rep.Y hrq2 ew13
    replace hyq2 := Rep.Y hyq2 ew13
    replace hatq2 := hatq2.Y ew13
    replace hrq3 := Rep.Y hrq3 ew13
    replace hyq3 := Rep.Y hyq3 ew13
    replace hatq3 := hatq3.Y ew13
    replace Lw := Lw.Y ew13
    replace hB := ew13.z hB
    refine lP 1 tK rfl (q1 ?_)
    refine c_ifB _ rfl (fun hlf => ?_) (fun hlf => ?_)
    ·refine q0 (lP 1 tK rfl (q1 (cR (xR (xB (xB (xR (xB (xR (x1_ rfl rfl ?_))))))))))
     rw [rows_noM el em hkl (by rw [es, okM_no hkl hst.2]; exact hlf)]
     exact ⟨rfl, hE⟩
    refine cK (xS (cG (lP 1 tK rfl ?_)))
    refine lC (o_ai rfl rfl rfl (by omega) rfl rfl ?_)
    refine lP 1 tK rfl (q2 (x_blk ?_))
    exact xN (i) (k + 1) (s8 rfl rfl rfl rfl rfl rfl rfl (gN rfl (by omega))) ⟨by omega, by omega, hst.1.symm, hokl, ok_step hokm (by rw [okM_no hkl hst.2]; exact hlf), h3, h5, h8, h10, hfl, hfm, hb, hvs, hvt, Lw, hE, hB⟩ (by omega)
   rw [sLt_cmpN] at hlt2
   replace hlt2 := of_decide_eq_false hlt2
   obtain ⟨hst, hidx, hcl, hcm⟩ := hmg.stepB hsm hil hkl (names_eq hlt hlt2)
   refine cS (cS ?_)
   refine a_beg Ext rfl ?_
   intro w14 ew14
   replace hE := ew14.bl hE hB
   replace h3 := h3.Y ew14
   replace h5 := h5.Y ew14
   replace h8 := h8.Y ew14
   replace h10 := h10.Y ew14
   replace hfl := hfl.Y ew14
   replace hfm := hfm.Y ew14
   replace hb := Rep.Y hb ew14
   replace hvs := Rep.Y hvs ew14
   replace hvt := Rep.Y hvt ew14
   replace hrq0 := Rep.Y hrq0 ew14
   replace hyq0 := Rep.Y hyq0 ew14
   replace hatq0 := hatq0.Y ew14
   replace hrq1 := Rep.Y hrq1 ew14
   replace hyq1 := Rep.Y hyq1 ew14
   replace hatq1 := hatq1.Y ew14
   replace hrq2 := Rep.Y hrq2 ew14
   replace hyq2 := Rep.Y hyq2 ew14
   replace hatq2 := hatq2.Y ew14
   replace hrq3 := Rep.Y hrq3 ew14
   replace hyq3 := Rep.Y hyq3 ew14
   replace hatq3 := hatq3.Y ew14
   replace Lw := Lw.Y ew14
   replace hB := ew14.z hB
   have hS : Ext w14 w14 := ext_refl _
   have D_h3 := h3
   have D_h5 := h5
   have D_h8 := h8
   have D_h10 := h10
   have D_hfl := hfl
   have D_hfm := hfm
   have D_hatq0 := hatq0
   have D_hatq1 := hatq1
   have D_hatq2 := hatq2
   have D_hatq3 := hatq3
   refine a_lds 0 tK (fun _ hs j v hv => (D_h3.Y hs).cell j v hv) rfl rfl rfl rfl rfl rfl rfl (by kernel_rfl) i3 hS ?_
   refine a_p 1 tK rfl rfl rfl rfl (by kernel_rfl) i3 hS ?_
   refine a_p 2 tK rfl rfl rfl rfl (by kernel_rfl) i3 hS ?_
   refine a_ixS 3 tK D_hfl (gE hil) rfl rfl rfl rfl rfl rfl rfl rfl rfl rfl (by kernel_rfl) i4 hS ?_
   intro ebq4 eoq4 euq4 hrq4 hatq4
   obtain ⟨szq4, kvq4, rfl, hyq4⟩ := fld_open hrq4
   replace hatq4 : At _ w14 ebq4 eoq4 [.string l[i].name, .int .u8 l[i].ty.op, .string l[i].ty.name, .int .i64 l[i].ty.n, kvq4] := hatq4
   refine a_p 4 tK rfl rfl rfl rfl (by kernel_rfl) i3 hS ?_
   refine a_lds 5 tK (fun _ hs j v hv => ((hatq4.Y hs)).drop 1 (sub := [.int .u8 l[i].ty.op, .string l[i].ty.name, .int .i64 l[i].ty.n, kvq4]) rfl j v hv) rfl rfl rfl rfl rfl rfl rfl (by kernel_rfl) i3 hS ?_
   refine a_p 6 tK rfl rfl rfl rfl (by kernel_rfl) i3 hS ?_
   refine a_p 7 tK rfl rfl rfl rfl (by kernel_rfl) i3 hS ?_
   refine a_ixS 8 tK D_hfm (gE hkl) rfl rfl rfl rfl rfl rfl rfl rfl rfl rfl (by kernel_rfl) i4 hS ?_
   intro ebq5 eoq5 euq5 hrq5 hatq5
   obtain ⟨szq5, kvq5, rfl, hyq5⟩ := fld_open hrq5
   replace hatq5 : At _ w14 ebq5 eoq5 [.string m[k].name, .int .u8 m[k].ty.op, .string m[k].ty.name, .int .i64 m[k].ty.n, kvq5] := hatq5
   refine a_p 9 tK rfl rfl rfl rfl (by kernel_rfl) i3 hS ?_
   refine a_lds 10 tK (fun _ hs j v hv => ((hatq5.Y hs)).drop 1 (sub := [.int .u8 m[k].ty.op, .string m[k].ty.name, .int .i64 m[k].ty.n, kvq5]) rfl j v hv) rfl rfl rfl rfl rfl rfl rfl (by kernel_rfl) i3 hS ?_
   refine a_bar 11 rfl (by kernel_rfl) (by kernel_rfl) (oK fo105 rfl rfl rfl (IH l[i].ty m[k].ty (by have := (hrl _ (gM hil)).2; omega) (hrl _ (gM hil)).1 (hrm _ (gM hkl)).1 (by have := (hrm _ (gM hkl)).2; omega) M _ _ _ hyq4 hyq5 Lw) ?_)
   rintro _ w15 ⟨rfl, ew15⟩
   replace hS := hS.then ew15
   replace hE := ew15.bl hE hB
   replace h3 := h3.Y ew15
   replace h5 := h5.Y ew15
   replace h8 := h8.Y ew15
   replace h10 := h10.Y ew15
   replace hfl := hfl.Y ew15
   replace hfm := hfm.Y ew15
   replace hb := Rep.Y hb ew15
   replace hvs := Rep.Y hvs ew15
   replace hvt := Rep.Y hvt ew15
   replace hrq0 := Rep.Y hrq0 ew15
   replace hyq0 := Rep.Y hyq0 ew15
   replace hatq0 := hatq0.Y ew15
   replace hrq1 := Rep.Y hrq1 ew15
   replace hyq1 := Rep.Y hyq1 ew15
   replace hatq1 := hatq1.Y ew15
   replace hrq2 := Rep.Y hrq2 ew15
   replace hyq2 := Rep.Y hyq2 ew15
   replace hatq2 := hatq2.Y ew15
   replace hrq3 := Rep.Y hrq3 ew15
   replace hyq3 := Rep.Y hyq3 ew15
   replace hatq3 := hatq3.Y ew15
   replace hrq4 := Rep.Y hrq4 ew15
   replace hyq4 := Rep.Y hyq4 ew15
   replace hatq4 := hatq4.Y ew15
   replace hrq5 := Rep.Y hrq5 ew15
   replace hyq5 := Rep.Y hyq5 ew15
   replace hatq5 := hatq5.Y ew15
   replace Lw := Lw.Y ew15
   replace hB := ew15.z hB
   refine a_p 12 tK rfl rfl rfl rfl (by kernel_rfl) i3 hS ?_
   refine a_end (by kernel_rfl) ?_
   refine xS ?_
   refine c_ifB _ rfl (fun hho => ?_) (fun hho => ?_)
   ·refine q0 (lP 1 tK rfl (q1 (cR (xR (xB (xB (xR (xB (xR (x1_ rfl rfl ?_))))))))))
    rw [rows_noL el em hil (by rw [et, okL_yes hil hkl hcl hidx]; exact hho)]
    exact ⟨rfl, hE⟩
   refine cK (xS (cG (lP 1 tK rfl ?_)))
   refine lC (o_ai rfl rfl rfl (by omega) rfl rfl ?_)
   refine lP 1 tK rfl ?_
   refine lC (o_ai rfl rfl rfl (by omega) rfl rfl ?_)
   refine lP 2 tK rfl (q2 (x_blk ?_))
   exact xN (i + 1) (k + 1) (s8 rfl rfl rfl rfl rfl rfl (gN rfl (by omega)) (gN rfl (by omega))) ⟨by omega, by omega, hst, ok_step hokl (by rw [okL_yes hil hkl hcl hidx]; exact hho), ok_step hokm (okM_yes hkl hcm), h3, h5, h8, h10, hfl, hfm, hb, hvs, hvt, Lw, hE, hB⟩ (by omega)
  exact absurd hA (by omega)
 refine lP 2 tK rfl ?_
 refine lC (o_len tK hfm rfl rfl rfl rfl rfl ?_)
 refine lP 2 tK rfl (q1 ?_)
 refine cP _ rfl (fun hkB => ?_) (fun hkB => ?_)
 ·have hkl : k < m.length := by omega
  refine cK (xS (cB (cB (cS ?_))))
  refine a_beg Ext rfl ?_
  intro w16 ew16
  replace hE := ew16.bl hE hB
  replace h3 := h3.Y ew16
  replace h5 := h5.Y ew16
  replace h8 := h8.Y ew16
  replace h10 := h10.Y ew16
  replace hfl := hfl.Y ew16
  replace hfm := hfm.Y ew16
  replace hb := Rep.Y hb ew16
  replace hvs := Rep.Y hvs ew16
  replace hvt := Rep.Y hvt ew16
  replace Lw := Lw.Y ew16
  replace hB := ew16.z hB
  have hS : Ext w16 w16 := ext_refl _
  have D_h3 := h3
  have D_h5 := h5
  have D_h8 := h8
  have D_h10 := h10
  have D_hfl := hfl
  have D_hfm := hfm
  refine a_p 0 tK rfl rfl rfl rfl (by kernel_rfl) i3 hS ?_
  refine a_p 1 tK rfl rfl rfl rfl (by kernel_rfl) i3 hS ?_
  refine a_len 2 tK hfm rfl rfl rfl rfl rfl rfl (by kernel_rfl) i3 hS ?_
  refine a_p 3 tK rfl rfl rfl rfl (by kernel_rfl) i3 hS ?_
  refine a_p 4 tK rfl rfl rfl rfl (by kernel_rfl) i3 hS ?_
  refine a_splitP 55 _ rfl (fun hke => ?_) (fun hke => ?_)
  ·exact absurd hke (by omega)
  have hkl : k < m.length := by omega
  refine a_p 5 tK rfl rfl rfl rfl (by kernel_rfl) i3 hS ?_
  refine a_p 6 tK rfl rfl rfl rfl (by kernel_rfl) i3 hS ?_
  refine a_len 7 tK hfl rfl rfl rfl rfl rfl rfl (by kernel_rfl) i3 hS ?_
  refine a_p 8 tK rfl rfl rfl rfl (by kernel_rfl) i3 hS ?_
  refine a_p 9 tK rfl rfl rfl rfl (by kernel_rfl) i3 hS ?_
  refine a_splitP 60 _ rfl (fun hib => ?_) (fun hib => ?_)
  ·exact absurd hib (by omega)
  refine aK 10 rfl rfl rfl (by kernel_rfl) i3 hS ?_
  refine aK 11 rfl rfl rfl (by kernel_rfl) i3 hS ?_
  refine aK 12 rfl rfl rfl (by kernel_rfl) i3 hS ?_
  refine aK 13 rfl rfl rfl (by kernel_rfl) i3 hS ?_
  refine aK 14 rfl rfl rfl (by kernel_rfl) i3 hS ?_
  refine aK 15 rfl rfl rfl (by kernel_rfl) i3 hS ?_
  refine aK 16 rfl rfl rfl (by kernel_rfl) i3 hS ?_
  refine aK 17 rfl rfl rfl (by kernel_rfl) i3 hS ?_
  refine aK 18 rfl rfl rfl (by kernel_rfl) i3 hS ?_
  refine aK 19 rfl rfl rfl (by kernel_rfl) i3 hS ?_
  refine aK 20 rfl rfl rfl (by kernel_rfl) i3 hS ?_
  refine a_p 21 tK rfl rfl rfl rfl (by kernel_rfl) i3 hS ?_
  refine a_p 22 tK rfl rfl rfl rfl (by kernel_rfl) i3 hS ?_
  refine a_p 23 tK rfl rfl rfl rfl (by kernel_rfl) i3 hS ?_
  refine a_end (by kernel_rfl) ?_
  refine xS (c_ifF rfl (cS ?_))
  refine a_beg Ext rfl ?_
  intro w17 ew17
  replace hE := ew17.bl hE hB
  replace h3 := h3.Y ew17
  replace h5 := h5.Y ew17
  replace h8 := h8.Y ew17
  replace h10 := h10.Y ew17
  replace hfl := hfl.Y ew17
  replace hfm := hfm.Y ew17
  replace hb := Rep.Y hb ew17
  replace hvs := Rep.Y hvs ew17
  replace hvt := Rep.Y hvt ew17
  replace Lw := Lw.Y ew17
  replace hB := ew17.z hB
  have hS : Ext w17 w17 := ext_refl _
  have D_h3 := h3
  have D_h5 := h5
  have D_h8 := h8
  have D_h10 := h10
  have D_hfl := hfl
  have D_hfm := hfm
  refine a_p 0 tK rfl rfl rfl rfl (by kernel_rfl) i3 hS ?_
  refine a_p 1 tK rfl rfl rfl rfl (by kernel_rfl) i3 hS ?_
  refine a_len 2 tK hfl rfl rfl rfl rfl rfl rfl (by kernel_rfl) i3 hS ?_
  refine a_p 3 tK rfl rfl rfl rfl (by kernel_rfl) i3 hS ?_
  refine a_p 4 tK rfl rfl rfl rfl (by kernel_rfl) i3 hS ?_
  refine a_splitP 84 _ rfl (fun hie => ?_) (fun hie => ?_)
  ·have hst := hmg.symm.stepL hsl hkl (.inl (by omega))
   refine aK 5 rfl rfl rfl (by kernel_rfl) i3 hS ?_
   refine aK 6 rfl rfl rfl (by kernel_rfl) i3 hS ?_
   refine aK 7 rfl rfl rfl (by kernel_rfl) i3 hS ?_
   refine aK 8 rfl rfl rfl (by kernel_rfl) i3 hS ?_
   refine aK 9 rfl rfl rfl (by kernel_rfl) i3 hS ?_
   refine aK 10 rfl rfl rfl (by kernel_rfl) i3 hS ?_
   refine aK 11 rfl rfl rfl (by kernel_rfl) i3 hS ?_
   refine aK 12 rfl rfl rfl (by kernel_rfl) i3 hS ?_
   refine aK 13 rfl rfl rfl (by kernel_rfl) i3 hS ?_
   refine aK 14 rfl rfl rfl (by kernel_rfl) i3 hS ?_
   refine aK 15 rfl rfl rfl (by kernel_rfl) i3 hS ?_
   refine a_p 16 tK rfl rfl rfl rfl (by kernel_rfl) i3 hS ?_
   refine a_p 17 tK rfl rfl rfl rfl (by kernel_rfl) i3 hS ?_
   refine a_end (by kernel_rfl) ?_
   refine xS (cI rfl (cS (q0 (lP 1 tK rfl ?_))))
   refine lC (oD tK (h3.cell 1 _ rfl) rfl rfl rfl rfl rfl ?_)
   refine lC (oL tK (fun j v hv => h5.cell j v hv) rfl rfl rfl rfl rfl rfl ?_)
   refine lC (oL tK (fun j v hv => h8.cell j v hv) rfl rfl rfl rfl rfl rfl ?_)
   refine lC (o_dyn rfl fol rfl rfl rfl (Hl b s M _ _ _ hb hvs Lw) ?_)
   rintro _ w18 ⟨rfl, ew18⟩
   replace hE := ew18.bl hE hB
   replace h3 := h3.Y ew18
   replace h5 := h5.Y ew18
   replace h8 := h8.Y ew18
   replace h10 := h10.Y ew18
   replace hfl := hfl.Y ew18
   replace hfm := hfm.Y ew18
   replace hb := Rep.Y hb ew18
   replace hvs := Rep.Y hvs ew18
   replace hvt := Rep.Y hvt ew18
   replace Lw := Lw.Y ew18
   replace hB := ew18.z hB
   refine lP 1 tK rfl (q1 ?_)
   refine c_ifB _ rfl (fun hlf => ?_) (fun hlf => ?_)
   ·refine q0 (lP 1 tK rfl (q1 (cR (xR (xB (xB (xR (xB (xR (x1_ rfl rfl ?_))))))))))
    rw [rows_noM el em hkl (by rw [es, okM_no hkl hst.2]; exact hlf)]
    exact ⟨rfl, hE⟩
   refine cK (xS (cG (lP 1 tK rfl ?_)))
   refine lC (o_ai rfl rfl rfl (by omega) rfl rfl ?_)
   refine lP 1 tK rfl (q2 (x_blk ?_))
   exact xN (i) (k + 1) (s8 rfl rfl rfl rfl rfl rfl rfl (gN rfl (by omega))) ⟨by omega, by omega, hst.1.symm, hokl, ok_step hokm (by rw [okM_no hkl hst.2]; exact hlf), h3, h5, h8, h10, hfl, hfm, hb, hvs, hvt, Lw, hE, hB⟩ (by omega)
  exact absurd hie (by omega)
 refine c_exit (xE (xE (x_blkE (xS (q0 (lP 1 tK rfl ?_))))))
 refine lC (oD tK (h3.cell 0 _ rfl) rfl rfl rfl rfl rfl ?_)
 refine lC (oL tK (fun j v hv => h8.cell j v hv) rfl rfl rfl rfl rfl rfl ?_)
 refine lC (oL tK (fun j v hv => h10.cell j v hv) rfl rfl rfl rfl rfl rfl ?_)
 refine lC (o_dyn rfl fod rfl rfl rfl (Hd s t M _ _ _ hvs hvt Lw) ?_)
 rintro _ w19 ⟨rfl, ew19⟩
 replace hE := ew19.bl hE hB
 replace h3 := h3.Y ew19
 replace h5 := h5.Y ew19
 replace h8 := h8.Y ew19
 replace h10 := h10.Y ew19
 replace hfl := hfl.Y ew19
 replace hfm := hfm.Y ew19
 replace hb := Rep.Y hb ew19
 replace hvs := Rep.Y hvs ew19
 replace hvt := Rep.Y hvt ew19
 replace Lw := Lw.Y ew19
 replace hB := ew19.z hB
 refine lP 1 tK rfl ?_
 refine l_split 110 _ rfl (fun hdn => ?_) (fun hdn => ?_)
 ·refine lP 14 tK rfl (q1 (cR (x1_ rfl rfl ?_)))
  rw [rows_all el em (fun j hj => by rw [et]; exact hokl j (by omega)) (fun j hj => by rw [es]; exact hokm j (by omega)), es, et, tailF]
  exact ⟨by simp [*], hE⟩
 refine lP 1 tK rfl ?_
 refine lC (oD tK (h8.cell 0 _ rfl) rfl rfl rfl rfl rfl ?_)
 refine lP 1 tK rfl ?_
 refine lC (oD tK (h10.cell 0 _ rfl) rfl rfl rfl rfl rfl ?_)
 refine lP 2 tK rfl ?_
 refine lS 116 _ rfl (fun hop => ?_) (fun hop => ?_)
 ·refine lP 1 tK rfl ?_
  refine lC (oD tK (h8.cell 2 _ rfl) rfl rfl rfl rfl rfl ?_)
  refine lP 1 tK rfl ?_
  refine lC (oD tK (h10.cell 2 _ rfl) rfl rfl rfl rfl rfl ?_)
  refine lP 4 tK rfl (q1 (cR (x1_ rfl rfl ?_)))
  rw [rows_all el em (fun j hj => by rw [et]; exact hokl j (by omega)) (fun j hj => by rw [es]; exact hokm j (by omega)), es, et, tailF]
  exact ⟨by simp [*], hE⟩
 refine lP 8 tK rfl (q1 (cR (x1_ rfl rfl ?_)))
 rw [rows_all el em (fun j hj => by rw [et]; exact hokl j (by omega)) (fun j hj => by rw [es]; exact hokm j (by omega)), es, et, tailF]
 exact ⟨by simp [*], hE⟩
theorem holds_of (less : Bool) (fd fl : Nat) (fod : FnOk Try.prog fd) (fol : FnOk Try.prog fl) (Hd : ∀ (x y : Ty) (M : Nat → Prop) (w : World) (v u : Value), Rep.R M w v x → Rep.R M w u y → Low M w → Calls Try.prog fd #[v, u] w (Ret fun r w' => r = .bool (dynF less x y) ∧ Ext w w')) (Hl : ∀ (x y : Ty) (M : Nat → Prop) (w : World) (v u : Value), Rep.R M w v x → Rep.R M w u y → Low M w → Calls Try.prog fl #[v, u] w (Ret fun r w' => r = .bool (!less && decide (y.op = 9)) ∧ Ext w w')) (a b : Ty) (IH : ∀ x y, psz x < psz a → rightB x = true → rightB y = true → psz y ≤ 2000000 → ∀ (M : Nat → Prop) (w : World) (v u : Value), Rep.R M w v x → Rep.R M w u y → Low M w → Calls Try.prog 105 #[.agg #[.func (.func fd) #[] #[], .func (.func fl) #[] #[]], v, u] w (Ret fun r w' => r = .bool (holdsF less x y) ∧ Ext w w')) (M : Nat → Prop) (w : World) (v u : Value) (hra : rightB a = true) (hrb : rightB b = true) (ha : Rep.R M w v a) (hb : Rep.R M w u b) (Lw : Low M w) (hza : psz a ≤ 2000000) (hzb : psz b ≤ 2000000) :
  Calls Try.prog 105 #[.agg #[.func (.func fd) #[] #[], .func (.func fl) #[] #[]], v, u] w (Ret fun r w' => r = .bool (holdsF less a b) ∧ Ext w w') := by
 have hE := Below.refl w.heap.size w
 have hB := lR w.heap.size
 obtain ⟨kva, rfl, opa, nma, n64a, hka⟩ := tO ha
 obtain ⟨kvb, rfl, opb, nmb, n64b, hkb⟩ := tO hb
 refine cN (n := 63) Try.func105 rfl rfl rfl ?_
 refine q0 ?_
 refine lC (o_box rfl rfl rfl ?_)
 intro b3 w1 hb_b3 ew1 h3
 replace h3 := h3.at (nO Lw hb_b3)
 replace hE := ew1.bl hE hB
 replace ha := Rep.Y ha ew1
 replace hka := hka.Y ew1
 replace hb := Rep.Y hb ew1
 replace hkb := hkb.Y ew1
 replace Lw := Lw.Y ew1
 replace hB := ew1.z hB
 replace h3 : At _ _ b3 0 [.func (.func fd) #[] #[], .func (.func fl) #[] #[]] := h3
 refine lC (o_box rfl rfl rfl ?_)
 intro b4 w2 hb_b4 ew2 h4
 replace h4 : Box _ b4 25 [.int .u8 a.op, .string a.name, .int .i64 a.n, kva] := h4
 replace h4 := h4.at (nO Lw hb_b4)
 replace hE := ew2.bl hE hB
 replace ha := Rep.Y ha ew2
 replace hka := hka.Y ew2
 replace hb := Rep.Y hb ew2
 replace hkb := hkb.Y ew2
 replace h3 := h3.Y ew2
 replace Lw := Lw.Y ew2
 replace hB := ew2.z hB
 refine lC (o_box rfl rfl rfl ?_)
 intro b5 w3 hb_b5 ew3 h5
 replace h5 : Box _ b5 25 [.int .u8 b.op, .string b.name, .int .i64 b.n, kvb] := h5
 replace h5 := h5.at (nO Lw hb_b5)
 replace hE := ew3.bl hE hB
 replace ha := Rep.Y ha ew3
 replace hka := hka.Y ew3
 replace hb := Rep.Y hb ew3
 replace hkb := hkb.Y ew3
 replace h3 := h3.Y ew3
 replace h4 := h4.Y ew3
 replace Lw := Lw.Y ew3
 replace hB := ew3.z hB
 refine lP 1 tK rfl (q1 (cS (q0 (lP 1 tK rfl ?_))))
 refine lC (oD tK (h3.cell 0 _ rfl) rfl rfl rfl rfl rfl ?_)
 refine lC (oL tK (fun j v hv => h4.cell j v hv) rfl rfl rfl rfl rfl rfl ?_)
 refine lC (oL tK (fun j v hv => h5.cell j v hv) rfl rfl rfl rfl rfl rfl ?_)
 refine lC (o_dyn rfl fod rfl rfl rfl (Hd a b M _ _ _ ha hb Lw) ?_)
 rintro _ w4 ⟨rfl, ew4⟩
 replace hE := ew4.bl hE hB
 replace ha := Rep.Y ha ew4
 replace hka := hka.Y ew4
 replace hb := Rep.Y hb ew4
 replace hkb := hkb.Y ew4
 replace h3 := h3.Y ew4
 replace h4 := h4.Y ew4
 replace h5 := h5.Y ew4
 replace Lw := Lw.Y ew4
 replace hB := ew4.z hB
 refine q1 ?_
 refine c_if _ rfl (fun hdy => ?_) (fun hdy => ?_)
 ·refine q0 (lP 1 tK rfl (q1 (cR (xR (x1_ rfl rfl ?_)))))
  rw [holdsF_eq less a b, hdy]
  exact ⟨rfl, hE⟩
 refine cK (xS (cS (q0 (lP 1 tK rfl ?_))))
 refine lC (oD tK (h4.cell 0 _ rfl) rfl rfl rfl rfl rfl ?_)
 refine lP 1 tK rfl ?_
 refine lC (oD tK (h5.cell 0 _ rfl) rfl rfl rfl rfl rfl ?_)
 refine lP 2 tK rfl ?_
 refine l_splitN 17 _ rfl (fun ho => ?_) (fun ho => ?_)
 ·refine lP 6 tK rfl (q1 (cI rfl (q0 (lP 1 tK rfl (q1 (cR (xR (x1_ rfl rfl ?_))))))))
  rw [holdsF_eq less a b, hdy, dF ho]
  exact ⟨rfl, hE⟩
 refine lP 1 tK rfl ?_
 refine lC (oD tK (h4.cell 2 _ rfl) rfl rfl rfl rfl rfl ?_)
 refine lP 1 tK rfl ?_
 refine lC (oD tK (h5.cell 2 _ rfl) rfl rfl rfl rfl rfl ?_)
 refine lP 2 tK rfl (q1 ?_)
 refine c_ifN _ rfl (fun hn => ?_) (fun hn => ?_)
 ·refine q0 (lP 1 tK rfl (q1 (cR (xR (x1_ rfl rfl ?_)))))
  rw [holdsF_eq less a b, hdy, dT ho, dF hn]
  exact ⟨rfl, hE⟩
 refine cK (xS (cS (q0 (lP 1 tK rfl ?_))))
 refine lC (oD tK (h4.cell 0 _ rfl) rfl rfl rfl rfl rfl ?_)
 refine q1 (cB (q0 (lP 2 tK rfl (q1 ?_))))
 refine cP _ rfl (fun o4 => ?_) (fun o4 => ?_)
 ·obtain ⟨ka, ra, eka, hka1, hra1⟩ := fun_kids hra (by omega)
  obtain ⟨kb, rb, ekb, hkb1, hrb1⟩ := fun_kids hrb (by omega)
  have pa : psz ka < psz a := kid_psz (by rw [eka]; simp)
  have pa2 : psz ra < psz a := kid_psz (by rw [eka]; simp)
  have pb : psz kb < psz b := kid_psz (by rw [ekb]; simp)
  have pb2 : psz rb < psz b := kid_psz (by rw [ekb]; simp)
  refine cS ?_
  refine a_beg Ext rfl ?_
  intro w5 ew5
  replace hE := ew5.bl hE hB
  replace ha := Rep.Y ha ew5
  replace hka := hka.Y ew5
  replace hb := Rep.Y hb ew5
  replace hkb := hkb.Y ew5
  replace h3 := h3.Y ew5
  replace h4 := h4.Y ew5
  replace h5 := h5.Y ew5
  replace Lw := Lw.Y ew5
  replace hB := ew5.z hB
  have hS : Ext w5 w5 := ext_refl _
  have D_hka := hka
  have D_hkb := hkb
  have D_h3 := h3
  have D_h4 := h4
  have D_h5 := h5
  refine a_lds 0 tK (fun _ hs j v hv => (D_h3.Y hs).cell j v hv) rfl rfl rfl rfl rfl rfl rfl (by kernel_rfl) i3 hS ?_
  refine a_p 1 tK rfl rfl rfl rfl (by kernel_rfl) i3 hS ?_
  refine a_ld 2 tK (fun _ hs => (D_h4.Y hs).cell 3 _ rfl) rfl rfl rfl rfl rfl rfl (by kernel_rfl) i3 hS ?_
  refine a_ixS 3 tK D_hka (show a.kids[0]? = some ka by rw [eka]; rfl) rfl rfl rfl rfl rfl rfl rfl rfl rfl rfl (by kernel_rfl) i4 hS ?_
  intro ebz0 eoz0 euz0 hyz0 hatz0
  obtain ⟨kvz0, rfl, opz0, nmz0, n64z0, hkz0⟩ := tO hyz0
  replace hatz0 : At M w5 ebz0 eoz0 [.int .u8 ka.op, .string ka.name, .int .i64 ka.n, kvz0] := hatz0
  refine a_lds 4 tK (fun _ hs j v hv => (hatz0.Y hs).cell j v hv) rfl rfl rfl rfl rfl rfl rfl (by kernel_rfl) i3 hS ?_
  refine a_p 5 tK rfl rfl rfl rfl (by kernel_rfl) i3 hS ?_
  refine a_ld 6 tK (fun _ hs => (D_h5.Y hs).cell 3 _ rfl) rfl rfl rfl rfl rfl rfl (by kernel_rfl) i3 hS ?_
  refine a_ixS 7 tK D_hkb (show b.kids[0]? = some kb by rw [ekb]; rfl) rfl rfl rfl rfl rfl rfl rfl rfl rfl rfl (by kernel_rfl) i4 hS ?_
  intro ebz1 eoz1 euz1 hyz1 hatz1
  obtain ⟨kvz1, rfl, opz1, nmz1, n64z1, hkz1⟩ := tO hyz1
  replace hatz1 : At M w5 ebz1 eoz1 [.int .u8 kb.op, .string kb.name, .int .i64 kb.n, kvz1] := hatz1
  refine a_lds 8 tK (fun _ hs j v hv => (hatz1.Y hs).cell j v hv) rfl rfl rfl rfl rfl rfl rfl (by kernel_rfl) i3 hS ?_
  refine a_bar 9 rfl (by kernel_rfl) (by kernel_rfl) (oK fo105 rfl rfl rfl (IH ka kb (by omega) hka1 hkb1 (by omega) M _ _ _ hyz0 hyz1 Lw) ?_)
  rintro _ w6 ⟨rfl, ew6⟩
  replace hS := hS.then ew6
  replace hE := ew6.bl hE hB
  replace ha := Rep.Y ha ew6
  replace hka := hka.Y ew6
  replace hb := Rep.Y hb ew6
  replace hkb := hkb.Y ew6
  replace h3 := h3.Y ew6
  replace h4 := h4.Y ew6
  replace h5 := h5.Y ew6
  replace hyz0 := Rep.Y hyz0 ew6
  replace hkz0 := hkz0.Y ew6
  replace hatz0 := hatz0.Y ew6
  replace hyz1 := Rep.Y hyz1 ew6
  replace hkz1 := hkz1.Y ew6
  replace hatz1 := hatz1.Y ew6
  replace Lw := Lw.Y ew6
  replace hB := ew6.z hB
  refine a_p 10 tK rfl rfl rfl rfl (by kernel_rfl) i3 hS ?_
  refine a_split 38 _ rfl (fun hk1 => ?_) (fun hk1 => ?_)
  ·refine a_lds 11 tK (fun _ hs j v hv => (D_h3.Y hs).cell j v hv) rfl rfl rfl rfl rfl rfl rfl (by kernel_rfl) i3 hS ?_
   refine a_p 12 tK rfl rfl rfl rfl (by kernel_rfl) i3 hS ?_
   refine a_ld 13 tK (fun _ hs => (D_h4.Y hs).cell 3 _ rfl) rfl rfl rfl rfl rfl rfl (by kernel_rfl) i3 hS ?_
   refine a_ixS 14 tK D_hka (show a.kids[1]? = some ra by rw [eka]; rfl) rfl rfl rfl rfl rfl rfl rfl rfl rfl rfl (by kernel_rfl) i4 hS ?_
   intro ebz2 eoz2 euz2 hyz2 hatz2
   obtain ⟨kvz2, rfl, opz2, nmz2, n64z2, hkz2⟩ := tO hyz2
   replace hatz2 : At M w5 ebz2 eoz2 [.int .u8 ra.op, .string ra.name, .int .i64 ra.n, kvz2] := hatz2
   have D_hatz2 := hatz2
   replace hatz2 := hatz2.Y hS
   have D_hkz2 := hkz2
   replace hkz2 := hkz2.Y hS
   replace hyz2 := Rep.Y hyz2 hS
   refine a_lds 15 tK (fun _ hs j v hv => (D_hatz2.Y hs).cell j v hv) rfl rfl rfl rfl rfl rfl rfl (by kernel_rfl) i3 hS ?_
   refine a_p 16 tK rfl rfl rfl rfl (by kernel_rfl) i3 hS ?_
   refine a_ld 17 tK (fun _ hs => (D_h5.Y hs).cell 3 _ rfl) rfl rfl rfl rfl rfl rfl (by kernel_rfl) i3 hS ?_
   refine a_ixS 18 tK D_hkb (show b.kids[1]? = some rb by rw [ekb]; rfl) rfl rfl rfl rfl rfl rfl rfl rfl rfl rfl (by kernel_rfl) i4 hS ?_
   intro ebz3 eoz3 euz3 hyz3 hatz3
   obtain ⟨kvz3, rfl, opz3, nmz3, n64z3, hkz3⟩ := tO hyz3
   replace hatz3 : At M w5 ebz3 eoz3 [.int .u8 rb.op, .string rb.name, .int .i64 rb.n, kvz3] := hatz3
   have D_hatz3 := hatz3
   replace hatz3 := hatz3.Y hS
   have D_hkz3 := hkz3
   replace hkz3 := hkz3.Y hS
   replace hyz3 := Rep.Y hyz3 hS
   refine a_lds 19 tK (fun _ hs j v hv => (D_hatz3.Y hs).cell j v hv) rfl rfl rfl rfl rfl rfl rfl (by kernel_rfl) i3 hS ?_
   refine a_bar 20 rfl (by kernel_rfl) (by kernel_rfl) (oK fo105 rfl rfl rfl (IH ra rb (by omega) hra1 hrb1 (by omega) M _ _ _ hyz2 hyz3 Lw) ?_)
   rintro _ w7 ⟨rfl, ew7⟩
   replace hS := hS.then ew7
   replace hE := ew7.bl hE hB
   replace ha := Rep.Y ha ew7
   replace hka := hka.Y ew7
   replace hb := Rep.Y hb ew7
   replace hkb := hkb.Y ew7
   replace h3 := h3.Y ew7
   replace h4 := h4.Y ew7
   replace h5 := h5.Y ew7
   replace hyz0 := Rep.Y hyz0 ew7
   replace hkz0 := hkz0.Y ew7
   replace hatz0 := hatz0.Y ew7
   replace hyz1 := Rep.Y hyz1 ew7
   replace hkz1 := hkz1.Y ew7
   replace hatz1 := hatz1.Y ew7
   replace hyz2 := Rep.Y hyz2 ew7
   replace hkz2 := hkz2.Y ew7
   replace hatz2 := hatz2.Y ew7
   replace hyz3 := Rep.Y hyz3 ew7
   replace hkz3 := hkz3.Y ew7
   replace hatz3 := hatz3.Y ew7
   replace Lw := Lw.Y ew7
   replace hB := ew7.z hB
   refine a_p 21 tK rfl rfl rfl rfl (by kernel_rfl) i3 hS ?_
   refine a_p 22 tK rfl rfl rfl rfl (by kernel_rfl) i3 hS ?_
   refine a_end (by kernel_rfl) ?_
   refine xS (cR (xB (xR (x1_ rfl rfl ?_))))
   rw [holdsF_eq less a b, hdy, dT ho, dT hn, dT o4, eka, ekb]
   exact ⟨by show _ = Value.bool (holdsF less ka kb && holdsF less ra rb); rw [hk1]; rfl, hE⟩
  refine aK 11 rfl rfl rfl (by kernel_rfl) i3 hS ?_
  refine aK 12 rfl rfl rfl (by kernel_rfl) i3 hS ?_
  refine aK 13 rfl rfl rfl (by kernel_rfl) i3 hS ?_
  refine aK 14 rfl rfl rfl (by kernel_rfl) i3 hS ?_
  refine aK 15 rfl rfl rfl (by kernel_rfl) i3 hS ?_
  refine aK 16 rfl rfl rfl (by kernel_rfl) i3 hS ?_
  refine aK 17 rfl rfl rfl (by kernel_rfl) i3 hS ?_
  refine aK 18 rfl rfl rfl (by kernel_rfl) i3 hS ?_
  refine aK 19 rfl rfl rfl (by kernel_rfl) i3 hS ?_
  refine aK 20 rfl rfl rfl (by kernel_rfl) i3 hS ?_
  refine a_p 21 tK rfl rfl rfl rfl (by kernel_rfl) i3 hS ?_
  refine a_p 22 tK rfl rfl rfl rfl (by kernel_rfl) i3 hS ?_
  refine a_end (by kernel_rfl) ?_
  refine xS (cR (xB (xR (x1_ rfl rfl ?_))))
  rw [holdsF_eq less a b, hdy, dT ho, dT hn, dT o4, eka, ekb]
  exact ⟨by show _ = Value.bool (holdsF less ka kb && holdsF less ra rb); rw [hk1]; rfl, hE⟩
 refine cS (q0 (lP 2 tK rfl (q1 ?_)))
 refine c_splitP 50 _ rfl (fun o5 => cI rfl ?_) (fun o5 => c_ifF rfl ?_)
 ·obtain ⟨ka, eka, hka1⟩ := rec_kids hra (by omega)
  obtain ⟨kb, ekb, hkb1⟩ := rec_kids hrb (by omega)
  have pa : psz ka < psz a := kid_psz (by rw [eka]; simp)
  have pb : psz kb < psz b := kid_psz (by rw [ekb]; simp)
  refine cK (xS (cI rfl (cS ?_)))
  refine a_beg Ext rfl ?_
  intro w8 ew8
  replace hE := ew8.bl hE hB
  replace ha := Rep.Y ha ew8
  replace hka := hka.Y ew8
  replace hb := Rep.Y hb ew8
  replace hkb := hkb.Y ew8
  replace h3 := h3.Y ew8
  replace h4 := h4.Y ew8
  replace h5 := h5.Y ew8
  replace Lw := Lw.Y ew8
  replace hB := ew8.z hB
  have hS : Ext w8 w8 := ext_refl _
  have D_hka := hka
  have D_hkb := hkb
  have D_h3 := h3
  have D_h4 := h4
  have D_h5 := h5
  refine a_lds 0 tK (fun _ hs j v hv => (D_h3.Y hs).cell j v hv) rfl rfl rfl rfl rfl rfl rfl (by kernel_rfl) i3 hS ?_
  refine a_p 1 tK rfl rfl rfl rfl (by kernel_rfl) i3 hS ?_
  refine a_ld 2 tK (fun _ hs => (D_h4.Y hs).cell 3 _ rfl) rfl rfl rfl rfl rfl rfl (by kernel_rfl) i3 hS ?_
  refine a_ixS 3 tK D_hka (show a.kids[0]? = some ka by rw [eka]; rfl) rfl rfl rfl rfl rfl rfl rfl rfl rfl rfl (by kernel_rfl) i4 hS ?_
  intro ebz0 eoz0 euz0 hyz0 hatz0
  obtain ⟨kvz0, rfl, opz0, nmz0, n64z0, hkz0⟩ := tO hyz0
  replace hatz0 : At M w8 ebz0 eoz0 [.int .u8 ka.op, .string ka.name, .int .i64 ka.n, kvz0] := hatz0
  refine a_lds 4 tK (fun _ hs j v hv => (hatz0.Y hs).cell j v hv) rfl rfl rfl rfl rfl rfl rfl (by kernel_rfl) i3 hS ?_
  refine a_p 5 tK rfl rfl rfl rfl (by kernel_rfl) i3 hS ?_
  refine a_ld 6 tK (fun _ hs => (D_h5.Y hs).cell 3 _ rfl) rfl rfl rfl rfl rfl rfl (by kernel_rfl) i3 hS ?_
  refine a_ixS 7 tK D_hkb (show b.kids[0]? = some kb by rw [ekb]; rfl) rfl rfl rfl rfl rfl rfl rfl rfl rfl rfl (by kernel_rfl) i4 hS ?_
  intro ebz1 eoz1 euz1 hyz1 hatz1
  obtain ⟨kvz1, rfl, opz1, nmz1, n64z1, hkz1⟩ := tO hyz1
  replace hatz1 : At M w8 ebz1 eoz1 [.int .u8 kb.op, .string kb.name, .int .i64 kb.n, kvz1] := hatz1
  refine a_lds 8 tK (fun _ hs j v hv => (hatz1.Y hs).cell j v hv) rfl rfl rfl rfl rfl rfl rfl (by kernel_rfl) i3 hS ?_
  refine a_bar 9 rfl (by kernel_rfl) (by kernel_rfl) (oK fo104 rfl rfl rfl (rows_of less fd fl fod fol Hd Hl ka kb (fun x y h => IH x y (by omega)) M _ _ _ hka1 hkb1 hyz0 hyz1 Lw (by omega) (by omega)) ?_)
  rintro _ w9 ⟨rfl, ew9⟩
  replace hS := hS.then ew9
  replace hE := ew9.bl hE hB
  replace ha := Rep.Y ha ew9
  replace hka := hka.Y ew9
  replace hb := Rep.Y hb ew9
  replace hkb := hkb.Y ew9
  replace h3 := h3.Y ew9
  replace h4 := h4.Y ew9
  replace h5 := h5.Y ew9
  replace hyz0 := Rep.Y hyz0 ew9
  replace hkz0 := hkz0.Y ew9
  replace hatz0 := hatz0.Y ew9
  replace hyz1 := Rep.Y hyz1 ew9
  replace hkz1 := hkz1.Y ew9
  replace hatz1 := hatz1.Y ew9
  replace Lw := Lw.Y ew9
  replace hB := ew9.z hB
  refine a_p 10 tK rfl rfl rfl rfl (by kernel_rfl) i3 hS ?_
  refine a_end (by kernel_rfl) ?_
  refine xS (cR (xB (xR (x1_ rfl rfl ?_))))
  rw [holdsF_eq less a b, hdy, dT ho, dT hn, dF o4, dT o5, eka, ekb]
  exact ⟨rfl, hE⟩
 refine cG (lP 2 tK rfl (q1 ?_))
 refine c_splitP 50 _ rfl (fun o6 => cI rfl ?_) (fun o6 => c_ifF rfl ?_)
 ·obtain ⟨ka, eka, hka1⟩ := rec_kids hra (by omega)
  obtain ⟨kb, ekb, hkb1⟩ := rec_kids hrb (by omega)
  have pa : psz ka < psz a := kid_psz (by rw [eka]; simp)
  have pb : psz kb < psz b := kid_psz (by rw [ekb]; simp)
  refine cS ?_
  refine a_beg Ext rfl ?_
  intro w10 ew10
  replace hE := ew10.bl hE hB
  replace ha := Rep.Y ha ew10
  replace hka := hka.Y ew10
  replace hb := Rep.Y hb ew10
  replace hkb := hkb.Y ew10
  replace h3 := h3.Y ew10
  replace h4 := h4.Y ew10
  replace h5 := h5.Y ew10
  replace Lw := Lw.Y ew10
  replace hB := ew10.z hB
  have hS : Ext w10 w10 := ext_refl _
  have D_hka := hka
  have D_hkb := hkb
  have D_h3 := h3
  have D_h4 := h4
  have D_h5 := h5
  refine a_lds 0 tK (fun _ hs j v hv => (D_h3.Y hs).cell j v hv) rfl rfl rfl rfl rfl rfl rfl (by kernel_rfl) i3 hS ?_
  refine a_p 1 tK rfl rfl rfl rfl (by kernel_rfl) i3 hS ?_
  refine a_ld 2 tK (fun _ hs => (D_h4.Y hs).cell 3 _ rfl) rfl rfl rfl rfl rfl rfl (by kernel_rfl) i3 hS ?_
  refine a_ixS 3 tK D_hka (show a.kids[0]? = some ka by rw [eka]; rfl) rfl rfl rfl rfl rfl rfl rfl rfl rfl rfl (by kernel_rfl) i4 hS ?_
  intro ebz0 eoz0 euz0 hyz0 hatz0
  obtain ⟨kvz0, rfl, opz0, nmz0, n64z0, hkz0⟩ := tO hyz0
  replace hatz0 : At M w10 ebz0 eoz0 [.int .u8 ka.op, .string ka.name, .int .i64 ka.n, kvz0] := hatz0
  refine a_lds 4 tK (fun _ hs j v hv => (hatz0.Y hs).cell j v hv) rfl rfl rfl rfl rfl rfl rfl (by kernel_rfl) i3 hS ?_
  refine a_p 5 tK rfl rfl rfl rfl (by kernel_rfl) i3 hS ?_
  refine a_ld 6 tK (fun _ hs => (D_h5.Y hs).cell 3 _ rfl) rfl rfl rfl rfl rfl rfl (by kernel_rfl) i3 hS ?_
  refine a_ixS 7 tK D_hkb (show b.kids[0]? = some kb by rw [ekb]; rfl) rfl rfl rfl rfl rfl rfl rfl rfl rfl rfl (by kernel_rfl) i4 hS ?_
  intro ebz1 eoz1 euz1 hyz1 hatz1
  obtain ⟨kvz1, rfl, opz1, nmz1, n64z1, hkz1⟩ := tO hyz1
  replace hatz1 : At M w10 ebz1 eoz1 [.int .u8 kb.op, .string kb.name, .int .i64 kb.n, kvz1] := hatz1
  refine a_lds 8 tK (fun _ hs j v hv => (hatz1.Y hs).cell j v hv) rfl rfl rfl rfl rfl rfl rfl (by kernel_rfl) i3 hS ?_
  refine a_bar 9 rfl (by kernel_rfl) (by kernel_rfl) (oK fo104 rfl rfl rfl (rows_of less fd fl fod fol Hd Hl ka kb (fun x y h => IH x y (by omega)) M _ _ _ hka1 hkb1 hyz0 hyz1 Lw (by omega) (by omega)) ?_)
  rintro _ w11 ⟨rfl, ew11⟩
  replace hS := hS.then ew11
  replace hE := ew11.bl hE hB
  replace ha := Rep.Y ha ew11
  replace hka := hka.Y ew11
  replace hb := Rep.Y hb ew11
  replace hkb := hkb.Y ew11
  replace h3 := h3.Y ew11
  replace h4 := h4.Y ew11
  replace h5 := h5.Y ew11
  replace hyz0 := Rep.Y hyz0 ew11
  replace hkz0 := hkz0.Y ew11
  replace hatz0 := hatz0.Y ew11
  replace hyz1 := Rep.Y hyz1 ew11
  replace hkz1 := hkz1.Y ew11
  replace hatz1 := hatz1.Y ew11
  replace Lw := Lw.Y ew11
  replace hB := ew11.z hB
  refine a_p 10 tK rfl rfl rfl rfl (by kernel_rfl) i3 hS ?_
  refine a_end (by kernel_rfl) ?_
  refine xS (cR (xB (xR (x1_ rfl rfl ?_))))
  rw [holdsF_eq less a b, hdy, dT ho, dT hn, dF o4, dF o5, dT o6, eka, ekb]
  exact ⟨rfl, hE⟩
 refine cK (x_blk (xS (q0 (lP 1 tK rfl (q1 (cR (x1_ rfl rfl ?_)))))))
 rw [holdsF_eq less a b, hdy, dT ho, dT hn, dF o4, dF o5, dF o6]
 exact ⟨rfl, hE⟩
theorem holds_spec (less : Bool) (fd fl : Nat) (fod : FnOk Try.prog fd) (fol : FnOk Try.prog fl) (Hd : ∀ (x y : Ty) (M : Nat → Prop) (w : World) (v u : Value), Rep.R M w v x → Rep.R M w u y → Low M w → Calls Try.prog fd #[v, u] w (Ret fun r w' => r = .bool (dynF less x y) ∧ Ext w w')) (Hl : ∀ (x y : Ty) (M : Nat → Prop) (w : World) (v u : Value), Rep.R M w v x → Rep.R M w u y → Low M w → Calls Try.prog fl #[v, u] w (Ret fun r w' => r = .bool (!less && decide (y.op = 9)) ∧ Ext w w')) : ∀ (n : Nat) (a b : Ty), psz a ≤ n → ∀ (M : Nat → Prop) (w : World) (v u : Value) (hra : rightB a = true) (hrb : rightB b = true) (ha : Rep.R M w v a) (hb : Rep.R M w u b) (Lw : Low M w) (hza : psz a ≤ 2000000) (hzb : psz b ≤ 2000000),
  Calls Try.prog 105 #[.agg #[.func (.func fd) #[] #[], .func (.func fl) #[] #[]], v, u] w (Ret fun r w' => r = .bool (holdsF less a b) ∧ Ext w w') := by
 intro n
 induction n with
 | zero => intro a b h; have := psz_pos a; omega
 | succ n ih =>
  intro a b h M w v u hra hrb ha hb Lw hza hzb
  exact holds_of less fd fl fod fol Hd Hl a b (fun x y hx hrx hry hzy M w v u hx2 hy2 hl => ih x y (by omega) M w v u hrx hry hx2 hy2 hl (by omega) hzy) M w v u hra hrb ha hb Lw hza hzb
theorem rows_spec (less : Bool) (fd fl : Nat) (fod : FnOk Try.prog fd) (fol : FnOk Try.prog fl) (Hd : ∀ (x y : Ty) (M : Nat → Prop) (w : World) (v u : Value), Rep.R M w v x → Rep.R M w u y → Low M w → Calls Try.prog fd #[v, u] w (Ret fun r w' => r = .bool (dynF less x y) ∧ Ext w w')) (Hl : ∀ (x y : Ty) (M : Nat → Prop) (w : World) (v u : Value), Rep.R M w v x → Rep.R M w u y → Low M w → Calls Try.prog fl #[v, u] w (Ret fun r w' => r = .bool (!less && decide (y.op = 9)) ∧ Ext w w')) (a b : Ty) (M : Nat → Prop) (w : World) (v u : Value) (hra : rowB a = true) (hrb : rowB b = true) (ha : Rep.R M w v a) (hb : Rep.R M w u b) (Lw : Low M w) (hza : psz a ≤ 2000000) (hzb : psz b ≤ 2000000) :
  Calls Try.prog 104 #[.agg #[.func (.func fd) #[] #[], .func (.func fl) #[] #[]], v, u] w (Ret fun r w' => r = .bool (rowsF less a b) ∧ Ext w w') :=
 rows_of less fd fl fod fol Hd Hl a b (fun x y hx hrx hry hzy M w v u hx2 hy2 hl => holds_spec less fd fl fod fol Hd Hl _ x y (lR _) M w v u hrx hry hx2 hy2 hl (by omega) hzy) M w v u hra hrb ha hb Lw hza hzb
theorem asked_spec (less : Bool) (fd fl : Nat) (fod : FnOk Try.prog fd) (fol : FnOk Try.prog fl) (Hd : ∀ (x y : Ty) (M : Nat → Prop) (w : World) (v u : Value), Rep.R M w v x → Rep.R M w u y → Low M w → Calls Try.prog fd #[v, u] w (Ret fun r w' => r = .bool (dynF less x y) ∧ Ext w w')) (Hl : ∀ (x y : Ty) (M : Nat → Prop) (w : World) (v u : Value), Rep.R M w v x → Rep.R M w u y → Low M w → Calls Try.prog fl #[v, u] w (Ret fun r w' => r = .bool (!less && decide (y.op = 9)) ∧ Ext w w')) (a b : Ty) (M : Nat → Prop) (w : World) (v u : Value) (ha : Rep.R M w v a) (hb : Rep.R M w u b) (Lw : Low M w) (hza : psz a ≤ 2000000) (hzb : psz b ≤ 2000000) :
  Calls Try.prog 75 #[.agg #[.func (.func fd) #[] #[], .func (.func fl) #[] #[]], v, u] w (Ret fun r w' => r = .bool (askedF less a b) ∧ Ext w w') := by
 have hE := Below.refl w.heap.size w
 have hB := lR w.heap.size
 obtain ⟨kva, rfl, opa, nma, n64a, hka⟩ := tO ha
 obtain ⟨kvb, rfl, opb, nmb, n64b, hkb⟩ := tO hb
 refine cN (n := 29) Try.func75 rfl rfl rfl ?_
 refine q0 ?_
 refine lC (o_box rfl rfl rfl ?_)
 intro b3 w1 hb_b3 ew1 h3
 replace h3 := h3.at (nO Lw hb_b3)
 replace hE := ew1.bl hE hB
 replace ha := Rep.Y ha ew1
 replace hka := hka.Y ew1
 replace hb := Rep.Y hb ew1
 replace hkb := hkb.Y ew1
 replace Lw := Lw.Y ew1
 replace hB := ew1.z hB
 replace h3 : At _ _ b3 0 [.func (.func fd) #[] #[], .func (.func fl) #[] #[]] := h3
 refine lC (o_box rfl rfl rfl ?_)
 intro b4 w2 hb_b4 ew2 h4
 replace h4 : Box _ b4 25 [.int .u8 a.op, .string a.name, .int .i64 a.n, kva] := h4
 replace h4 := h4.at (nO Lw hb_b4)
 replace hE := ew2.bl hE hB
 replace ha := Rep.Y ha ew2
 replace hka := hka.Y ew2
 replace hb := Rep.Y hb ew2
 replace hkb := hkb.Y ew2
 replace h3 := h3.Y ew2
 replace Lw := Lw.Y ew2
 replace hB := ew2.z hB
 refine lC (o_box rfl rfl rfl ?_)
 intro b5 w3 hb_b5 ew3 h5
 replace h5 : Box _ b5 25 [.int .u8 b.op, .string b.name, .int .i64 b.n, kvb] := h5
 replace h5 := h5.at (nO Lw hb_b5)
 replace hE := ew3.bl hE hB
 replace ha := Rep.Y ha ew3
 replace hka := hka.Y ew3
 replace hb := Rep.Y hb ew3
 replace hkb := hkb.Y ew3
 replace h3 := h3.Y ew3
 replace h4 := h4.Y ew3
 replace Lw := Lw.Y ew3
 replace hB := ew3.z hB
 refine lP 1 tK rfl (q1 (cS (q0 ?_)))
 refine lC (oL tK (fun j v hv => h4.cell j v hv) rfl rfl rfl rfl rfl rfl ?_)
 refine lC (oK fo18 rfl rfl rfl (kRow_specB a M _ _ ha Lw) ?_)
 rintro _ w4 ⟨rfl, ew4⟩
 replace hE := ew4.bl hE hB
 replace ha := Rep.Y ha ew4
 replace hka := hka.Y ew4
 replace hb := Rep.Y hb ew4
 replace hkb := hkb.Y ew4
 replace h3 := h3.Y ew4
 replace h4 := h4.Y ew4
 replace h5 := h5.Y ew4
 replace Lw := Lw.Y ew4
 replace hB := ew4.z hB
 refine lP 1 tK rfl ?_
 refine l_split 9 _ rfl (fun hra => ?_) (fun hra => ?_)
 ·refine lC (oL tK (fun j v hv => h5.cell j v hv) rfl rfl rfl rfl rfl rfl ?_)
  refine lC (oK fo18 rfl rfl rfl (kRow_specB b M _ _ hb Lw) ?_)
  rintro _ w5 ⟨rfl, ew5⟩
  replace hE := ew5.bl hE hB
  replace ha := Rep.Y ha ew5
  replace hka := hka.Y ew5
  replace hb := Rep.Y hb ew5
  replace hkb := hkb.Y ew5
  replace h3 := h3.Y ew5
  replace h4 := h4.Y ew5
  replace h5 := h5.Y ew5
  replace Lw := Lw.Y ew5
  replace hB := ew5.z hB
  refine lP 1 tK rfl (q1 ?_)
  refine c_if _ rfl (fun hrb => ?_) (fun hrb => ?_)
  ·refine q0 ?_
   refine lC (oL tK (fun j v hv => h3.cell j v hv) rfl rfl rfl rfl rfl rfl ?_)
   refine lC (oL tK (fun j v hv => h4.cell j v hv) rfl rfl rfl rfl rfl rfl ?_)
   refine lC (oL tK (fun j v hv => h5.cell j v hv) rfl rfl rfl rfl rfl rfl ?_)
   refine lC (oK fo104 rfl rfl rfl (rows_spec less fd fl fod fol Hd Hl a b M _ _ _ hra hrb ha hb Lw hza hzb) ?_)
   rintro _ w6 ⟨rfl, ew6⟩
   replace hE := ew6.bl hE hB
   replace ha := Rep.Y ha ew6
   replace hka := hka.Y ew6
   replace hb := Rep.Y hb ew6
   replace hkb := hkb.Y ew6
   replace h3 := h3.Y ew6
   replace h4 := h4.Y ew6
   replace h5 := h5.Y ew6
   replace Lw := Lw.Y ew6
   replace hB := ew6.z hB
   refine lP 1 tK rfl (q1 (cR (xR (x1_ rfl rfl ?_))))
   exact ⟨by simp [askedF, *], hE⟩
  refine cK (xS (q0 ?_))
  refine lC (oL tK (fun j v hv => h4.cell j v hv) rfl rfl rfl rfl rfl rfl ?_)
  refine lC (oK fo16 rfl rfl rfl (kRight_specB a M _ _ ha Lw) ?_)
  rintro _ w7 ⟨rfl, ew7⟩
  replace hE := ew7.bl hE hB
  replace ha := Rep.Y ha ew7
  replace hka := hka.Y ew7
  replace hb := Rep.Y hb ew7
  replace hkb := hkb.Y ew7
  replace h3 := h3.Y ew7
  replace h4 := h4.Y ew7
  replace h5 := h5.Y ew7
  replace Lw := Lw.Y ew7
  replace hB := ew7.z hB
  refine lP 1 tK rfl ?_
  refine l_split 19 _ rfl (fun hrr => ?_) (fun hrr => ?_)
  ·refine lC (oL tK (fun j v hv => h5.cell j v hv) rfl rfl rfl rfl rfl rfl ?_)
   refine lC (oK fo16 rfl rfl rfl (kRight_specB b M _ _ hb Lw) ?_)
   rintro _ w8 ⟨rfl, ew8⟩
   replace hE := ew8.bl hE hB
   replace ha := Rep.Y ha ew8
   replace hka := hka.Y ew8
   replace hb := Rep.Y hb ew8
   replace hkb := hkb.Y ew8
   replace h3 := h3.Y ew8
   replace h4 := h4.Y ew8
   replace h5 := h5.Y ew8
   replace Lw := Lw.Y ew8
   replace hB := ew8.z hB
   refine lP 2 tK rfl ?_
   refine l_split 23 _ rfl (fun hrr2 => ?_) (fun hrr2 => ?_)
   ·refine lC (oL tK (fun j v hv => h3.cell j v hv) rfl rfl rfl rfl rfl rfl ?_)
    refine lC (oL tK (fun j v hv => h4.cell j v hv) rfl rfl rfl rfl rfl rfl ?_)
    refine lC (oL tK (fun j v hv => h5.cell j v hv) rfl rfl rfl rfl rfl rfl ?_)
    refine lC (oK fo105 rfl rfl rfl (holds_spec less fd fl fod fol Hd Hl _ a b (lR _) M _ _ _ hrr hrr2 ha hb Lw hza hzb) ?_)
    rintro _ w9 ⟨rfl, ew9⟩
    replace hE := ew9.bl hE hB
    replace ha := Rep.Y ha ew9
    replace hka := hka.Y ew9
    replace hb := Rep.Y hb ew9
    replace hkb := hkb.Y ew9
    replace h3 := h3.Y ew9
    replace h4 := h4.Y ew9
    replace h5 := h5.Y ew9
    replace Lw := Lw.Y ew9
    replace hB := ew9.z hB
    refine lP 2 tK rfl (q1 (cR (x1_ rfl rfl ?_)))
    exact ⟨by simp [askedF, *], hE⟩
   refine lP 6 tK rfl (q1 (cR (x1_ rfl rfl ?_)))
   exact ⟨by simp [askedF, *], hE⟩
  refine lP 10 tK rfl (q1 (cR (x1_ rfl rfl ?_)))
  exact ⟨by simp [askedF, *], hE⟩
 refine lP 3 tK rfl (q1 (c_ifF rfl (cK (xS (q0 ?_)))))
 refine lC (oL tK (fun j v hv => h4.cell j v hv) rfl rfl rfl rfl rfl rfl ?_)
 refine lC (oK fo16 rfl rfl rfl (kRight_specB a M _ _ ha Lw) ?_)
 rintro _ w10 ⟨rfl, ew10⟩
 replace hE := ew10.bl hE hB
 replace ha := Rep.Y ha ew10
 replace hka := hka.Y ew10
 replace hb := Rep.Y hb ew10
 replace hkb := hkb.Y ew10
 replace h3 := h3.Y ew10
 replace h4 := h4.Y ew10
 replace h5 := h5.Y ew10
 replace Lw := Lw.Y ew10
 replace hB := ew10.z hB
 refine lP 1 tK rfl ?_
 refine l_split 19 _ rfl (fun hrr => ?_) (fun hrr => ?_)
 ·refine lC (oL tK (fun j v hv => h5.cell j v hv) rfl rfl rfl rfl rfl rfl ?_)
  refine lC (oK fo16 rfl rfl rfl (kRight_specB b M _ _ hb Lw) ?_)
  rintro _ w11 ⟨rfl, ew11⟩
  replace hE := ew11.bl hE hB
  replace ha := Rep.Y ha ew11
  replace hka := hka.Y ew11
  replace hb := Rep.Y hb ew11
  replace hkb := hkb.Y ew11
  replace h3 := h3.Y ew11
  replace h4 := h4.Y ew11
  replace h5 := h5.Y ew11
  replace Lw := Lw.Y ew11
  replace hB := ew11.z hB
  refine lP 2 tK rfl ?_
  refine l_split 23 _ rfl (fun hrr2 => ?_) (fun hrr2 => ?_)
  ·refine lC (oL tK (fun j v hv => h3.cell j v hv) rfl rfl rfl rfl rfl rfl ?_)
   refine lC (oL tK (fun j v hv => h4.cell j v hv) rfl rfl rfl rfl rfl rfl ?_)
   refine lC (oL tK (fun j v hv => h5.cell j v hv) rfl rfl rfl rfl rfl rfl ?_)
   refine lC (oK fo105 rfl rfl rfl (holds_spec less fd fl fod fol Hd Hl _ a b (lR _) M _ _ _ hrr hrr2 ha hb Lw hza hzb) ?_)
   rintro _ w12 ⟨rfl, ew12⟩
   replace hE := ew12.bl hE hB
   replace ha := Rep.Y ha ew12
   replace hka := hka.Y ew12
   replace hb := Rep.Y hb ew12
   replace hkb := hkb.Y ew12
   replace h3 := h3.Y ew12
   replace h4 := h4.Y ew12
   replace h5 := h5.Y ew12
   replace Lw := Lw.Y ew12
   replace hB := ew12.z hB
   refine lP 2 tK rfl (q1 (cR (x1_ rfl rfl ?_)))
   exact ⟨by simp [askedF, *], hE⟩
  refine lP 6 tK rfl (q1 (cR (x1_ rfl rfl ?_)))
  exact ⟨by simp [askedF, *], hE⟩
 refine lP 10 tK rfl (q1 (cR (x1_ rfl rfl ?_)))
 exact ⟨by simp [askedF, *], hE⟩
theorem consistent_rel (M : Nat → Prop) (w : World) (hlow0 : Low M w) :
  Calls Try.prog 74 #[] w (Ret fun r w' => r = .agg #[.func (.func 102) #[] #[], .func (.func 103) #[] #[]] ∧ Ext w w') := by
 have Lw := hlow0
 have hB := lR w.heap.size
 have hE := Below.refl w.heap.size w
 have hsub : ∀ b, M b → M b := fun _ h => h
 refine cN (n := 2) Try.func74 rfl rfl rfl ?_
 refine q0 ?_
 refine lC (o_new tK rfl rfl rfl ?_)
 intro b0 w1 qb0 ew1 hb0
 have sw1 := Stp.add ew1 Lw hB (lQ qb0.symm) hb0.lt
 have h0 : MB w.heap.size (Rw.Add M b0) w1 b0 79 [.nilFunc, .nilFunc] := MB.mk' hb0 qb0 hB
 replace hE := hE.trans sw1.below
 replace hsub := sw1.sb hsub
 replace Lw := sw1.low
 replace hB := sw1.z hB
 refine q1 (q0 ?_)
 refine lC (o_build (cells := [.func (.func 102) #[] #[], .func (.func 103) #[] #[]]) bd79 rfl rfl rfl rfl rfl ?_)
 refine lC (o_st tK h0.box rfl rfl rfl rfl (by intro u hu; simp [Value.cells] at hu; rcases hu with rfl | rfl <;> rfl) rfl rfl ?_)
 intro w2 hw2 qw2 bew2
 have uw2 : UpdB _ _ _ := ⟨qw2, bew2⟩
 have sw2 := uw2.sp h0.inM Lw h0.ge
 have frw2 := qw2.2
 replace hE := hE.trans sw2.below
 replace hsub := sw2.sb hsub
 replace Lw := sw2.low
 replace hB := sw2.z hB
 replace h0 : MB w.heap.size _ w2 b0 _ [.func (.func 102) #[] #[], .func (.func 103) #[] #[]] := ⟨hw2, h0.inM, h0.ge⟩
 refine q1 (cR ?_)
 refine x_ret1s tK (fun j v hv => h0.cell j v hv) rfl rfl rfl rfl rfl ?_
 exact ⟨rfl, hE⟩
theorem consistent_spec (a b : Ty) (M : Nat → Prop) (w : World) (v u : Value) (ha : Rep.R M w v a) (hb : Rep.R M w u b) (Lw : Low M w) (hza : psz a ≤ 2000000) (hzb : psz b ≤ 2000000) :
  Calls Try.prog 40 #[v, u] w (Ret fun r w' => r = .bool (askedF false a b) ∧ Ext w w') := by
 have hE := Below.refl w.heap.size w
 have hB := lR w.heap.size
 obtain ⟨kva, rfl, opa, nma, n64a, hka⟩ := tO ha
 obtain ⟨kvb, rfl, opb, nmb, n64b, hkb⟩ := tO hb
 refine cN (n := 9) Try.func40 rfl rfl rfl ?_
 refine q0 ?_
 refine lC (o_box rfl rfl rfl ?_)
 intro b2 w1 hb_b2 ew1 h2
 replace h2 : Box _ b2 25 [.int .u8 a.op, .string a.name, .int .i64 a.n, kva] := h2
 replace h2 := h2.at (nO Lw hb_b2)
 replace hE := ew1.bl hE hB
 replace ha := Rep.Y ha ew1
 replace hka := hka.Y ew1
 replace hb := Rep.Y hb ew1
 replace hkb := hkb.Y ew1
 replace Lw := Lw.Y ew1
 replace hB := ew1.z hB
 refine lC (o_box rfl rfl rfl ?_)
 intro b3 w2 hb_b3 ew2 h3
 replace h3 : Box _ b3 25 [.int .u8 b.op, .string b.name, .int .i64 b.n, kvb] := h3
 replace h3 := h3.at (nO Lw hb_b3)
 replace hE := ew2.bl hE hB
 replace ha := Rep.Y ha ew2
 replace hka := hka.Y ew2
 replace hb := Rep.Y hb ew2
 replace hkb := hkb.Y ew2
 replace h2 := h2.Y ew2
 replace Lw := Lw.Y ew2
 replace hB := ew2.z hB
 refine lP 1 tK rfl (q1 (cS ?_))
 refine a_beg Ext rfl ?_
 intro w3 ew3
 replace hE := ew3.bl hE hB
 replace ha := Rep.Y ha ew3
 replace hka := hka.Y ew3
 replace hb := Rep.Y hb ew3
 replace hkb := hkb.Y ew3
 replace h2 := h2.Y ew3
 replace h3 := h3.Y ew3
 replace Lw := Lw.Y ew3
 replace hB := ew3.z hB
 have hS : Ext w3 w3 := ext_refl _
 have D_hka := hka
 have D_hkb := hkb
 have D_h2 := h2
 have D_h3 := h3
 refine a_lds 1 tK (fun _ hs j v hv => (D_h2.Y hs).cell j v hv) rfl rfl rfl rfl rfl rfl rfl (by kernel_rfl) i3 hS ?_
 refine a_lds 2 tK (fun _ hs j v hv => (D_h3.Y hs).cell j v hv) rfl rfl rfl rfl rfl rfl rfl (by kernel_rfl) i3 hS ?_
 refine a_one 0 rfl (by kernel_rfl) (oK fo74 rfl rfl rfl (consistent_rel M _ Lw) ?_)
 rintro _ w4 ⟨rfl, ew4⟩
 replace hS := hS.then ew4
 replace hE := ew4.bl hE hB
 replace ha := Rep.Y ha ew4
 replace hka := hka.Y ew4
 replace hb := Rep.Y hb ew4
 replace hkb := hkb.Y ew4
 replace h2 := h2.Y ew4
 replace h3 := h3.Y ew4
 replace Lw := Lw.Y ew4
 replace hB := ew4.z hB
 refine ⟨hS, ?_⟩
 refine a_bar 3 rfl (by kernel_rfl) (by kernel_rfl) (oK fo75 rfl rfl rfl (asked_spec false 102 103 fo102 fo103 eitherP_spec cons1_spec a b M _ _ _ ha hb Lw hza hzb) ?_)
 rintro _ w5 ⟨rfl, ew5⟩
 replace hS := hS.then ew5
 replace hE := ew5.bl hE hB
 replace ha := Rep.Y ha ew5
 replace hka := hka.Y ew5
 replace hb := Rep.Y hb ew5
 replace hkb := hkb.Y ew5
 replace h2 := h2.Y ew5
 replace h3 := h3.Y ew5
 replace Lw := Lw.Y ew5
 replace hB := ew5.z hB
 refine a_p 4 tK rfl rfl rfl rfl (by kernel_rfl) i3 hS ?_
 refine a_end (by kernel_rfl) ?_
 refine xS (cR (x1_ rfl rfl ?_))
 exact ⟨rfl, hE⟩
theorem lessP_rel (M : Nat → Prop) (w : World) (hlow0 : Low M w) :
  Calls Try.prog 78 #[] w (Ret fun r w' => r = .agg #[.func (.func 108) #[] #[], .func (.func 109) #[] #[]] ∧ Ext w w') := by
 have Lw := hlow0
 have hB := lR w.heap.size
 have hE := Below.refl w.heap.size w
 have hsub : ∀ b, M b → M b := fun _ h => h
 refine cN (n := 2) Try.func78 rfl rfl rfl ?_
 refine q0 ?_
 refine lC (o_new tK rfl rfl rfl ?_)
 intro b0 w1 qb0 ew1 hb0
 have sw1 := Stp.add ew1 Lw hB (lQ qb0.symm) hb0.lt
 have h0 : MB w.heap.size (Rw.Add M b0) w1 b0 79 [.nilFunc, .nilFunc] := MB.mk' hb0 qb0 hB
 replace hE := hE.trans sw1.below
 replace hsub := sw1.sb hsub
 replace Lw := sw1.low
 replace hB := sw1.z hB
 refine q1 (q0 ?_)
 refine lC (o_build (cells := [.func (.func 108) #[] #[], .func (.func 109) #[] #[]]) bd79 rfl rfl rfl rfl rfl ?_)
 refine lC (o_st tK h0.box rfl rfl rfl rfl (by intro u hu; simp [Value.cells] at hu; rcases hu with rfl | rfl <;> rfl) rfl rfl ?_)
 intro w2 hw2 qw2 bew2
 have uw2 : UpdB _ _ _ := ⟨qw2, bew2⟩
 have sw2 := uw2.sp h0.inM Lw h0.ge
 have frw2 := qw2.2
 replace hE := hE.trans sw2.below
 replace hsub := sw2.sb hsub
 replace Lw := sw2.low
 replace hB := sw2.z hB
 replace h0 : MB w.heap.size _ w2 b0 _ [.func (.func 108) #[] #[], .func (.func 109) #[] #[]] := ⟨hw2, h0.inM, h0.ge⟩
 refine q1 (cR ?_)
 refine x_ret1s tK (fun j v hv => h0.cell j v hv) rfl rfl rfl rfl rfl ?_
 exact ⟨rfl, hE⟩
theorem lessP_spec (a b : Ty) (M : Nat → Prop) (w : World) (v u : Value) (ha : Rep.R M w v a) (hb : Rep.R M w u b) (Lw : Low M w) (hza : psz a ≤ 2000000) (hzb : psz b ≤ 2000000) :
  Calls Try.prog 42 #[v, u] w (Ret fun r w' => r = .bool (askedF true a b) ∧ Ext w w') := by
 have hE := Below.refl w.heap.size w
 have hB := lR w.heap.size
 obtain ⟨kva, rfl, opa, nma, n64a, hka⟩ := tO ha
 obtain ⟨kvb, rfl, opb, nmb, n64b, hkb⟩ := tO hb
 refine cN (n := 9) Try.func42 rfl rfl rfl ?_
 refine q0 ?_
 refine lC (o_box rfl rfl rfl ?_)
 intro b2 w1 hb_b2 ew1 h2
 replace h2 : Box _ b2 25 [.int .u8 a.op, .string a.name, .int .i64 a.n, kva] := h2
 replace h2 := h2.at (nO Lw hb_b2)
 replace hE := ew1.bl hE hB
 replace ha := Rep.Y ha ew1
 replace hka := hka.Y ew1
 replace hb := Rep.Y hb ew1
 replace hkb := hkb.Y ew1
 replace Lw := Lw.Y ew1
 replace hB := ew1.z hB
 refine lC (o_box rfl rfl rfl ?_)
 intro b3 w2 hb_b3 ew2 h3
 replace h3 : Box _ b3 25 [.int .u8 b.op, .string b.name, .int .i64 b.n, kvb] := h3
 replace h3 := h3.at (nO Lw hb_b3)
 replace hE := ew2.bl hE hB
 replace ha := Rep.Y ha ew2
 replace hka := hka.Y ew2
 replace hb := Rep.Y hb ew2
 replace hkb := hkb.Y ew2
 replace h2 := h2.Y ew2
 replace Lw := Lw.Y ew2
 replace hB := ew2.z hB
 refine lP 1 tK rfl (q1 (cS ?_))
 refine a_beg Ext rfl ?_
 intro w3 ew3
 replace hE := ew3.bl hE hB
 replace ha := Rep.Y ha ew3
 replace hka := hka.Y ew3
 replace hb := Rep.Y hb ew3
 replace hkb := hkb.Y ew3
 replace h2 := h2.Y ew3
 replace h3 := h3.Y ew3
 replace Lw := Lw.Y ew3
 replace hB := ew3.z hB
 have hS : Ext w3 w3 := ext_refl _
 have D_hka := hka
 have D_hkb := hkb
 have D_h2 := h2
 have D_h3 := h3
 refine a_lds 1 tK (fun _ hs j v hv => (D_h2.Y hs).cell j v hv) rfl rfl rfl rfl rfl rfl rfl (by kernel_rfl) i3 hS ?_
 refine a_lds 2 tK (fun _ hs j v hv => (D_h3.Y hs).cell j v hv) rfl rfl rfl rfl rfl rfl rfl (by kernel_rfl) i3 hS ?_
 refine a_one 0 rfl (by kernel_rfl) (oK fo78 rfl rfl rfl (lessP_rel M _ Lw) ?_)
 rintro _ w4 ⟨rfl, ew4⟩
 replace hS := hS.then ew4
 replace hE := ew4.bl hE hB
 replace ha := Rep.Y ha ew4
 replace hka := hka.Y ew4
 replace hb := Rep.Y hb ew4
 replace hkb := hkb.Y ew4
 replace h2 := h2.Y ew4
 replace h3 := h3.Y ew4
 replace Lw := Lw.Y ew4
 replace hB := ew4.z hB
 refine ⟨hS, ?_⟩
 refine a_bar 3 rfl (by kernel_rfl) (by kernel_rfl) (oK fo75 rfl rfl rfl (asked_spec true 108 109 fo108 fo109 second_spec less1_spec a b M _ _ _ ha hb Lw hza hzb) ?_)
 rintro _ w5 ⟨rfl, ew5⟩
 replace hS := hS.then ew5
 replace hE := ew5.bl hE hB
 replace ha := Rep.Y ha ew5
 replace hka := hka.Y ew5
 replace hb := Rep.Y hb ew5
 replace hkb := hkb.Y ew5
 replace h2 := h2.Y ew5
 replace h3 := h3.Y ew5
 replace Lw := Lw.Y ew5
 replace hB := ew5.z hB
 refine a_p 4 tK rfl rfl rfl rfl (by kernel_rfl) i3 hS ?_
 refine a_end (by kernel_rfl) ?_
 refine xS (cR (x1_ rfl rfl ?_))
 exact ⟨rfl, hE⟩
end Go.Proofs.Ytpoahmeacjggfaa
namespace Rw
def tyDyn : Ty := .mk 9 ⟨#[]⟩ 0 []
def tyQ : Ty := .mk 3 ⟨#[]⟩ 0 []
def exRA : Ty := .mk 11 ⟨#[97]⟩ 0 [tyB, .mk 11 ⟨#[98]⟩ 0 [tyA, tyNone]]
def exRB : Ty := .mk 11 ⟨#[97]⟩ 0 [tyQ, tyDyn]
def exA : Ty := .mk 5 ⟨#[]⟩ 0 [exRA]
def exB : Ty := .mk 5 ⟨#[]⟩ 0 [exRB]
def exC : Ty := .mk 5 ⟨#[]⟩ 0 [tyDyn]
theorem exA_psz : psz exA ≤ 2000000 := by simp [psz_eq, pszs_cons, pszs_nil, exA, exRA, tyB, tyA, tyNone, Ty.kids]
theorem exB_psz : psz exB ≤ 2000000 := by simp [psz_eq, pszs_cons, pszs_nil, exB, exRB, tyQ, tyDyn, Ty.kids]
theorem exC_psz : psz exC ≤ 2000000 := by simp [psz_eq, pszs_cons, pszs_nil, exC, tyDyn, Ty.kids]
theorem exA_right : rightB exA = true := by
  simp [rightB, onceB, partsL_eq, shapeF_eq, exA, exRA, tyB, tyA, tyNone, Ty.kids, Ty.op, Ty.name, Ty.n, kidsOf, headOk, all2]
  decide
theorem exB_right : rightB exB = true := by
  simp [rightB, onceB, partsL_eq, shapeF_eq, exB, exRB, tyQ, tyDyn, Ty.kids, Ty.op, Ty.name, Ty.n, kidsOf, headOk, all2]
  decide
theorem exC_right : rightB exC = true := by
  simp [rightB, onceB, partsL_eq, shapeF_eq, exC, tyDyn, Ty.kids, Ty.op, Ty.name, Ty.n, kidsOf, headOk, all2]
theorem ex_row {t k : Ty} (h : rightB t = true) (ho : t.op = 5) (hk : t.kids = [k]) : rowB k = true := by
  obtain ⟨k2, e, h2⟩ := rec_kids h (.inl ho)
  rw [hk] at e
  cases e
  exact h2
theorem exRA_flat : flatF exRA = ([⟨⟨#[97]⟩, tyB⟩, ⟨⟨#[98]⟩, tyA⟩], tyNone) := by
  rw [flat_yes (ex_row exA_right rfl rfl), spine_yes (k := tyB) (r := .mk 11 ⟨#[98]⟩ 0 [tyA, tyNone]) rfl rfl, spine_yes (k := tyA) (r := tyNone) rfl rfl, spine_no (by decide)]
  rfl
theorem exRB_flat : flatF exRB = ([⟨⟨#[97]⟩, tyQ⟩], tyDyn) := by
  rw [flat_yes (ex_row exB_right rfl rfl), spine_yes (k := tyQ) (r := tyDyn) rfl rfl, spine_no (by decide)]
  rfl
theorem exRC_flat : flatF tyDyn = ([], tyDyn) := by
  rw [flat_yes (ex_row exC_right rfl rfl), spine_no (by decide)]
  rfl
theorem ex_asked {less : Bool} {a b k r : Ty} (ha : rightB a = true) (hb : rightB b = true) (oa : a.op = 5) (ob : b.op = 5) (na : a.kids = [k]) (nb : b.kids = [r]) : askedF less a b = rowsF less k r := by
  have e1 : dynF less a b = false := by unfold dynF; rw [oa, ob]; cases less <;> rfl
  have e2 : a.n = b.n := by rw [right_n ha (by omega), right_n hb (by omega)]
  rw [askedF, right_row ha, ha, hb]
  show holdsF less a b = _
  rw [holdsF_eq, e1, dT (show a.op = b.op by omega), dT e2, dF (show ¬ a.op = 4 by omega), dT oa, na, nb]
  rfl
theorem exAB : askedF true exA exB = true := by
  rw [ex_asked exA_right exB_right rfl rfl rfl rfl, rowsF, rowsN, exRA_flat, exRB_flat]
  have h : holdsF true tyB tyQ = true := by rw [holdsF_eq]; rfl
  show ((holdsF true tyB tyQ && true) && _) = true
  rw [h]; rfl
theorem exBA : askedF true exB exA = false := by
  rw [ex_asked exB_right exA_right rfl rfl rfl rfl, rowsF, rowsN, exRA_flat, exRB_flat]
  have h : holdsF true tyQ tyB = false := by rw [holdsF_eq]; rfl
  show ((holdsF true tyQ tyB && true) && _) = false
  rw [h]; rfl
theorem exCA : askedF false exC exA = true := by
  rw [ex_asked exC_right exA_right rfl rfl rfl rfl, rowsF, rowsN, exRA_flat, exRC_flat]
  rfl
end Rw
namespace Go.Proofs.Ytpoahmeacjggfaa
open Go Rw Go.RowKit
set_option maxRecDepth 100000
theorem alive08_spec (M : Nat → Prop) (w : World) (hlow0 : Low M w) :
  Calls Try.prog 38 #[] w (Ret fun r w' => r = .bool true ∧ Ext w w') := by
 have Lw := hlow0
 have hB := lR w.heap.size
 have hE := Below.refl w.heap.size w
 have hsub : ∀ b, M b → M b := fun _ h => h
 refine cN (n := 37) Try.func38 rfl rfl rfl ?_
 refine q0 (lP 1 tK rfl (q1 (q0 ?_)))
 refine lC (o_build (cells := [.int .u8 8, .string ⟨#[]⟩, .int .i64 0, .slice none 0 0]) bd25 rfl rfl rfl rfl rfl ?_)
 have hn0 : Rep.R M w (.agg #[.int .u8 8, .string ⟨#[]⟩, .int .i64 0, .slice none 0 0]) tyNone := ty_mk (by decide) (by decide) ⟨by decide, by decide⟩ sl_nil
 refine lC (o_build (cells := [.int .u8 9, .string ⟨#[]⟩, .int .i64 0, .slice none 0 0]) bd25 rfl rfl rfl rfl rfl ?_)
 have hn1 : Rep.R M w (.agg #[.int .u8 9, .string ⟨#[]⟩, .int .i64 0, .slice none 0 0]) tyDyn := ty_mk (by decide) (by decide) ⟨by decide, by decide⟩ sl_nil
 refine lC (o_new tK rfl rfl rfl ?_)
 intro b1 w1 qb1 ew1 hb1
 have sw1 := Stp.add ew1 Lw hB (lQ qb1.symm) hb1.lt
 have h1 : MB w.heap.size (Rw.Add M b1) w1 b1 25 [.int .u8 0, .string ⟨#[]⟩, .int .i64 0, .slice none 0 0] := MB.mk' hb1 qb1 hB
 replace hE := hE.trans sw1.below
 replace hn0 := Rep.sp hn0 sw1
 replace hn1 := Rep.sp hn1 sw1
 replace hsub := sw1.sb hsub
 replace Lw := sw1.low
 replace hB := sw1.z hB
 refine lC (o_new tK rfl rfl rfl ?_)
 intro b2 w2 qb2 ew2 hb2
 have ne_h1_h2 : b1 ≠ b2 := by have := h1.lt; omega
 have sw2 := Stp.add ew2 Lw hB (lQ qb2.symm) hb2.lt
 have h2 : MB w.heap.size (Rw.Add (Rw.Add M b1) b2) w2 b2 25 [.int .u8 0, .string ⟨#[]⟩, .int .i64 0, .slice none 0 0] := MB.mk' hb2 qb2 hB
 replace h1 := h1.sp sw2 (ew2.block b1 h1.lt)
 replace hE := hE.trans sw2.below
 replace hn0 := Rep.sp hn0 sw2
 replace hn1 := Rep.sp hn1 sw2
 replace hsub := sw2.sb hsub
 replace Lw := sw2.low
 replace hB := sw2.z hB
 refine lC (o_st tK h1.box rfl rfl rfl rfl (Rep.one hn0) rfl rfl ?_)
 intro w3 hw3 qw3 bew3
 have uw3 : UpdB _ _ _ := ⟨qw3, bew3⟩
 have sw3 := uw3.sp h1.inM Lw h1.ge
 have frw3 := qw3.2
 replace h2 := h2.sp sw3 (frw3 b2 h2.lt ne_h1_h2.symm)
 replace hE := hE.trans sw3.below
 replace hn0 := Rep.sp hn0 sw3
 replace hn1 := Rep.sp hn1 sw3
 replace hsub := sw3.sb hsub
 replace Lw := sw3.low
 replace hB := sw3.z hB
 replace h1 : MB w.heap.size _ w3 b1 _ [.int .u8 8, .string ⟨#[]⟩, .int .i64 0, .slice none 0 0] := ⟨hw3, h1.inM, h1.ge⟩
 refine lC (o_st tK h2.box rfl rfl rfl rfl (Rep.one hn1) rfl rfl ?_)
 intro w4 hw4 qw4 bew4
 have uw4 : UpdB _ _ _ := ⟨qw4, bew4⟩
 have sw4 := uw4.sp h2.inM Lw h2.ge
 have frw4 := qw4.2
 replace h1 := h1.sp sw4 (frw4 b1 h1.lt ne_h1_h2)
 replace hE := hE.trans sw4.below
 replace hn0 := Rep.sp hn0 sw4
 replace hn1 := Rep.sp hn1 sw4
 replace hsub := sw4.sb hsub
 replace Lw := sw4.low
 replace hB := sw4.z hB
 replace h2 : MB w.heap.size _ w4 b2 _ [.int .u8 9, .string ⟨#[]⟩, .int .i64 0, .slice none 0 0] := ⟨hw4, h2.inM, h2.ge⟩
 refine q1 (q0 ?_)
 refine lC (o_build (cells := [.int .u8 1, .string ⟨#[]⟩, .int .i64 0, .slice none 0 0]) bd25 rfl rfl rfl rfl rfl ?_)
 have hn2 : Rep.R (Rw.Add (Rw.Add M b1) b2) w4 (.agg #[.int .u8 1, .string ⟨#[]⟩, .int .i64 0, .slice none 0 0]) tyB := ty_mk (by decide) (by decide) ⟨by decide, by decide⟩ sl_nil
 refine lC (o_build (cells := [.int .u8 2, .string ⟨#[]⟩, .int .i64 0, .slice none 0 0]) bd25 rfl rfl rfl rfl rfl ?_)
 have hn3 : Rep.R (Rw.Add (Rw.Add M b1) b2) w4 (.agg #[.int .u8 2, .string ⟨#[]⟩, .int .i64 0, .slice none 0 0]) tyA := ty_mk (by decide) (by decide) ⟨by decide, by decide⟩ sl_nil
 refine lC (oL tK (fun j v hv => h1.cell j v hv) rfl rfl rfl rfl rfl rfl ?_)
 refine lC (oK fo63 rfl rfl rfl (field_spec ⟨#[98]⟩ tyA tyNone _ _ _ _ (by decide) hn3 hn0 Lw) ?_)
 rintro vhf0 w5 ⟨hf0, ew5⟩
 replace hf0 : Rep.R _ w5 vhf0 (Ty.mk 11 ⟨#[98]⟩ 0 [tyA, tyNone]) := hf0
 replace h1 := h1.Y Lw hB ew5
 replace h2 := h2.Y Lw hB ew5
 replace hE := ew5.bl hE hB
 replace hn0 := Rep.Y hn0 ew5
 replace hn1 := Rep.Y hn1 ew5
 replace hn2 := Rep.Y hn2 ew5
 replace hn3 := Rep.Y hn3 ew5
 replace Lw := Lw.Y ew5
 replace hB := ew5.z hB
 refine lC (oK fo63 rfl rfl rfl (field_spec ⟨#[97]⟩ tyB (Ty.mk 11 ⟨#[98]⟩ 0 [tyA, tyNone]) _ _ _ _ (by decide) hn2 hf0 Lw) ?_)
 rintro vhf1 w6 ⟨hf1, ew6⟩
 replace hf1 : Rep.R _ w6 vhf1 (Ty.mk 11 ⟨#[97]⟩ 0 [tyB, .mk 11 ⟨#[98]⟩ 0 [tyA, tyNone]]) := hf1
 replace h1 := h1.Y Lw hB ew6
 replace h2 := h2.Y Lw hB ew6
 replace hE := ew6.bl hE hB
 replace hn0 := Rep.Y hn0 ew6
 replace hn1 := Rep.Y hn1 ew6
 replace hn2 := Rep.Y hn2 ew6
 replace hn3 := Rep.Y hn3 ew6
 replace hf0 := Rep.Y hf0 ew6
 replace Lw := Lw.Y ew6
 replace hB := ew6.z hB
 refine lC (o_bs tK rfl rfl rfl rfl rfl rfl rfl (sz1 (Rep.size hf1)) rfl rfl rfl ?_)
 intro bl0 w7 qbl0 ew7 hbl0
 have nbl0 := nO Lw qbl0
 replace h1 := h1.Y Lw hB ew7
 replace h2 := h2.Y Lw hB ew7
 replace hE := ew7.bl hE hB
 replace hn0 := Rep.Y hn0 ew7
 replace hn1 := Rep.Y hn1 ew7
 replace hn2 := Rep.Y hn2 ew7
 replace hn3 := Rep.Y hn3 ew7
 replace hf0 := Rep.Y hf0 ew7
 replace hf1 := Rep.Y hf1 ew7
 replace Lw := Lw.Y ew7
 replace hB := ew7.z hB
 have hslbl0 : Sl (Rw.Add (Rw.Add M b1) b2) w7 (.slice (some ⟨bl0, 0, none⟩) 1 1) [(Ty.mk 11 ⟨#[97]⟩ 0 [tyB, .mk 11 ⟨#[98]⟩ 0 [tyA, tyNone]])] := lit_sl hbl0 nbl0 (show Rs _ _ [_] [(Ty.mk 11 ⟨#[97]⟩ 0 [tyB, .mk 11 ⟨#[98]⟩ 0 [tyA, tyNone]])] from ⟨hf1, trivial⟩) (by decide)
 refine lC (o_build (cells := [.int .u8 5, .string ⟨#[]⟩, .int .i64 0, .slice (some ⟨bl0, 0, none⟩) 1 1]) (css := [[.int .u8 5], [.slice (some ⟨bl0, 0, none⟩) 1 1]]) bd25 rfl rfl rfl rfl rfl ?_)
 have hn4 : Rep.R (Rw.Add (Rw.Add M b1) b2) w7 (.agg #[.int .u8 5, .string ⟨#[]⟩, .int .i64 0, .slice (some ⟨bl0, 0, none⟩) 1 1]) exA := ty_mk (by decide) (by decide) ⟨by decide, by decide⟩ hslbl0
 refine lC (o_new tK rfl rfl rfl ?_)
 intro b3 w8 qb3 ew8 hb3
 have nb3 := nO Lw qb3
 refine lC (o_st tK hb3 rfl rfl rfl rfl (Rep.one hn4) rfl rfl ?_)
 intro w9 h3 uw9 bew9
 have ew9 : Ext w7 w9 := ew8.trans (bew9 _ (lQ qb3.symm))
 replace h1 := h1.Y Lw hB ew9
 replace h2 := h2.Y Lw hB ew9
 replace hE := ew9.bl hE hB
 replace hn0 := Rep.Y hn0 ew9
 replace hn1 := Rep.Y hn1 ew9
 replace hn2 := Rep.Y hn2 ew9
 replace hn3 := Rep.Y hn3 ew9
 replace hf0 := Rep.Y hf0 ew9
 replace hf1 := Rep.Y hf1 ew9
 replace hslbl0 := hslbl0.Y ew9
 replace hn4 := Rep.Y hn4 ew9
 replace Lw := Lw.Y ew9
 replace hB := ew9.z hB
 replace h3 : Box w9 b3 25 [.int .u8 5, .string ⟨#[]⟩, .int .i64 0, .slice (some ⟨bl0, 0, none⟩) 1 1] := h3
 replace h3 := h3.at nb3
 refine q1 (q0 ?_)
 refine lC (o_build (cells := [.int .u8 3, .string ⟨#[]⟩, .int .i64 0, .slice none 0 0]) bd25 rfl rfl rfl rfl rfl ?_)
 have hn5 : Rep.R (Rw.Add (Rw.Add M b1) b2) w9 (.agg #[.int .u8 3, .string ⟨#[]⟩, .int .i64 0, .slice none 0 0]) tyQ := ty_mk (by decide) (by decide) ⟨by decide, by decide⟩ sl_nil
 refine lC (oL tK (fun j v hv => h2.cell j v hv) rfl rfl rfl rfl rfl rfl ?_)
 refine lC (oK fo63 rfl rfl rfl (field_spec ⟨#[97]⟩ tyQ tyDyn _ _ _ _ (by decide) hn5 hn1 Lw) ?_)
 rintro vhf2 w10 ⟨hf2, ew10⟩
 replace hf2 : Rep.R _ w10 vhf2 (Ty.mk 11 ⟨#[97]⟩ 0 [tyQ, tyDyn]) := hf2
 replace h1 := h1.Y Lw hB ew10
 replace h2 := h2.Y Lw hB ew10
 replace hE := ew10.bl hE hB
 replace hn0 := Rep.Y hn0 ew10
 replace hn1 := Rep.Y hn1 ew10
 replace hn2 := Rep.Y hn2 ew10
 replace hn3 := Rep.Y hn3 ew10
 replace hf0 := Rep.Y hf0 ew10
 replace hf1 := Rep.Y hf1 ew10
 replace hslbl0 := hslbl0.Y ew10
 replace hn4 := Rep.Y hn4 ew10
 replace h3 := h3.Y ew10
 replace hn5 := Rep.Y hn5 ew10
 replace Lw := Lw.Y ew10
 replace hB := ew10.z hB
 refine lC (o_bs tK rfl rfl rfl rfl rfl rfl rfl (sz1 (Rep.size hf2)) rfl rfl rfl ?_)
 intro bl1 w11 qbl1 ew11 hbl1
 have nbl1 := nO Lw qbl1
 replace h1 := h1.Y Lw hB ew11
 replace h2 := h2.Y Lw hB ew11
 replace hE := ew11.bl hE hB
 replace hn0 := Rep.Y hn0 ew11
 replace hn1 := Rep.Y hn1 ew11
 replace hn2 := Rep.Y hn2 ew11
 replace hn3 := Rep.Y hn3 ew11
 replace hf0 := Rep.Y hf0 ew11
 replace hf1 := Rep.Y hf1 ew11
 replace hslbl0 := hslbl0.Y ew11
 replace hn4 := Rep.Y hn4 ew11
 replace h3 := h3.Y ew11
 replace hn5 := Rep.Y hn5 ew11
 replace hf2 := Rep.Y hf2 ew11
 replace Lw := Lw.Y ew11
 replace hB := ew11.z hB
 have hslbl1 : Sl (Rw.Add (Rw.Add M b1) b2) w11 (.slice (some ⟨bl1, 0, none⟩) 1 1) [(Ty.mk 11 ⟨#[97]⟩ 0 [tyQ, tyDyn])] := lit_sl hbl1 nbl1 (show Rs _ _ [_] [(Ty.mk 11 ⟨#[97]⟩ 0 [tyQ, tyDyn])] from ⟨hf2, trivial⟩) (by decide)
 refine lC (o_build (cells := [.int .u8 5, .string ⟨#[]⟩, .int .i64 0, .slice (some ⟨bl1, 0, none⟩) 1 1]) (css := [[.int .u8 5], [.slice (some ⟨bl1, 0, none⟩) 1 1]]) bd25 rfl rfl rfl rfl rfl ?_)
 have hn6 : Rep.R (Rw.Add (Rw.Add M b1) b2) w11 (.agg #[.int .u8 5, .string ⟨#[]⟩, .int .i64 0, .slice (some ⟨bl1, 0, none⟩) 1 1]) exB := ty_mk (by decide) (by decide) ⟨by decide, by decide⟩ hslbl1
 refine lC (o_new tK rfl rfl rfl ?_)
 intro b4 w12 qb4 ew12 hb4
 have nb4 := nO Lw qb4
 refine lC (o_st tK hb4 rfl rfl rfl rfl (Rep.one hn6) rfl rfl ?_)
 intro w13 h4 uw13 bew13
 have ew13 : Ext w11 w13 := ew12.trans (bew13 _ (lQ qb4.symm))
 replace h1 := h1.Y Lw hB ew13
 replace h2 := h2.Y Lw hB ew13
 replace hE := ew13.bl hE hB
 replace hn0 := Rep.Y hn0 ew13
 replace hn1 := Rep.Y hn1 ew13
 replace hn2 := Rep.Y hn2 ew13
 replace hn3 := Rep.Y hn3 ew13
 replace hf0 := Rep.Y hf0 ew13
 replace hf1 := Rep.Y hf1 ew13
 replace hslbl0 := hslbl0.Y ew13
 replace hn4 := Rep.Y hn4 ew13
 replace h3 := h3.Y ew13
 replace hn5 := Rep.Y hn5 ew13
 replace hf2 := Rep.Y hf2 ew13
 replace hslbl1 := hslbl1.Y ew13
 replace hn6 := Rep.Y hn6 ew13
 replace Lw := Lw.Y ew13
 replace hB := ew13.z hB
 replace h4 : Box w13 b4 25 [.int .u8 5, .string ⟨#[]⟩, .int .i64 0, .slice (some ⟨bl1, 0, none⟩) 1 1] := h4
 replace h4 := h4.at nb4
 refine q1 (q0 ?_)
 refine lC (oL tK (fun j v hv => h2.cell j v hv) rfl rfl rfl rfl rfl rfl ?_)
 refine lC (o_bs tK rfl rfl rfl rfl rfl rfl rfl (sz1 (Rep.size hn1)) rfl rfl rfl ?_)
 intro bl2 w14 qbl2 ew14 hbl2
 have nbl2 := nO Lw qbl2
 replace h1 := h1.Y Lw hB ew14
 replace h2 := h2.Y Lw hB ew14
 replace hE := ew14.bl hE hB
 replace hn0 := Rep.Y hn0 ew14
 replace hn1 := Rep.Y hn1 ew14
 replace hn2 := Rep.Y hn2 ew14
 replace hn3 := Rep.Y hn3 ew14
 replace hf0 := Rep.Y hf0 ew14
 replace hf1 := Rep.Y hf1 ew14
 replace hslbl0 := hslbl0.Y ew14
 replace hn4 := Rep.Y hn4 ew14
 replace h3 := h3.Y ew14
 replace hn5 := Rep.Y hn5 ew14
 replace hf2 := Rep.Y hf2 ew14
 replace hslbl1 := hslbl1.Y ew14
 replace hn6 := Rep.Y hn6 ew14
 replace h4 := h4.Y ew14
 replace Lw := Lw.Y ew14
 replace hB := ew14.z hB
 have hslbl2 : Sl (Rw.Add (Rw.Add M b1) b2) w14 (.slice (some ⟨bl2, 0, none⟩) 1 1) [tyDyn] := lit_sl hbl2 nbl2 (show Rs _ _ [_] [tyDyn] from ⟨hn1, trivial⟩) (by decide)
 refine lC (o_build (cells := [.int .u8 5, .string ⟨#[]⟩, .int .i64 0, .slice (some ⟨bl2, 0, none⟩) 1 1]) (css := [[.int .u8 5], [.slice (some ⟨bl2, 0, none⟩) 1 1]]) bd25 rfl rfl rfl rfl rfl ?_)
 have hn7 : Rep.R (Rw.Add (Rw.Add M b1) b2) w14 (.agg #[.int .u8 5, .string ⟨#[]⟩, .int .i64 0, .slice (some ⟨bl2, 0, none⟩) 1 1]) exC := ty_mk (by decide) (by decide) ⟨by decide, by decide⟩ hslbl2
 refine lC (o_new tK rfl rfl rfl ?_)
 intro b5 w15 qb5 ew15 hb5
 have nb5 := nO Lw qb5
 refine lC (o_st tK hb5 rfl rfl rfl rfl (Rep.one hn7) rfl rfl ?_)
 intro w16 h5 uw16 bew16
 have ew16 : Ext w14 w16 := ew15.trans (bew16 _ (lQ qb5.symm))
 replace h1 := h1.Y Lw hB ew16
 replace h2 := h2.Y Lw hB ew16
 replace hE := ew16.bl hE hB
 replace hn0 := Rep.Y hn0 ew16
 replace hn1 := Rep.Y hn1 ew16
 replace hn2 := Rep.Y hn2 ew16
 replace hn3 := Rep.Y hn3 ew16
 replace hf0 := Rep.Y hf0 ew16
 replace hf1 := Rep.Y hf1 ew16
 replace hslbl0 := hslbl0.Y ew16
 replace hn4 := Rep.Y hn4 ew16
 replace h3 := h3.Y ew16
 replace hn5 := Rep.Y hn5 ew16
 replace hf2 := Rep.Y hf2 ew16
 replace hslbl1 := hslbl1.Y ew16
 replace hn6 := Rep.Y hn6 ew16
 replace h4 := h4.Y ew16
 replace hslbl2 := hslbl2.Y ew16
 replace hn7 := Rep.Y hn7 ew16
 replace Lw := Lw.Y ew16
 replace hB := ew16.z hB
 replace h5 : Box w16 b5 25 [.int .u8 5, .string ⟨#[]⟩, .int .i64 0, .slice (some ⟨bl2, 0, none⟩) 1 1] := h5
 replace h5 := h5.at nb5
 refine q1 (q0 ?_)
 refine lC (oL tK (fun j v hv => h3.cell j v hv) rfl rfl rfl rfl rfl rfl ?_)
 refine lC (oL tK (fun j v hv => h4.cell j v hv) rfl rfl rfl rfl rfl rfl ?_)
 have k1 := lessP_spec exA exB _ _ _ _ hn4 hn6 Lw exA_psz exB_psz
 rw [exAB] at k1
 refine lC (oK fo42 rfl rfl rfl (k1) ?_)
 rintro _ w17 ⟨rfl, ew17⟩
 replace h1 := h1.Y Lw hB ew17
 replace h2 := h2.Y Lw hB ew17
 replace hE := ew17.bl hE hB
 replace hn0 := Rep.Y hn0 ew17
 replace hn1 := Rep.Y hn1 ew17
 replace hn2 := Rep.Y hn2 ew17
 replace hn3 := Rep.Y hn3 ew17
 replace hf0 := Rep.Y hf0 ew17
 replace hf1 := Rep.Y hf1 ew17
 replace hslbl0 := hslbl0.Y ew17
 replace hn4 := Rep.Y hn4 ew17
 replace h3 := h3.Y ew17
 replace hn5 := Rep.Y hn5 ew17
 replace hf2 := Rep.Y hf2 ew17
 replace hslbl1 := hslbl1.Y ew17
 replace hn6 := Rep.Y hn6 ew17
 replace h4 := h4.Y ew17
 replace hslbl2 := hslbl2.Y ew17
 replace hn7 := Rep.Y hn7 ew17
 replace h5 := h5.Y ew17
 replace Lw := Lw.Y ew17
 replace hB := ew17.z hB
 refine lP 1 tK rfl ?_
 refine lC (oL tK (fun j v hv => h4.cell j v hv) rfl rfl rfl rfl rfl rfl ?_)
 refine lC (oL tK (fun j v hv => h3.cell j v hv) rfl rfl rfl rfl rfl rfl ?_)
 have k2 := lessP_spec exB exA _ _ _ _ hn6 hn4 Lw exB_psz exA_psz
 rw [exBA] at k2
 refine lC (oK fo42 rfl rfl rfl (k2) ?_)
 rintro _ w18 ⟨rfl, ew18⟩
 replace h1 := h1.Y Lw hB ew18
 replace h2 := h2.Y Lw hB ew18
 replace hE := ew18.bl hE hB
 replace hn0 := Rep.Y hn0 ew18
 replace hn1 := Rep.Y hn1 ew18
 replace hn2 := Rep.Y hn2 ew18
 replace hn3 := Rep.Y hn3 ew18
 replace hf0 := Rep.Y hf0 ew18
 replace hf1 := Rep.Y hf1 ew18
 replace hslbl0 := hslbl0.Y ew18
 replace hn4 := Rep.Y hn4 ew18
 replace h3 := h3.Y ew18
 replace hn5 := Rep.Y hn5 ew18
 replace hf2 := Rep.Y hf2 ew18
 replace hslbl1 := hslbl1.Y ew18
 replace hn6 := Rep.Y hn6 ew18
 replace h4 := h4.Y ew18
 replace hslbl2 := hslbl2.Y ew18
 replace hn7 := Rep.Y hn7 ew18
 replace h5 := h5.Y ew18
 replace Lw := Lw.Y ew18
 replace hB := ew18.z hB
 refine lP 3 tK rfl ?_
 refine lC (oL tK (fun j v hv => h5.cell j v hv) rfl rfl rfl rfl rfl rfl ?_)
 refine lC (oL tK (fun j v hv => h3.cell j v hv) rfl rfl rfl rfl rfl rfl ?_)
 have k3 := consistent_spec exC exA _ _ _ _ hn7 hn4 Lw exC_psz exA_psz
 rw [exCA] at k3
 refine lC (oK fo40 rfl rfl rfl (k3) ?_)
 rintro _ w19 ⟨rfl, ew19⟩
 replace h1 := h1.Y Lw hB ew19
 replace h2 := h2.Y Lw hB ew19
 replace hE := ew19.bl hE hB
 replace hn0 := Rep.Y hn0 ew19
 replace hn1 := Rep.Y hn1 ew19
 replace hn2 := Rep.Y hn2 ew19
 replace hn3 := Rep.Y hn3 ew19
 replace hf0 := Rep.Y hf0 ew19
 replace hf1 := Rep.Y hf1 ew19
 replace hslbl0 := hslbl0.Y ew19
 replace hn4 := Rep.Y hn4 ew19
 replace h3 := h3.Y ew19
 replace hn5 := Rep.Y hn5 ew19
 replace hf2 := Rep.Y hf2 ew19
 replace hslbl1 := hslbl1.Y ew19
 replace hn6 := Rep.Y hn6 ew19
 replace h4 := h4.Y ew19
 replace hslbl2 := hslbl2.Y ew19
 replace hn7 := Rep.Y hn7 ew19
 replace h5 := h5.Y ew19
 replace Lw := Lw.Y ew19
 replace hB := ew19.z hB
 refine lP 2 tK rfl (q1 (cR (x1_ rfl rfl ?_)))
 exact ⟨rfl, hE⟩
open Go Rw Go.RowKit
set_option maxRecDepth 100000
theorem Canon_own (t : Ty) (M : Nat → Prop) (w : World) (v : Value) (ht : Rep.R M w v t) (hlow0 : Low M w) (hz : psz t ≤ 2000000) :
  Calls Try.prog 43 #[v] w (Ret fun r w' => OTy 25 w.heap.size w' (bif rightB t || rowB t then canonF t else (Ty.mk 0 ⟨#[]⟩ 0 [])) r (Plus NoM w w') ∧ Ext w w') := by
 have Lw := hlow0
 have hB := lR w.heap.size
 have hE := Below.refl w.heap.size w
 have hsub : ∀ b, M b → M b := fun _ h => h
 obtain ⟨kv, rfl, op, nm, n64, hk⟩ := tO ht
 refine cN (n := 9) Try.func43 rfl rfl rfl ?_
 refine q0 ?_
 refine lC (o_box rfl rfl rfl ?_)
 intro b1 w1 hb_b1 ew1 h1
 replace h1 : Box _ b1 25 [.int .u8 t.op, .string t.name, .int .i64 t.n, kv] := h1
 replace h1 := h1.at (nO Lw hb_b1)
 replace hE := ew1.bl hE hB
 replace ht := Rep.Y ht ew1
 replace hk := hk.Y ew1
 replace Lw := Lw.Y ew1
 replace hB := ew1.z hB
 refine lC (o_new tK rfl rfl rfl ?_)
 intro b2 w2 qb2 ew2 hb2
 have sw2 := Stp.add ew2 Lw hB (lQ qb2.symm) hb2.lt
 have h2 : MB w.heap.size (Rw.Add M b2) w2 b2 25 [.int .u8 0, .string ⟨#[]⟩, .int .i64 0, .slice none 0 0] := MB.mk' hb2 qb2 hB
 replace hE := hE.trans sw2.below
 replace ht := Rep.sp ht sw2
 replace hk := hk.sp sw2
 replace h1 := h1.sp sw2
 replace hsub := sw2.sb hsub
 replace Lw := sw2.low
 replace hB := sw2.z hB
 refine q1 (cS (q0 ?_))
 refine lC (oL tK (fun j v hv => h1.cell j v hv) rfl rfl rfl rfl rfl rfl ?_)
 refine lC (oK fo70 rfl rfl rfl (either_specB t _ _ _ ht Lw) ?_)
 rintro _ w3 ⟨rfl, ew3⟩
 replace h2 := h2.Y Lw hB ew3
 replace hE := ew3.bl hE hB
 replace ht := Rep.Y ht ew3
 replace hk := hk.Y ew3
 replace h1 := h1.Y ew3
 replace Lw := Lw.Y ew3
 replace hB := ew3.z hB
 refine lP 1 tK rfl (q1 ?_)
 refine c_ifB _ rfl (fun hr => ?_) (fun hr => ?_)
 ·refine q0 ?_
  refine lC (o_build (cells := [.int .u8 0, .string ⟨#[]⟩, .int .i64 0, .slice none 0 0]) (css := []) bd25 rfl rfl rfl rfl rfl ?_)
  refine lC (o_st tK h2.box rfl rfl rfl rfl (by intro u hu; simp [Value.cells] at hu; rcases hu with rfl | rfl | rfl | rfl <;> rfl) rfl rfl ?_)
  intro w4 hw4 qw4 bew4
  have uw4 : UpdB _ _ _ := ⟨qw4, bew4⟩
  have sw4 := uw4.sp h2.inM Lw h2.ge
  have frw4 := qw4.2
  replace hE := hE.trans sw4.below
  replace ht := Rep.sp ht sw4
  replace hk := hk.sp sw4
  replace h1 := h1.sp sw4
  replace hsub := sw4.sb hsub
  replace Lw := sw4.low
  replace hB := sw4.z hB
  replace h2 : MB w.heap.size _ w4 b2 _ [.int .u8 0, .string ⟨#[]⟩, .int .i64 0, .slice none 0 0] := ⟨hw4, h2.inM, h2.ge⟩
  refine q1 (cR (xR ?_))
  refine x_ret1s tK (fun j v hv => h2.cell j v hv) rfl rfl rfl rfl rfl ?_
  rw [show (rightB t || rowB t) = false from hr]
  exact ⟨oty_leaf (by decide) (by decide) ⟨by decide, by decide⟩, hE⟩
 refine cK (xS (q0 ?_))
 refine lC (oL tK (fun j v hv => h1.cell j v hv) rfl rfl rfl rfl rfl rfl ?_)
 have l_h2 := h2.lt
 refine lC (oK fo73 rfl rfl rfl (canon_own _ t _ _ _ _ (lR _) (Classical.choose_spec (shape_either hr)) ht Lw hz) ?_)
 rintro vc w5 ⟨hc, ew5⟩
 replace hc := hc.ge hB
 have hGl : ∀ c, Plus NoM w3 w5 c → w3.heap.size ≤ c ∧ c < w5.heap.size := fun c h => h.elim (fun h => h.elim) id
 generalize Plus NoM w3 w5 = G at hc hGl
 have sw5 := (Stp.Y ew5 Lw hB).more hGl
 replace h2 := h2.sp sw5 (ew5.block b2 h2.lt)
 replace hE := hE.trans sw5.below
 replace ht := Rep.sp ht sw5
 replace hk := hk.sp sw5
 replace h1 := h1.sp sw5
 replace hsub := sw5.sb hsub
 replace Lw := sw5.low
 replace hB := sw5.z hB
 have d_hc_h2 : ∀ x, G x → x ≠ b2 := fun x hx => by have := (hGl x hx).1; omega
 obtain ⟨kvc, usc, Hc, rfl, opc, nmc, n64c, hknc, hrc, hOc, hHc⟩ := oty_open hc
 refine lC (o_st tK h2.box rfl rfl rfl rfl hc.one rfl rfl ?_)
 intro w6 hw6 qw6 bew6
 have uw6 : UpdB _ _ _ := ⟨qw6, bew6⟩
 have sw6 := uw6.sp h2.inM Lw h2.ge
 have frw6 := qw6.2
 replace hc := hc.sp sw6 (fun x hx => frw6 x (hc.lt x hx).2 (d_hc_h2 x hx))
 replace hE := hE.trans sw6.below
 replace ht := Rep.sp ht sw6
 replace hk := hk.sp sw6
 replace h1 := h1.sp sw6
 replace hsub := sw6.sb hsub
 replace Lw := sw6.low
 replace hB := sw6.z hB
 replace h2 : MB w.heap.size _ w6 b2 _ [.int .u8 (canonF t).op, .string (canonF t).name, .int .i64 (canonF t).n, kvc] := ⟨hw6, h2.inM, h2.ge⟩
 refine q1 (cR ?_)
 refine x_ret1s tK (fun j v hv => h2.cell j v hv) rfl rfl rfl rfl rfl ?_
 rw [show (rightB t || rowB t) = true from hr]
 exact ⟨hc.mono (fun c h => .inr (hc.lt c h)) (fun c h => h.elim (fun h => h.elim) id), hE⟩
end Go.Proofs.Ytpoahmeacjggfaa
namespace Rw
open Go Go.RowKit
theorem sl_take {α : Type} [Rep α] {M : Nat → Prop} {w : World} {a : Option Addr} {c : Nat} {l : List α} (h : Sl M w (.slice a l.length c) l) {j : Nat} (hj : j ≤ l.length) : Sl M w (.slice a j c) (l.take j) := by
  obtain ⟨a', c', e, h1, h2, h3⟩ := h
  cases e
  have hl : (l.take j).length = j := by rw [List.length_take]; omega
  refine ⟨a, c, by rw [hl], by omega, by omega, ?_⟩
  rcases h3 with h3 | ⟨b, off, ha, hx⟩
  · left; rw [h3]; simp
  · refine .inr ⟨b, off, ha, fun i x hi => hx i x ?_⟩
    rw [List.getElem?_take] at hi
    split at hi
    · exact hi
    · cases hi
theorem sl_drop {α : Type} [Rep α] {M : Nat → Prop} {w : World} {a : Option Addr} {c : Nat} {l : List α} (h : Sl M w (.slice a l.length c) l) {j : Nat} (hj : j ≤ l.length) : Sl M w (sliced a j l.length c (Rep.sz α)) (l.drop j) := by
  obtain ⟨a', c', e, h1, h2, h3⟩ := h
  cases e
  have hl : (l.drop j).length = l.length - j := List.length_drop
  refine ⟨_, c - j, by rw [hl]; rfl, by omega, by omega, ?_⟩
  rcases h3 with h3 | ⟨b, off, ha, hx⟩
  · left; rw [h3]; simp
  · by_cases hc : c = j
    · left; exact List.eq_nil_of_length_eq_zero (by omega)
    · refine .inr ⟨b, off + j * Rep.sz α, by rw [if_neg hc, ha]; simp [addr_add], fun i x hi => ?_⟩
      rw [List.getElem?_drop] at hi
      obtain ⟨u, hu, hat⟩ := hx (j + i) x hi
      refine ⟨u, hu, ?_⟩
      rw [show off + j * Rep.sz α + i * Rep.sz α = off + (j + i) * Rep.sz α by rw [Nat.add_mul]; omega]
      exact hat
section
variable {P : Program} {T : Tab} {n : Nat} {ops : Array Oper} {Q : Exit → Act → World → Prop} {G : Env} {w : World} {K : Env → World → Prop}
  {d ty : Nat} {pos : String} {af : Array Edge} {g : Option (Nat × Bool)}
theorem o_slh {α : Type} [Rep α] {M : Nat → Prop} {v : Value} {l : List α} {t : TypeId} {x hi : Operand} {k : IntKind} {z : Int} {j : Nat} {ti te : TI} {e : Nat} (hT : TabOk P T) (hs : Sl M w v l) (hx : Env.ev G x = some v) (hhi : Env.ev G hi = some (.int k z)) (hz : z = (j : Int)) (hj : j ≤ l.length) (ht : T.get t = some ti) (htd : ti.d = .sl e) (hte : T.get e = some te)
    (hg : gd ops G ⟨some d, .slice t x none (some hi) none, ty, pos, af, g⟩ = some true) (hdn : Nat.blt d n = true) (h : ∀ v', Sl M w v' (l.take j) → K ((d, v') :: G) w) : OW P n ops Q G w ⟨some d, .slice t x none (some hi) none, ty, pos, af, g⟩ K := by
  obtain ⟨a, c, rfl, h1, h2, h3⟩ := id hs
  subst hz
  have hd := (hT t _ ht).d
  rw [htd] at hd
  simp only [TD.Ok] at hd
  have hel : P.elem t = e := by simp [Program.elem, hd]
  refine o_val (v := .slice a j c) hg rfl hdn (fun ac ha => ?_) (h _ (sl_take hs hj))
  have hd' : P.underlying t = some (.slice (P.elem t)) := by rw [hel]; exact hd
  have hsz : (Go.sizeOf (P.elem t)).run P w = .ok te.size w := by rw [hel]; exact run_sizeOf hT hte w
  simp [execOp, ha.ev hx, ha.ev hhi, run_sliceAt_slice w t _ _ _ _ hd', run_slice_h w t a l.length c hd' k (j : Int) (by omega) (by omega), hsz, sliced]
  intro _
  cases a with
  | none => rfl
  | some p => simp [Addr.add]
theorem o_slt {α : Type} [Rep α] {M : Nat → Prop} {v : Value} {l : List α} {t : TypeId} {x lo : Operand} {k : IntKind} {z : Int} {j : Nat} {ti te : TI} {e : Nat} (hT : TabOk P T) (hs : Sl M w v l) (hx : Env.ev G x = some v) (hlo : Env.ev G lo = some (.int k z)) (hz : z = (j : Int)) (hj : j ≤ l.length) (ht : T.get t = some ti) (htd : ti.d = .sl e) (hte : T.get e = some te) (hsz : te.size = Rep.sz α)
    (hg : gd ops G ⟨some d, .slice t x (some lo) none none, ty, pos, af, g⟩ = some true) (hdn : Nat.blt d n = true) (h : ∀ v', Sl M w v' (l.drop j) → K ((d, v') :: G) w) : OW P n ops Q G w ⟨some d, .slice t x (some lo) none none, ty, pos, af, g⟩ K := by
  obtain ⟨a, c, rfl, h1, h2, h3⟩ := id hs
  subst hz
  have hd := (hT t _ ht).d
  rw [htd] at hd
  simp only [TD.Ok] at hd
  have hel : P.elem t = e := by simp [Program.elem, hd]
  have hd' : P.underlying t = some (.slice (P.elem t)) := by rw [hel]; exact hd
  have hsize : (Go.sizeOf (P.elem t)).run P w = .ok te.size w := by rw [hel]; exact run_sizeOf hT hte w
  refine o_val (v := sliced a j l.length c te.size) hg rfl hdn (fun ac ha => ?_) (h _ (by rw [hsz]; exact sl_drop hs hj))
  simp [execOp, ha.ev hx, ha.ev hlo, run_sliceAt_slice w t _ _ _ _ hd', run_slice_l w t a l.length c hd' k (j : Int) (by omega) (by omega), hsize]
end
section
variable {P : Program} {n : Nat} {ops : Array Oper} {Q : Exit → Act → World → Prop} {G : Env} {w : World} {K : Env → World → Prop}
  {d ty : Nat} {pos : String} {af : Array Edge} {g : Option (Nat × Bool)}
theorem o_odd {t t' : TypeId} {x y : Operand} {c : UInt8} (hx : Env.ev G x = some (.int .u8 c.toNat)) (hy : Env.ev G y = some (.int .u8 2))
    (hg : gd ops G ⟨some d, .binOp .rem t x y t', ty, pos, af, g⟩ = some true) (hdn : Nat.blt d n = true) (h : K ((d, .int .u8 ((c.toNat % 2 : Nat) : Int)) :: G) w) : OW P n ops Q G w ⟨some d, .binOp .rem t x y t', ty, pos, af, g⟩ K := by
  refine o_val hg rfl hdn (fun a ha => ?_) h
  have h2 : (c.toNat : Int).tmod 2 = ((c.toNat % 2 : Nat) : Int) := by rw [Int.tmod_eq_emod_of_nonneg (by omega)]; omega
  simp [execOp, ha.ev hx, ha.ev hy, eqGuard, binOp, Op.intDiv, h2]
end
/-- Is the first byte odd? -/
def oddH : List UInt8 → Bool
  | [] => false
  | c :: _ => decide (((c.toNat % 2 : Nat) : Int) = 1)
def leafF (o : Int) : Ty := if 8 ≤ o then .mk 9 ⟨#[]⟩ 0 [] else .mk 3 ⟨#[]⟩ 0 []
/-- One after the other, each with so many bytes. -/
def loosL : List (Nat × (List UInt8 → Ty)) → List UInt8 → List Ty
  | [], _ => []
  | (k, g) :: r, b => g b :: loosL r (b.drop k)
/-- A type loosened by bytes. -/
def loosF : Ty → List UInt8 → Ty
  | .mk o s n l => fun b => bif oddH b then leafF o else .mk o s n (loosL (l.map fun x => (psz x, loosF x)) (b.drop 1))
def loosK (l : List Ty) (b : List UInt8) : List Ty := loosL (l.map fun x => (psz x, loosF x)) b
theorem loosF_eq (t : Ty) (b : List UInt8) : loosF t b = bif oddH b then leafF t.op else .mk t.op t.name t.n (loosK t.kids (b.drop 1)) := by
  cases t; rw [loosF]; rfl
theorem loos_odd {t : Ty} {b : List UInt8} (h : oddH b = true) : loosF t b = leafF t.op := by rw [loosF_eq, h]; rfl
theorem loos_even {t : Ty} {b : List UInt8} (h : oddH b = false) : loosF t b = .mk t.op t.name t.n (loosK t.kids (b.drop 1)) := by rw [loosF_eq, h]; rfl
theorem loosK_cons (t : Ty) (l : List Ty) (b : List UInt8) : loosK (t :: l) b = loosF t b :: loosK l (b.drop (psz t)) := rfl
theorem loosK_len : ∀ (l : List Ty) (b : List UInt8), (loosK l b).length = l.length
  | [], _ => rfl
  | t :: l, b => by rw [loosK_cons, List.length_cons, List.length_cons, loosK_len l]
theorem loosK_get : ∀ (l : List Ty) (b : List UInt8) (i : Nat) (hi : i < l.length), (loosK l b)[i]? = some (loosF l[i] (b.drop (pszs (l.take i))))
  | [], _, i, hi => by simp at hi
  | t :: l, b, 0, _ => by rw [loosK_cons]; simp [pszs]
  | t :: l, b, i + 1, hi => by
    rw [loosK_cons, List.getElem?_cons_succ, loosK_get l _ i (by simpa using hi), List.take_succ_cons, pszs_cons, List.drop_drop]
    rfl
theorem loosK_at {l : List Ty} {b : List UInt8} {i : Nat} (hi : i < l.length) : (loosK l b)[i]'(by rw [loosK_len]; exact hi) = loosF l[i] (b.drop (pszs (l.take i))) := by
  have h := loosK_get l b i hi
  rw [gE (by rw [loosK_len]; exact hi)] at h
  exact Option.some.inj h
theorem take_loosK {l : List Ty} {b : List UInt8} {i : Nat} (hi : i < l.length) : (loosK l b).take (i + 1) = (loosK l b).take i ++ [loosF l[i] (b.drop (pszs (l.take i)))] := by
  rw [List.take_succ_eq_append_getElem (by rw [loosK_len]; exact hi), loosK_at hi]
theorem pszs_take {l : List Ty} {i : Nat} (hi : i < l.length) : pszs (l.take (i + 1)) = pszs (l.take i) + psz l[i] := by
  rw [List.take_succ_eq_append_getElem hi, pszs_append, pszs_cons]; rfl
theorem odd_head {b : List UInt8} {c : UInt8} (h : b[0]? = some c) : oddH b = decide (((c.toNat % 2 : Nat) : Int) = 1) := by
  cases b with
  | nil => simp at h
  | cons d r => simp at h; subst h; rfl
theorem odd_nil {b : List UInt8} (h : b.length = 0) : oddH b = false := by rw [List.eq_nil_of_length_eq_zero h]; rfl
end Rw
