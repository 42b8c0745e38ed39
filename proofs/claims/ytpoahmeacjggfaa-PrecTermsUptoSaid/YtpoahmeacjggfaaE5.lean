/- Part 5 of the proof: rules, plain laws and walks, merged out of smaller texts. -/
import Derived.Test.YtpoahmeacjggfaaE4
namespace Go.Proofs.Ytpoahmeacjggfaa
open Go Rw Go.RowKit
set_option maxRecDepth 100000
theorem odd_spec (M : Nat → Prop) (w : World) (B bl : Nat) (bv : Value) (b : List UInt8) (hl : MB B M w bl 87 [bv]) (hb : Sl M w bv b) (Lw : Low M w) (hB : B ≤ w.heap.size) :
  Calls Try.prog 111 #[.pointer (some ⟨bl, 0, none⟩)] w (Ret fun r w' => r = .bool (oddH b) ∧ ∃ bv', MB B M w' bl 87 [bv'] ∧ Sl M w' bv' (b.drop 1) ∧ UpdB bl w w') := by
 have hU := UpdB.refl bl w
 refine cN (n := 27) Try.func111 rfl rfl rfl ?_
 refine q0 (lP 1 tK rfl (q1 (cS (q0 (lP 3 tK rfl ?_)))))
 refine lC (oD tK (hl.cell 0 _ rfl) rfl rfl rfl rfl rfl ?_)
 refine lC (o_len tK hb rfl rfl rfl rfl rfl ?_)
 refine lP 1 tK rfl (q1 ?_)
 refine cP _ rfl (fun hc => ?_) (fun hc => ?_)
 ·refine q0 (lP 1 tK rfl (q1 (cR (xR (x1_ rfl rfl ?_)))))
  exact ⟨by rw [odd_nil (by omega)], _, hl, by rw [List.drop_eq_nil_of_le (by omega)]; rwa [List.eq_nil_of_length_eq_zero (show b.length = 0 by omega)] at hb, hU⟩
 have h0 : 0 < b.length := by omega
 refine cK (xS (q0 (lP 3 tK rfl ?_)))
 refine lC (oD tK (hl.cell 0 _ rfl) rfl rfl rfl rfl rfl ?_)
 refine lC (o_ixS tK hb (gE h0) rfl rfl rfl rfl rfl rfl rfl rfl rfl ?_)
 intro eb eo eu hr hat
 replace hr : eu = .int .u8 (b[0]).toNat := hr
 subst hr
 refine lC (oD tK (hat.cell 0 _ rfl) rfl rfl rfl rfl rfl ?_)
 refine lP 1 tK rfl (q1 (q0 (lP 4 tK rfl ?_)))
 refine lC (oD tK (hl.cell 0 _ rfl) rfl rfl rfl rfl rfl ?_)
 refine lC (o_slt tK hb rfl rfl rfl (j := 1) (by omega) rfl rfl rfl rfl rfl rfl ?_)
 intro bv2 hb2
 obtain ⟨ab, cb, e0, _⟩ := id hb2
 subst e0
 refine lP 2 tK rfl ?_
 refine lC (o_st tK hl.box rfl rfl rfl rfl (by intro u hu; simp [Value.cells] at hu; subst hu; rfl) rfl rfl ?_)
 intro w1 hw1 qw1 bew1
 have uw1 : UpdB _ _ _ := ⟨qw1, bew1⟩
 have sw1 := uw1.sp hl.inM Lw hl.ge
 have frw1 := qw1.2
 replace hU := hU.trans uw1
 replace hb := hb.sp sw1
 replace hb2 := hb2.sp sw1
 replace Lw := sw1.low
 replace hB := sw1.z hB
 replace hl : MB B _ w1 bl _ [.slice ab (b.drop 1).length cb] := ⟨hw1, hl.inM, hl.ge⟩
 refine q1 (q0 (lP 1 tK rfl ?_))
 refine lC (o_odd rfl rfl rfl rfl ?_)
 refine lP 2 tK rfl (q1 (cR (x1_ rfl rfl ?_)))
 exact ⟨by rw [odd_head (gE h0)], _, hl, hb2, hU⟩
theorem skip_spec (M : Nat → Prop) (w : World) (B bl : Nat) (bv : Value) (b : List UInt8) (hl : MB B M w bl 87 [bv]) (hb : Sl M w bv b) (Lw : Low M w) (hB : B ≤ w.heap.size) (n : Nat) :
  Calls Try.prog 112 #[.pointer (some ⟨bl, 0, none⟩), .int .i64 (n : Int)] w (Ret fun r w' => r = .tuple #[] ∧ ∃ bv', MB B M w' bl 87 [bv'] ∧ Sl M w' bv' (b.drop n) ∧ UpdB bl w w') := by
 have hU := UpdB.refl bl w
 refine cN (n := 19) Try.func112 rfl rfl rfl ?_
 refine a_beg Ext rfl ?_
 intro w1 ew1
 replace hU := hU.trans (UpdB.Y ew1 hl.lt)
 replace hl := hl.Y Lw hB ew1
 replace hb := hb.Y ew1
 replace Lw := Lw.Y ew1
 replace hB := ew1.z hB
 have hS : Ext w1 w1 := ext_refl _
 have D_hl := hl.box
 have D_hb := hb
 refine a_p 0 tK rfl rfl rfl rfl (by kernel_rfl) i3 hS ?_
 refine a_p 1 tK rfl rfl rfl rfl (by kernel_rfl) i3 hS ?_
 refine a_p 2 tK rfl rfl rfl rfl (by kernel_rfl) i3 hS ?_
 refine a_p 3 tK rfl rfl rfl rfl (by kernel_rfl) i3 hS ?_
 refine a_ld 4 tK (fun _ hs => (D_hl.Y hs).cell 0 _ rfl) rfl rfl rfl rfl rfl rfl (by kernel_rfl) i3 hS ?_
 refine a_p 5 tK rfl rfl rfl rfl (by kernel_rfl) i3 hS ?_
 refine a_p 6 tK rfl rfl rfl rfl (by kernel_rfl) i3 hS ?_
 refine a_p 7 tK rfl rfl rfl rfl (by kernel_rfl) i3 hS ?_
 refine a_p 8 tK rfl rfl rfl rfl (by kernel_rfl) i3 hS ?_
 refine a_ld 9 tK (fun _ hs => (D_hl.Y hs).cell 0 _ rfl) rfl rfl rfl rfl rfl rfl (by kernel_rfl) i3 hS ?_
 refine a_len 10 tK hb rfl rfl rfl rfl rfl rfl (by kernel_rfl) i3 hS ?_
 refine a_p 11 tK rfl rfl rfl rfl (by kernel_rfl) i3 hS ?_
 refine a_one 12 rfl (by kernel_rfl) (o_slt tK hb rfl rfl (j := min n b.length) (by split <;> omega) (by omega) rfl rfl rfl rfl rfl rfl ?_)
 intro bv2 hb2
 replace hb2 : Sl M w1 bv2 (b.drop n) := by
  by_cases h : n ≤ b.length
  ·rwa [Nat.min_eq_left h] at hb2
  ·rw [Nat.min_eq_right (by omega)] at hb2
   rwa [List.drop_eq_nil_of_le (show b.length ≤ n by omega), ← List.drop_eq_nil_of_le (lR b.length)]
 obtain ⟨ab, cb, e0, _⟩ := id hb2
 subst e0
 refine ⟨hS, ?_⟩
 refine a_p 13 tK rfl rfl rfl rfl (by kernel_rfl) i3 hS ?_
 refine a_p 14 tK rfl rfl rfl rfl (by kernel_rfl) i3 hS ?_
 refine a_barS Ext 15 rfl (by kernel_rfl) (by kernel_rfl) (o_st tK hl.box rfl rfl rfl rfl (by intro u hu; simp [Value.cells] at hu; subst hu; rfl) rfl rfl ?_)
 intro w2 hw2 qw2 bew2
 have uw2 : UpdB _ _ _ := ⟨qw2, bew2⟩
 have sw2 := uw2.sp hl.inM Lw hl.ge
 have frw2 := qw2.2
 replace hU := hU.trans uw2
 replace hb := hb.sp sw2
 replace hb2 := hb2.sp sw2
 replace Lw := sw2.low
 replace hB := sw2.z hB
 replace hS : Ext w2 w2 := ext_refl _
 replace hl : MB B _ w2 bl _ [.slice ab (b.drop n).length cb] := ⟨hw2, hl.inM, hl.ge⟩
 have D_hl := hl.box
 have D_hb := hb
 have D_hb2 := hb2
 refine a_end (by kernel_rfl) ?_
 refine x_ret0n rfl ?_
 exact ⟨rfl, _, hl, hb2, hU⟩
theorem loosen_own : ∀ (t : Ty) (b : List UInt8) (M : Nat → Prop) (w : World) (B : Nat) (v bv : Value) (F : Nat → Prop) (bl : Nat), OTy 25 B w t v F → (∀ c, F c → M c) → MB B M w bl 87 [bv] → ¬ F bl → Sl M w bv b → Low M w → B ≤ w.heap.size → psz t ≤ 2000000 → Calls Try.prog 85 #[.pointer (some ⟨bl, 0, none⟩), v] w (Ret fun r w' => ∃ M' F' bv', OTy 25 B w' (loosF t b) r F' ∧ (∀ c, F' c → M' c ∧ (F c ∨ w.heap.size ≤ c)) ∧ MB B M' w' bl 87 [bv'] ∧ Sl M' w' bv' (b.drop (psz t)) ∧ Stp B M M' w w' ∧ Kept w w' (Out (Rw.Add F bl) w)) := by
 refine Ty.ind fun t ih => ?_
 intro b M w B v bv F bl ht hF hl hbl hb Lw hB hsz
 have hps := psz_eq t
 have hkl := len_psz t.kids
 have hrt := ht.rep (M := NoM) (fun _ _ h => h)
 have hlt := hb.lt
 have hT : Stp B M M w w := Stp.refl Lw
 have hfr : Kept w w (Out (Rw.Add F bl) w) := Kept.refl (fun x hx => hx.1)
 obtain ⟨kv, us, H, rfl, op, nm, n64, hkn, hr, hO, hH⟩ := oty_open ht
 have hkF := hr.inM
 replace hr := hr.keepV (M' := M) (fun b hb => hF b (hr.inM b hb)) (fun _ _ _ _ _ => rfl)
 have hF1 : ∀ c, H c → M c := fun c hc => hF c (hH c hc).1
 have hFn : ∀ c, H c → F c ∨ w.heap.size ≤ c := fun c hc => .inl (hH c hc).1
 have hul := hO.len
 have dd_hr_hO : ∀ x y, kv.ownBlock = some x → H y → x ≠ y := fun x y hx hy e => (hH y hy).2 (e ▸ hx)
 have dd_hr_hfr : ∀ x y, kv.ownBlock = some x → Out (Rw.Add F bl) w y → x ≠ y := fun x y hx hy e => hy.2 (.inl (e ▸ hkF x hx))
 have d_hr_hl : ∀ x, kv.ownBlock = some x → x ≠ bl := fun x hx e => hbl (e ▸ hkF x hx)
 have d_hO_hl : ∀ x, H x → x ≠ bl := fun x hx e => hbl (e ▸ (hH x hx).1)
 have d_hfr_hl : ∀ x, Out (Rw.Add F bl) w x → x ≠ bl := fun x hx e => hx.2 (.inr e)
 have lbl0 := hl.lt
 refine cN (n := 36) Try.func85 rfl rfl rfl ?_
 refine q0 ?_
 refine lC (o_box rfl rfl rfl ?_)
 intro b3 w1 hb_b3 ew1 h3
 replace h3 : Box _ b3 25 [.int .u8 t.op, .string t.name, .int .i64 t.n, kv] := h3
 replace h3 := h3.at (nO Lw hb_b3)
 replace hT := hT.then (Stp.Y ew1 Lw hB)
 replace hr := hr.Y Lw hB ew1
 replace hO := hO.Y Lw hB ew1
 replace hfr := hfr.Y Lw hB ew1
 replace hl := hl.Y Lw hB ew1
 replace hb := hb.Y ew1
 replace Lw := Lw.Y ew1
 replace hB := ew1.z hB
 refine lC (o_new tK rfl rfl rfl ?_)
 intro b4 w2 qb4 ew2 hb4
 have d_hr_h4 : ∀ x, (kv : Value).ownBlock = some x → x ≠ b4 := fun x hx => by have := (hr.lt x hx).2; omega
 have d_hO_h4 : ∀ x, H x → x ≠ b4 := fun x hx => by have := (hO.lt x hx).2; omega
 have d_hfr_h4 : ∀ x, (Out (Rw.Add F bl) w) x → x ≠ b4 := fun x hx => by have := (hfr.lt x hx).2; omega
 have ne_hl_h4 : bl ≠ b4 := by have := hl.lt; omega
 have sw2 := Stp.add ew2 Lw hB (lQ qb4.symm) hb4.lt
 have h4 : MB B (Rw.Add M b4) w2 b4 25 [.int .u8 0, .string ⟨#[]⟩, .int .i64 0, .slice none 0 0] := MB.mk' hb4 qb4 hB
 replace hT := hT.then sw2
 replace hr := hr.sp sw2 (fun x hx => ew2.block x (hr.lt x hx).2)
 replace hO := hO.sp sw2 (fun x hx => ew2.block x (hO.lt x hx).2)
 replace hfr := hfr.sp sw2 (fun x hx => ew2.block x (hfr.lt x hx).2)
 replace hl := hl.sp sw2 (ew2.block bl hl.lt)
 replace hb := hb.sp sw2
 replace h3 := h3.sp sw2
 replace hF1 := fun b h => sw2.sub b (hF1 b h)
 replace Lw := sw2.low
 replace hB := sw2.z hB
 refine q1 (cS (q0 (lP 1 tK rfl ?_)))
 refine lC (oK fo111 rfl rfl rfl (odd_spec _ _ B bl bv b hl hb Lw hB) ?_)
 rintro _ w3 ⟨rfl, bvw3, hlw3, hbw3, uw3⟩
 have sw3 := uw3.sp hl.inM Lw hl.ge
 have frw3 := uw3.upd.2
 replace hT := hT.then sw3
 replace hr := hr.sp sw3 (fun x hx => frw3 x (hr.lt x hx).2 (d_hr_hl x hx))
 replace hO := hO.sp sw3 (fun x hx => frw3 x (hO.lt x hx).2 (d_hO_hl x hx))
 replace hfr := hfr.sp sw3 (fun x hx => frw3 x (hfr.lt x hx).2 (d_hfr_hl x hx))
 replace h4 := h4.sp sw3 (frw3 b4 h4.lt ne_hl_h4.symm)
 replace h3 := h3.sp sw3
 replace hF1 := fun b h => sw3.sub b (hF1 b h)
 replace Lw := sw3.low
 replace hB := sw3.z hB
 replace hl := hlw3
 replace hb := hbw3
 refine q1 ?_
 refine c_if _ rfl (fun hod => ?_) (fun hod => ?_)
 ·refine q0 (lP 1 tK rfl ?_)
  refine lC (oL tK (fun j v hv => h3.cell j v hv) rfl rfl rfl rfl rfl rfl ?_)
  have hty : Rep.R NoM w3 (.agg #[.int .u8 t.op, .string t.name, .int .i64 t.n, kv]) t := by
   have h := ty_mk (M := NoM) op nm n64 (hO.sl hr hkn (fun _ _ h => h) (fun _ _ h => h))
   rwa [← ty_eta] at h
  refine lC (oK fo20 rfl rfl rfl (size_spec t NoM _ _ hty (low_noM _) hsz) ?_)
  rintro _ w4 ⟨rfl, ew4⟩
  replace hT := hT.then (Stp.Y ew4 Lw hB)
  replace hr := hr.Y Lw hB ew4
  replace hO := hO.Y Lw hB ew4
  replace hfr := hfr.Y Lw hB ew4
  replace hl := hl.Y Lw hB ew4
  replace h4 := h4.Y Lw hB ew4
  replace hb := hb.Y ew4
  replace h3 := h3.Y ew4
  replace Lw := Lw.Y ew4
  replace hB := ew4.z hB
  refine lC (o_ar rfl rfl rfl (z := ((psz t - 1 : Nat) : Int)) (by rw [IntWalk.i64_in _ (by omega)]; have := psz_pos t; omega) rfl rfl ?_)
  refine lC (oK fo112 rfl rfl rfl (skip_spec _ _ B bl bvw3 (b.drop 1) hl hb Lw hB (psz t - 1)) ?_)
  rintro _ w5 ⟨rfl, bvw5, hlw5, hbw5, uw5⟩
  have sw5 := uw5.sp hl.inM Lw hl.ge
  have frw5 := uw5.upd.2
  replace hT := hT.then sw5
  replace hr := hr.sp sw5 (fun x hx => frw5 x (hr.lt x hx).2 (d_hr_hl x hx))
  replace hO := hO.sp sw5 (fun x hx => frw5 x (hO.lt x hx).2 (d_hO_hl x hx))
  replace hfr := hfr.sp sw5 (fun x hx => frw5 x (hfr.lt x hx).2 (d_hfr_hl x hx))
  replace h4 := h4.sp sw5 (frw5 b4 h4.lt ne_hl_h4.symm)
  replace h3 := h3.sp sw5
  replace hF1 := fun b h => sw5.sub b (hF1 b h)
  replace Lw := sw5.low
  replace hB := sw5.z hB
  replace hl := hlw5
  replace hb := hbw5
  refine q1 (cS (q0 (lP 1 tK rfl ?_)))
  refine lC (oD tK (h3.cell 0 _ rfl) rfl rfl rfl rfl rfl ?_)
  refine lP 1 tK rfl (q1 ?_)
  refine cP _ rfl (fun c2 => ?_) (fun c2 => ?_)
  ·refine q0 ?_
   refine lC (o_build (cells := [.int .u8 9, .string ⟨#[]⟩, .int .i64 0, .slice none 0 0]) (css := [[.int .u8 9]]) bd25 rfl rfl rfl rfl rfl ?_)
   refine lC (o_st tK h4.box rfl rfl rfl rfl (by intro u hu; simp [Value.cells] at hu; rcases hu with rfl | rfl | rfl | rfl <;> rfl) rfl rfl ?_)
   intro w6 hw6 qw6 bew6
   have uw6 : UpdB _ _ _ := ⟨qw6, bew6⟩
   have sw6 := uw6.sp h4.inM Lw h4.ge
   have frw6 := qw6.2
   replace hT := hT.then sw6
   replace hr := hr.sp sw6 (fun x hx => frw6 x (hr.lt x hx).2 (d_hr_h4 x hx))
   replace hO := hO.sp sw6 (fun x hx => frw6 x (hO.lt x hx).2 (d_hO_h4 x hx))
   replace hfr := hfr.sp sw6 (fun x hx => frw6 x (hfr.lt x hx).2 (d_hfr_h4 x hx))
   replace hl := hl.sp sw6 (frw6 bl hl.lt ne_hl_h4)
   replace hb := hb.sp sw6
   replace h3 := h3.sp sw6
   replace hF1 := fun b h => sw6.sub b (hF1 b h)
   replace Lw := sw6.low
   replace hB := sw6.z hB
   replace h4 : MB B _ w6 b4 _ [.int .u8 9, .string ⟨#[]⟩, .int .i64 0, .slice none 0 0] := ⟨hw6, h4.inM, h4.ge⟩
   refine q1 (cR (xR (xR ?_)))
   refine x_ret1s tK (fun j v hv => h4.cell j v hv) rfl rfl rfl rfl rfl ?_
   have hdr : (b.drop 1).drop (psz t - 1) = b.drop (psz t) := by rw [List.drop_drop]; congr 1; have := psz_pos t; omega
   rw [hdr] at hb
   refine ⟨_, NoM, _, ?_, fun _ h => h.elim, hl, hb, hT, hfr⟩
   rw [loos_odd hod, leafF, if_pos (by omega)]
   exact oty_leafB (by decide) (by decide) ⟨by decide, by decide⟩
  refine cK (xS (q0 ?_))
  refine lC (oK fo35 rfl rfl rfl (dyn_val _ _ Lw) ?_)
  rintro _ w7 ⟨rfl, ew7⟩
  replace hT := hT.then (Stp.Y ew7 Lw hB)
  replace hr := hr.Y Lw hB ew7
  replace hO := hO.Y Lw hB ew7
  replace hfr := hfr.Y Lw hB ew7
  replace hl := hl.Y Lw hB ew7
  replace h4 := h4.Y Lw hB ew7
  replace hb := hb.Y ew7
  replace h3 := h3.Y ew7
  replace Lw := Lw.Y ew7
  replace hB := ew7.z hB
  refine lC (o_st tK h4.box rfl rfl rfl rfl (by intro u hu; simp [Value.cells] at hu; rcases hu with rfl | rfl | rfl | rfl <;> rfl) rfl rfl ?_)
  intro w8 hw8 qw8 bew8
  have uw8 : UpdB _ _ _ := ⟨qw8, bew8⟩
  have sw8 := uw8.sp h4.inM Lw h4.ge
  have frw8 := qw8.2
  replace hT := hT.then sw8
  replace hr := hr.sp sw8 (fun x hx => frw8 x (hr.lt x hx).2 (d_hr_h4 x hx))
  replace hO := hO.sp sw8 (fun x hx => frw8 x (hO.lt x hx).2 (d_hO_h4 x hx))
  replace hfr := hfr.sp sw8 (fun x hx => frw8 x (hfr.lt x hx).2 (d_hfr_h4 x hx))
  replace hl := hl.sp sw8 (frw8 bl hl.lt ne_hl_h4)
  replace hb := hb.sp sw8
  replace h3 := h3.sp sw8
  replace hF1 := fun b h => sw8.sub b (hF1 b h)
  replace Lw := sw8.low
  replace hB := sw8.z hB
  replace h4 : MB B _ w8 b4 _ [.int .u8 3, .string ⟨#[]⟩, .int .i64 0, .slice none 0 0] := ⟨hw8, h4.inM, h4.ge⟩
  refine q1 (cR (xR ?_))
  refine x_ret1s tK (fun j v hv => h4.cell j v hv) rfl rfl rfl rfl rfl ?_
  have hdr : (b.drop 1).drop (psz t - 1) = b.drop (psz t) := by rw [List.drop_drop]; congr 1; have := psz_pos t; omega
  rw [hdr] at hb
  refine ⟨_, NoM, _, ?_, fun _ h => h.elim, hl, hb, hT, hfr⟩
  rw [loos_odd hod, leafF, if_neg (by omega)]
  exact oty_leafB (by decide) (by decide) ⟨by decide, by decide⟩
 refine cK (xS (cS (q0 (lP 1 tK rfl ?_))))
 refine lC (oD tK (h3.cell 3 _ rfl) rfl rfl rfl rfl rfl ?_)
 refine lC (o_lenO tK hr rfl rfl rfl rfl rfl ?_)
 refine lP 1 tK rfl (q1 (cB ?_))
 have htl : (loosK t.kids (b.drop 1)).length = t.kids.length := loosK_len _ _
 refine c_loop5 (X := Nat) (Y := List (VN 3)) (Z := Nat → Prop) (U := Nat → Prop) (V := Value) (fun i us M1 F1 bv => [(0, .pointer (some ⟨bl, 0, none⟩)), (3, .pointer (some ⟨b3, 0, none⟩)), (4, .pointer (some ⟨b4, 0, none⟩)), (20, kv), (21, .int .i64 (t.kids.length : Int)), (22, .int .i64 (i : Nat))]) (fun i us M1 F1 bv w' => i ≤ t.kids.length ∧ OwnSl 25 B M1 w' kv us ∧ OTs 25 B w' us (upTo (loosK t.kids (b.drop 1)) t.kids i) F1 ∧ (∀ c, F1 c → M1 c) ∧ (∀ c, F1 c → F c ∨ w.heap.size ≤ c) ∧ Kept w w' (Out (Rw.Add F bl) w) ∧ Stp B M M1 w w' ∧ Low M1 w' ∧ B ≤ w'.heap.size ∧ MB B M1 w' bl 87 [bv] ∧ Sl M1 w' bv (b.drop (1 + pszs (t.kids.take i))) ∧ MB B M1 w' b4 25 [.int .u8 0, .string ⟨#[]⟩, .int .i64 0, .slice none 0 0] ∧ At M1 w' b3 0 [.int .u8 t.op, .string t.name, .int .i64 t.n, kv] ∧ (∀ x y, (kv : Value).ownBlock = some x → F1 y → x ≠ y) ∧ (∀ x y, (kv : Value).ownBlock = some x → (Out (Rw.Add F bl) w) y → x ≠ y) ∧ (∀ x, (kv : Value).ownBlock = some x → x ≠ bl) ∧ (∀ x, F1 x → x ≠ bl) ∧ (∀ x, (Out (Rw.Add F bl) w) x → x ≠ bl) ∧ (∀ x, (kv : Value).ownBlock = some x → x ≠ b4) ∧ (∀ x, F1 x → x ≠ b4) ∧ (∀ x, (Out (Rw.Add F bl) w) x → x ≠ b4)) (fun i us M1 F1 bv => t.kids.length - i) (0) (us) ((Rw.Add M b4)) (H) (bvw3) (s6 rfl rfl rfl rfl (gN rfl (by omega)) rfl) ?_ ?_
 ·refine ⟨Nat.zero_le _, ?_⟩
  rw [upTo_zero]
  exact ⟨hr, hO, hF1, hFn, hfr, hT, Lw, hB, hl, (by simpa [pszs] using hb), h4, h3, dd_hr_hO, dd_hr_hfr, d_hr_hl, d_hO_hl, d_hfr_hl, d_hr_h4, d_hO_h4, d_hfr_h4⟩
 clear hF1 hFn hfr hT dd_hr_hO dd_hr_hfr d_hr_hl d_hO_hl d_hfr_hl d_hr_h4 d_hO_h4 d_hfr_h4 hul
 rintro i us M1 F1 bv w9 ⟨hi, hr, hO, hF1, hFn, hfr, hT, Lw, hB, hl, hb, h4, h3, dd_hr_hO, dd_hr_hfr, d_hr_hl, d_hO_hl, d_hfr_hl, d_hr_h4, d_hO_h4, d_hfr_h4⟩
 have hul := hO.len
 rw [upTo_len htl] at hul
 refine q0 (lP 1 tK rfl (q1 (cS ?_)))
 refine cP _ rfl (fun c3 => ?_) (fun c3 => ?_)
 ·refine cK (xS (cS (cB (q0 (lP 1 tK rfl ?_)))))
  have hik : i < t.kids.length := by omega
  obtain ⟨⟨uv⟩, G, hui, hx, hGF, hOh⟩ := hO.take (upTo_get htl hik)
  refine lC (o_ixO tK hr hui rfl rfl rfl rfl rfl rfl rfl rfl rfl ?_)
  intro ebx eux hobx hRx hX
  obtain ⟨e0, _⟩ := hRx
  replace e0 : eux = uv := e0
  subst e0
  obtain ⟨kvx, usx, Hx, rfl, opx, nmx, n64x, hknx, hrx, hOx, hHx⟩ := oty_open hx
  replace hX : OAt _ _ _ [.int .u8 t.kids[i].op, .string t.kids[i].name, .int .i64 t.kids[i].n, kvx] := hX
  refine lC (oL tK (fun j v hv => hX.cell j v hv) rfl rfl rfl rfl rfl rfl ?_)
  refine lC (o_new tK rfl rfl rfl ?_)
  intro b6 w10 qb6 ew10 hb6
  have nb6 := nO Lw qb6
  refine lP 1 tK rfl ?_
  refine lC (o_st tK hb6 rfl rfl rfl rfl hx.one rfl rfl ?_)
  intro w11 h6 uw11 bew11
  have ew11 : Ext w9 w11 := ew10.trans (bew11 _ (lQ qb6.symm))
  replace hT := hT.then (Stp.Y ew11 Lw hB)
  replace hr := hr.Y Lw hB ew11
  replace hfr := hfr.Y Lw hB ew11
  replace hl := hl.Y Lw hB ew11
  replace h4 := h4.Y Lw hB ew11
  replace hOh := hOh.Y Lw hB ew11
  replace hx := hx.Y Lw hB ew11
  replace hb := hb.Y ew11
  replace h3 := h3.Y ew11
  replace Lw := Lw.Y ew11
  replace hB := ew11.z hB
  replace h6 : Box w11 b6 25 [.int .u8 t.kids[i].op, .string t.kids[i].name, .int .i64 t.kids[i].n, kvx] := h6
  replace h6 := h6.at nb6
  refine q1 ?_
  refine a_beg (Sof B M1) rfl ?_
  intro w12 ew12
  replace hT := hT.then (Stp.Y ew12 Lw hB)
  replace hr := hr.Y Lw hB ew12
  replace hfr := hfr.Y Lw hB ew12
  replace hl := hl.Y Lw hB ew12
  replace h4 := h4.Y Lw hB ew12
  replace hOh := hOh.Y Lw hB ew12
  replace hx := hx.Y Lw hB ew12
  replace hb := hb.Y ew12
  replace h3 := h3.Y ew12
  replace h6 := h6.Y ew12
  replace Lw := Lw.Y ew12
  replace hB := ew12.z hB
  have hS : Stp B M1 M1 w12 w12 := Stp.refl Lw
  have D_hl := hl.box
  have D_hb := hb
  have D_h4 := h4.box
  have D_h3 := h3
  have D_h6 := h6
  refine a_p 0 tK rfl rfl rfl rfl (by kernel_rfl) i3 ⟨_, hS⟩ ?_
  refine a_ld 1 tK (fun _ hs => (D_h3.so hs).cell 3 _ rfl) rfl rfl rfl rfl rfl rfl (by kernel_rfl) i3 ⟨_, hS⟩ ?_
  refine a_p 2 tK rfl rfl rfl rfl (by kernel_rfl) i3 ⟨_, hS⟩ ?_
  refine a_p 3 tK rfl rfl rfl rfl (by kernel_rfl) i3 ⟨_, hS⟩ ?_
  refine a_lds 4 tK (fun _ hs j v hv => (D_h6.so hs).cell j v hv) rfl rfl rfl rfl rfl rfl rfl (by kernel_rfl) i3 ⟨_, hS⟩ ?_
  have l_h4 := h4.lt
  have l_hl := hl.lt
  have hsz0 := hT.upd.1
  have lH := hOh.lt
  have lr := hr.lt
  refine a_one 5 rfl (by kernel_rfl) (oK fo85 rfl rfl rfl (ih _ (gM hik) (b.drop (1 + pszs (t.kids.take i))) _ _ B _ bv G bl hx (fun c hc => hF1 c (hGF c hc)) hl (fun g => d_hO_hl _ (hGF _ g) rfl) hb Lw hB (by have := psz_get hik; omega)) ?_)
  rintro vq w13 ⟨Mw13, Fw13, bvw13, hq, hq2, hlw13, hbw13, sw13, kw13⟩
  have frw13 : ∀ x, x < w12.heap.size → ¬ (G x ∨ x = bl) → w13.heap[x]? = w12.heap[x]? := fun x hx hg => kw13.blk x ⟨hx, hg⟩
  replace hT := hT.then sw13
  replace hS := hS.then sw13
  replace hr := hr.sp sw13 (fun x hx => frw13 x (hr.lt x hx).2 (fun g => g.elim (fun g => dd_hr_hO x x hx (hGF x g) rfl) (d_hr_hl x hx)))
  replace hfr := hfr.sp sw13 (fun x hx => frw13 x (hfr.lt x hx).2 (fun g => g.elim (fun g => (hFn x (hGF x g)).elim (fun h => hx.2 (.inl h)) (fun h => by have := hx.1; have := hfr.size; omega)) (fun e => hx.2 (.inr e))))
  replace h4 := h4.sp sw13 (frw13 b4 h4.lt (fun g => g.elim (fun g => d_hO_h4 _ (hGF _ g) rfl) (ne_hl_h4.symm)))
  replace hOh := hOh.sp sw13 (fun c hc hn => frw13 c (hOh.lt c hc).2 (fun g => g.elim hn (d_hO_hl c hc)))
  replace h3 := h3.sp sw13
  replace h6 := h6.sp sw13
  replace hF1 := fun b h => sw13.sub b (hF1 b h)
  replace Lw := sw13.low
  replace hB := sw13.z hB
  refine ⟨⟨_, hS⟩, ?_⟩
  replace hl := hlw13
  replace hb := hbw13
  have hO := hOh.put hq (fun c hc => (hq2 c hc).2.elim .inl (fun h => .inr (fun hf => by have := (lH c hf).2; omega)))
  replace hF1 : ∀ c, F1 c ∨ Fw13 c → Mw13 c := fun c h => h.elim (hF1 c) (fun h => (hq2 c h).1)
  replace dd_hr_hO : ∀ x y, kv.ownBlock = some x → (F1 y ∨ Fw13 y) → x ≠ y := fun x y hx hy => hy.elim (dd_hr_hO x y hx) (fun h => (hq2 y h).2.elim (fun g => dd_hr_hO x y hx (hGF y g)) (fun h => by have := (lr x hx).2; omega))
  replace d_hO_h4 : ∀ x, (F1 x ∨ Fw13 x) → x ≠ b4 := fun x hx => hx.elim (d_hO_h4 x) (fun h => (hq2 x h).2.elim (fun g => d_hO_h4 x (hGF x g)) (fun h => by have := l_h4; omega))
  replace d_hO_hl : ∀ x, (F1 x ∨ Fw13 x) → x ≠ bl := fun x hx => hx.elim (d_hO_hl x) (fun h => (hq2 x h).2.elim (fun g => d_hO_hl x (hGF x g)) (fun h => by have := l_hl; omega))
  replace hFn : ∀ c, (F1 c ∨ Fw13 c) → F c ∨ w.heap.size ≤ c := fun c hc => hc.elim (hFn c) (fun h => (hq2 c h).2.elim (fun g => hFn c (hGF c g)) (fun h => .inr (by have := hsz0; omega)))
  refine a_ixO 6 tK hr hui rfl rfl rfl rfl rfl rfl rfl rfl rfl rfl (by kernel_rfl) i4 ⟨_, hS⟩ ?_
  intro ebz euz hobz hRz hatz
  refine a_bar 7 rfl (by kernel_rfl) (by kernel_rfl) (o_stO tK hr hobz (by omega) hq.vn Lw rfl rfl rfl rfl rfl rfl ?_)
  intro w14 hw14 sw14 frw14
  replace hT := hT.then sw14
  replace hS := hS.then sw14
  replace hfr := hfr.sp sw14 (fun x hx => frw14 x (hfr.lt x hx).2 (fun e => dd_hr_hfr _ x hobz hx e.symm))
  replace hl := hl.sp sw14 (frw14 bl hl.lt (fun e => d_hr_hl _ hobz e.symm))
  replace h4 := h4.sp sw14 (frw14 b4 h4.lt (fun e => d_hr_h4 _ hobz e.symm))
  replace hO := hO.sp sw14 (fun x hx => frw14 x (hO.lt x hx).2 (fun e => dd_hr_hO _ x hobz hx e.symm))
  replace hb := hb.sp sw14
  replace h3 := h3.sp sw14
  replace h6 := h6.sp sw14
  replace hF1 := fun b h => sw14.sub b (hF1 b h)
  replace Lw := sw14.low
  replace hB := sw14.z hB
  replace hr := hw14
  clear hw14
  refine a_end (by kernel_rfl) ?_
  refine x_blk (xS (cG ?_))
  refine lC (o_ai rfl rfl rfl (by omega) rfl rfl ?_)
  refine lP 1 tK rfl (lN ?_)
  exact x_round5 (i + 1) (us.set i ⟨vq⟩) (Mw13) ((fun c => F1 c ∨ Fw13 c)) (bvw13) (s6 rfl rfl rfl rfl rfl rfl) ⟨by omega, hr, by rw [← upTo_set htl hik, loosK_at hik, List.drop_drop]; exact hO, hF1, hFn, hfr, hT, Lw, hB, hl, by rw [pszs_take hik, ← Nat.add_assoc, ← List.drop_drop]; exact hb, h4, h3, dd_hr_hO, dd_hr_hfr, d_hr_hl, d_hO_hl, d_hfr_hl, d_hr_h4, d_hO_h4, d_hfr_h4⟩ (by omega)
 refine c_exit (xE (xE (x_blkE (xS (q0 ?_)))))
 refine lC (oL tK (fun j v hv => h3.cell j v hv) rfl rfl rfl rfl rfl rfl ?_)
 refine lC (o_st tK h4.box rfl rfl rfl rfl (own_ones hr) rfl rfl ?_)
 intro w15 hw15 qw15 bew15
 have uw15 : UpdB _ _ _ := ⟨qw15, bew15⟩
 have sw15 := uw15.sp h4.inM Lw h4.ge
 have frw15 := qw15.2
 replace hT := hT.then sw15
 replace hr := hr.sp sw15 (fun x hx => frw15 x (hr.lt x hx).2 (d_hr_h4 x hx))
 replace hO := hO.sp sw15 (fun x hx => frw15 x (hO.lt x hx).2 (d_hO_h4 x hx))
 replace hfr := hfr.sp sw15 (fun x hx => frw15 x (hfr.lt x hx).2 (d_hfr_h4 x hx))
 replace hl := hl.sp sw15 (frw15 bl hl.lt ne_hl_h4)
 replace hb := hb.sp sw15
 replace h3 := h3.sp sw15
 replace hF1 := fun b h => sw15.sub b (hF1 b h)
 replace Lw := sw15.low
 replace hB := sw15.z hB
 replace h4 : MB B _ w15 b4 _ [.int .u8 t.op, .string t.name, .int .i64 t.n, kv] := ⟨hw15, h4.inM, h4.ge⟩
 refine q1 (cR ?_)
 refine x_ret1s tK (fun j v hv => h4.cell j v hv) rfl rfl rfl rfl rfl ?_
 obtain rfl : i = t.kids.length := by omega
 rw [upTo_all htl (lR _)] at hO
 refine ⟨_, fun c => kv.ownBlock = some c ∨ F1 c, _, ?_, fun c hc => hc.elim (fun h => ⟨hr.inM c h, .inl (hkF c h)⟩) (fun h => ⟨hF1 c h, hFn c h⟩), hl, by rw [psz_eq, Nat.add_comm, ← List.take_of_length_le (lR t.kids.length)]; exact hb, hT, hfr⟩
 rw [loos_even hod]
 exact oty_mk op nm n64 (by rw [htl]; exact hkn) (fun c hc => hc.elim (hr.lt c) (hO.lt c)) (hr.keepV (fun b hb => .inl hb) (fun _ _ _ _ _ => rfl)) hO (fun c hc => ⟨.inr hc, fun e => dd_hr_hO c c e hc rfl⟩)
open Go Rw Go.RowKit
set_option maxRecDepth 100000
theorem refLoos_spec : ∀ (t : Ty) (b : List UInt8) (M : Nat → Prop) (w : World) (v u : Value), Rep.R M w v t → Sl M w u b → Low M w → psz t ≤ 2000000 → Calls Try.prog 55 #[v, u] w (Ret fun r w' => (∃ x, r = .tuple #[x, .int .i64 (psz t : Nat)] ∧ Rep.R M w' x (loosF t b)) ∧ Ext w w') := by
  refine Ty.ind fun t ih => ?_
  intro b M w v u ht hb hlow0 hsz
  have Lw := hlow0
  have hB := lR w.heap.size
  have hE := Below.refl w.heap.size w
  have hsub : ∀ b, M b → M b := fun _ h => h
  obtain ⟨kv, rfl, op, nm, n64, hk⟩ := tO ht
  have hps := psz_eq t
  have hkl := len_psz t.kids
  have hblt := hb.lt
  refine cN (n := 72) Try.func55 rfl rfl rfl ?_
  refine q0 ?_
  refine lC (o_box rfl rfl rfl ?_)
  intro b2 w1 hb_b2 ew1 h2
  replace h2 : Box _ b2 25 [.int .u8 t.op, .string t.name, .int .i64 t.n, kv] := h2
  replace h2 := h2.at (nO Lw hb_b2)
  replace hE := ew1.bl hE hB
  replace ht := Rep.Y ht ew1
  replace hk := hk.Y ew1
  replace hb := hb.Y ew1
  replace Lw := Lw.Y ew1
  replace hB := ew1.z hB
  refine lC (o_new tK rfl rfl rfl ?_)
  intro b4 w2 qb4 ew2 hb4
  have sw2 := Stp.add ew2 Lw hB (lQ qb4.symm) hb4.lt
  have h4 : MB w.heap.size (Rw.Add M b4) w2 b4 25 [.int .u8 0, .string ⟨#[]⟩, .int .i64 0, .slice none 0 0] := MB.mk' hb4 qb4 hB
  replace hE := hE.trans sw2.below
  replace ht := Rep.sp ht sw2
  replace hk := hk.sp sw2
  replace hb := hb.sp sw2
  replace h2 := h2.sp sw2
  replace hsub := sw2.sb hsub
  replace Lw := sw2.low
  replace hB := sw2.z hB
  refine lP 1 tK rfl (q1 (q0 ?_))
  refine lC (oL tK (fun j v hv => h2.cell j v hv) rfl rfl rfl rfl rfl rfl ?_)
  refine lC (oK fo21 rfl rfl rfl (parts_spec t _ _ _ ht Lw hsz) ?_)
  rintro vhp w3 ⟨hp, ew3⟩
  replace h4 := h4.Y Lw hB ew3
  replace hE := ew3.bl hE hB
  replace ht := Rep.Y ht ew3
  replace hk := hk.Y ew3
  replace hb := hb.Y ew3
  replace h2 := h2.Y ew3
  replace Lw := Lw.Y ew3
  replace hB := ew3.z hB
  have hpl : (partsL t).length = psz t := rfl
  refine lC (o_len tK hp rfl rfl rfl rfl rfl ?_)
  refine lP 1 tK rfl (q1 (cS (q0 (lP 1 tK rfl ?_))))
  refine lC (o_len tK hb rfl rfl rfl rfl rfl ?_)
  refine lP 2 tK rfl ?_
  refine lS 18 _ rfl (fun hc0 => ?_) (fun hc0 => ?_)
  · have h0 : 0 < b.length := by omega
    refine lP 1 tK rfl ?_
    refine lC (o_ixS tK hb (gE h0) rfl rfl rfl rfl rfl rfl rfl rfl rfl ?_)
    intro eb eo eu hr hat
    replace hr : eu = .int .u8 (b[0]).toNat := hr
    subst hr
    refine lC (oD tK (hat.cell 0 _ rfl) rfl rfl rfl rfl rfl ?_)
    refine lC (o_odd rfl rfl rfl rfl ?_)
    refine lP 2 tK rfl (q1 ?_)
    refine cP _ rfl (fun hc1 => ?_) (fun hc1 => ?_)
    · have hod : oddH b = true := by rw [odd_head (gE h0)]; exact dT hc1
      refine cS (q0 (lP 1 tK rfl ?_))
      refine lC (oD tK (h2.cell 0 _ rfl) rfl rfl rfl rfl rfl ?_)
      refine lP 1 tK rfl (q1 ?_)
      refine cP _ rfl (fun c2 => ?_) (fun c2 => ?_)
      · refine q0 ?_
        refine lC (o_build (cells := [.int .u8 9, .string ⟨#[]⟩, .int .i64 0, .slice none 0 0]) (css := [[.int .u8 9]]) bd25 rfl rfl rfl rfl rfl ?_)
        refine lP 1 tK rfl ?_
        refine lC (o_st tK h4.box rfl rfl rfl rfl (by intro u hu; simp [Value.cells] at hu; rcases hu with rfl | rfl | rfl | rfl <;> rfl) rfl rfl ?_)
        intro w4 hw4 qw4 bew4
        have uw4 : UpdB _ _ _ := ⟨qw4, bew4⟩
        have sw4 := uw4.sp h4.inM Lw h4.ge
        have frw4 := qw4.2
        replace hE := hE.trans sw4.below
        replace ht := Rep.sp ht sw4
        replace hk := hk.sp sw4
        replace hb := hb.sp sw4
        replace h2 := h2.sp sw4
        replace hp := hp.sp sw4
        replace hsub := sw4.sb hsub
        replace Lw := sw4.low
        replace hB := sw4.z hB
        replace h4 : MB w.heap.size _ w4 b4 _ [.int .u8 9, .string ⟨#[]⟩, .int .i64 0, .slice none 0 0] := ⟨hw4, h4.inM, h4.ge⟩
        refine lP 1 tK rfl (q1 (cR (xR (xR ?_))))
        refine x_ret2st tK (fun j v hv => h4.cell j v hv) rfl rfl rfl rfl rfl rfl ?_
        refine ⟨⟨_, rfl, ?_⟩, hE⟩
        rw [loos_odd hod, leafF, if_pos (by omega)]
        exact ty_mk (M := M) (by decide) (by decide) ⟨by decide, by decide⟩ sl_nil
      refine cK (xS (q0 ?_))
      refine lC (o_build (cells := [.int .u8 3, .string ⟨#[]⟩, .int .i64 0, .slice none 0 0]) (css := [[.int .u8 3]]) bd25 rfl rfl rfl rfl rfl ?_)
      refine lP 1 tK rfl ?_
      refine lC (o_st tK h4.box rfl rfl rfl rfl (by intro u hu; simp [Value.cells] at hu; rcases hu with rfl | rfl | rfl | rfl <;> rfl) rfl rfl ?_)
      intro w5 hw5 qw5 bew5
      have uw5 : UpdB _ _ _ := ⟨qw5, bew5⟩
      have sw5 := uw5.sp h4.inM Lw h4.ge
      have frw5 := qw5.2
      replace hE := hE.trans sw5.below
      replace ht := Rep.sp ht sw5
      replace hk := hk.sp sw5
      replace hb := hb.sp sw5
      replace h2 := h2.sp sw5
      replace hp := hp.sp sw5
      replace hsub := sw5.sb hsub
      replace Lw := sw5.low
      replace hB := sw5.z hB
      replace h4 : MB w.heap.size _ w5 b4 _ [.int .u8 3, .string ⟨#[]⟩, .int .i64 0, .slice none 0 0] := ⟨hw5, h4.inM, h4.ge⟩
      refine lP 1 tK rfl (q1 (cR (xR ?_)))
      refine x_ret2st tK (fun j v hv => h4.cell j v hv) rfl rfl rfl rfl rfl rfl ?_
      refine ⟨⟨_, rfl, ?_⟩, hE⟩
      rw [loos_odd hod, leafF, if_neg (by omega)]
      exact ty_mk (M := M) (by decide) (by decide) ⟨by decide, by decide⟩ sl_nil
    have hod : oddH b = false := by rw [odd_head (gE h0)]; exact dF hc1
    refine cK (xS (q0 (lP 1 tK rfl ?_)))
    refine lC (oD tK (h2.cell 0 _ rfl) rfl rfl rfl rfl rfl ?_)
    refine lP 1 tK rfl ?_
    refine lC (oD tK (h2.cell 1 _ rfl) rfl rfl rfl rfl rfl ?_)
    refine lP 1 tK rfl ?_
    refine lC (oD tK (h2.cell 2 _ rfl) rfl rfl rfl rfl rfl ?_)
    refine lC (o_build (cells := [.int .u8 t.op, .string t.name, .int .i64 t.n, .slice none 0 0]) (css := [[.int .u8 t.op], [.string t.name], [.int .i64 t.n]]) bd25 rfl rfl rfl rfl rfl ?_)
    refine lC (o_new tK rfl rfl rfl ?_)
    intro b7 w6 qb7 ew6 hb7
    have ne_h4_h7 : b4 ≠ b7 := by have := h4.lt; omega
    have sw6 := Stp.add ew6 Lw hB (lQ qb7.symm) hb7.lt
    have h7 : MB w.heap.size (Rw.Add (Rw.Add M b4) b7) w6 b7 25 [.int .u8 0, .string ⟨#[]⟩, .int .i64 0, .slice none 0 0] := MB.mk' hb7 qb7 hB
    replace h4 := h4.sp sw6 (ew6.block b4 h4.lt)
    replace hE := hE.trans sw6.below
    replace ht := Rep.sp ht sw6
    replace hk := hk.sp sw6
    replace hb := hb.sp sw6
    replace h2 := h2.sp sw6
    replace hp := hp.sp sw6
    replace hsub := sw6.sb hsub
    replace Lw := sw6.low
    replace hB := sw6.z hB
    refine lC (o_st tK h7.box rfl rfl rfl rfl (by intro u hu; simp [Value.cells] at hu; rcases hu with rfl | rfl | rfl | rfl <;> rfl) rfl rfl ?_)
    intro w7 hw7 qw7 bew7
    have uw7 : UpdB _ _ _ := ⟨qw7, bew7⟩
    have sw7 := uw7.sp h7.inM Lw h7.ge
    have frw7 := qw7.2
    replace h4 := h4.sp sw7 (frw7 b4 h4.lt ne_h4_h7)
    replace hE := hE.trans sw7.below
    replace ht := Rep.sp ht sw7
    replace hk := hk.sp sw7
    replace hb := hb.sp sw7
    replace h2 := h2.sp sw7
    replace hp := hp.sp sw7
    replace hsub := sw7.sb hsub
    replace Lw := sw7.low
    replace hB := sw7.z hB
    replace h7 : MB w.heap.size _ w7 b7 _ [.int .u8 t.op, .string t.name, .int .i64 t.n, .slice none 0 0] := ⟨hw7, h7.inM, h7.ge⟩
    refine q1 (q0 (lP 1 tK rfl (q1 (cS (q0 (lP 1 tK rfl (q1 (cB ?_))))))))
    have d_ho_h4 : ∀ x, (.slice none 0 0 : Value).ownBlock = some x → x ≠ b4 := fun x hx => by simp [Value.ownBlock] at hx
    have d_ho_h7 : ∀ x, (.slice none 0 0 : Value).ownBlock = some x → x ≠ b7 := fun x hx => by simp [Value.ownBlock] at hx
    refine c_loop3 (X := Nat) (Y := Value) (Z := Nat → Prop) (fun i wv M1 => [(1, u), (6, .int .i64 ((psz t : Nat) : Int)), (8, .int .i64 ((1 + pszs (t.kids.take i) : Nat) : Int)), (2, .pointer (some ⟨b2, 0, none⟩)), (4, .pointer (some ⟨b4, 0, none⟩)), (7, .pointer (some ⟨b7, 0, none⟩)), (9, .int .i64 (i : Nat))]) (fun i wv M1 w' => i ≤ t.kids.length ∧ OwnSl 25 w.heap.size M1 w' wv ((loosK t.kids (b.drop 1)).take i) ∧ MB w.heap.size M1 w' b4 25 [.int .u8 0, .string ⟨#[]⟩, .int .i64 0, .slice none 0 0] ∧ MB w.heap.size M1 w' b7 25 [.int .u8 t.op, .string t.name, .int .i64 t.n, wv] ∧ At M1 w' b2 0 [.int .u8 t.op, .string t.name, .int .i64 t.n, kv] ∧ (∀ x, (wv : Value).ownBlock = some x → x ≠ b4) ∧ (∀ x, (wv : Value).ownBlock = some x → x ≠ b7) ∧ Sl M1 w' kv t.kids ∧ Sl M1 w' u b ∧ Low M1 w' ∧ (∀ b, M b → M1 b) ∧ Below w.heap.size w w' ∧ w.heap.size ≤ w'.heap.size) (fun i wv M1 => t.kids.length - i) (0) (.slice none 0 0) ((Rw.Add (Rw.Add M b4) b7)) (s7 rfl rfl (gN rfl (by simp [pszs])) rfl rfl rfl rfl) ?_ ?_
    · exact ⟨Nat.zero_le _, own_nil, h4, h7, h2, d_ho_h4, d_ho_h7, hk, hb, Lw, hsub, hE, hB⟩
    rintro i wv M1 w8 ⟨hi, ho, h4, h7, h2, d_ho_h4, d_ho_h7, hk, hb, Lw, hsub, hE, hB⟩
    refine cS (q0 (lP 2 tK rfl ?_))
    refine lC (oD tK (h2.cell 3 _ rfl) rfl rfl rfl rfl rfl ?_)
    refine lC (o_len tK hk rfl rfl rfl rfl rfl ?_)
    refine lP 1 tK rfl (q1 ?_)
    refine cP _ rfl (fun c3 => ?_) (fun c3 => ?_)
    · refine cK (xS (cS (cB (cS ?_))))
      refine a_beg Ext rfl ?_
      intro w9 ew9
      replace ho := ho.Y Lw hB ew9
      replace h4 := h4.Y Lw hB ew9
      replace h7 := h7.Y Lw hB ew9
      replace hE := ew9.bl hE hB
      replace h2 := h2.Y ew9
      replace hk := hk.Y ew9
      replace hb := hb.Y ew9
      replace Lw := Lw.Y ew9
      replace hB := ew9.z hB
      have hS : Ext w9 w9 := ext_refl _
      have D_h4 := h4.box
      have D_h7 := h7.box
      have D_h2 := h2
      have D_hk := hk
      have D_hb := hb
      refine a_p 0 tK rfl rfl rfl rfl (by kernel_rfl) i3 hS ?_
      refine a_ld 1 tK (fun _ hs => (D_h2.Y hs).cell 3 _ rfl) rfl rfl rfl rfl rfl rfl (by kernel_rfl) i3 hS ?_
      refine a_p 2 tK rfl rfl rfl rfl (by kernel_rfl) i3 hS ?_
      have hik : i < t.kids.length := by omega
      have hp1 := psz_get hik
      refine a_ixS 3 tK D_hk (gE hik) rfl rfl rfl rfl rfl rfl rfl rfl rfl rfl (by kernel_rfl) i4 hS ?_
      intro ebx eox eux hyx hX
      obtain ⟨kvx, rfl, opx, nmx, n64x, hkx⟩ := tO hyx
      replace hX : At M1 w9 ebx eox [.int .u8 t.kids[i].op, .string t.kids[i].name, .int .i64 t.kids[i].n, kvx] := hX
      have hp2 := take_psz t.kids i
      refine a_lds 4 tK (fun _ hs j v hv => (hX.Y hs).cell j v hv) rfl rfl rfl rfl rfl rfl rfl (by kernel_rfl) i3 hS ?_
      refine a_p 5 tK rfl rfl rfl rfl (by kernel_rfl) i3 hS ?_
      refine a_p 6 tK rfl rfl rfl rfl (by kernel_rfl) i3 hS ?_
      refine a_p 7 tK rfl rfl rfl rfl (by kernel_rfl) i3 hS ?_
      refine a_len 8 tK hb rfl rfl rfl rfl rfl rfl (by kernel_rfl) i3 hS ?_
      refine a_p 9 tK rfl rfl rfl rfl (by kernel_rfl) i3 hS ?_
      refine a_all [10, 15] (by kernel_rfl) rfl (all_cons (i := 10) rfl ?_ (all_cons (i := 15) rfl ?_ all_nil))
      · refine o_slt tK hb rfl rfl (j := min (1 + pszs (t.kids.take i)) b.length) (by split <;> omega) (by omega) rfl rfl rfl rfl rfl rfl ?_
        intro bv2 hb2
        replace hb2 : Sl M1 w9 bv2 (b.drop (1 + pszs (t.kids.take i))) := by
          by_cases h : 1 + pszs (t.kids.take i) ≤ b.length
          · rwa [Nat.min_eq_left h] at hb2
          · rw [Nat.min_eq_right (by omega)] at hb2
            rwa [List.drop_eq_nil_of_le (show b.length ≤ 1 + pszs (t.kids.take i) by omega), ← List.drop_eq_nil_of_le (lR b.length)]
        rw [← List.drop_drop] at hb2
        refine ⟨hS, ?_⟩
        refine a_all [11, 15] (by kernel_rfl) rfl (all_cons (i := 11) rfl ?_ (all_cons (i := 15) rfl ?_ all_nil))
        · refine oK fo55 rfl rfl rfl (ih _ (gM hik) _ _ _ _ _ hyx hb2 Lw (by omega)) ?_
          rintro _ w10 ⟨⟨vc, rfl, hc⟩, ew10⟩
          replace hS := hS.then ew10
          replace ho := ho.Y Lw hB ew10
          replace h4 := h4.Y Lw hB ew10
          replace h7 := h7.Y Lw hB ew10
          replace hE := ew10.bl hE hB
          replace h2 := h2.Y ew10
          replace hk := hk.Y ew10
          replace hb := hb.Y ew10
          replace hyx := Rep.Y hyx ew10
          replace hkx := hkx.Y ew10
          replace hX := hX.Y ew10
          replace hb2 := hb2.Y ew10
          replace Lw := Lw.Y ew10
          replace hB := ew10.z hB
          refine ⟨hS, ?_⟩
          obtain ⟨kvc, rfl, opc, nmc, n64c, hkc⟩ := tO hc
          refine a_p 12 tK rfl rfl rfl rfl (by kernel_rfl) i3 hS ?_
          refine a_p 13 tK rfl rfl rfl rfl (by kernel_rfl) i3 hS ?_
          refine a_p 14 tK rfl rfl rfl rfl (by kernel_rfl) i3 hS ?_
          refine a_one 15 rfl (by kernel_rfl) (o_new tK rfl rfl rfl ?_)
          intro b10 w11 qb10 ew11 hb10
          have gS_b10 := Nat.le_trans hS.size (lQ qb10.symm)
          replace hS := hS.then ew11
          have ne_h4_h10 : b4 ≠ b10 := by have := h4.lt; omega
          have ne_h7_h10 : b7 ≠ b10 := by have := h7.lt; omega
          have d_ho_h10 : ∀ x, (wv : Value).ownBlock = some x → x ≠ b10 := fun x hx => by have := (ho.lt x hx).2; omega
          have sw11 := Stp.add ew11 Lw hB (lQ qb10.symm) hb10.lt
          have h10 : MB w.heap.size (Rw.Add M1 b10) w11 b10 25 [.int .u8 0, .string ⟨#[]⟩, .int .i64 0, .slice none 0 0] := MB.mk' hb10 qb10 hB
          replace ho := ho.sp sw11 (fun x hx => ew11.block x (ho.lt x hx).2)
          replace h4 := h4.sp sw11 (ew11.block b4 h4.lt)
          replace h7 := h7.sp sw11 (ew11.block b7 h7.lt)
          replace hE := hE.trans sw11.below
          replace h2 := h2.sp sw11
          replace hk := hk.sp sw11
          replace hb := hb.sp sw11
          replace hyx := Rep.sp hyx sw11
          replace hkx := hkx.sp sw11
          replace hX := hX.sp sw11
          replace hc := Rep.sp hc sw11
          replace hsub := sw11.sb hsub
          replace Lw := sw11.low
          replace hB := sw11.z hB
          refine ⟨hS, ?_⟩
          refine a_one 16 rfl (by kernel_rfl) (o_st tK h10.box rfl rfl rfl rfl (Rep.one hc) rfl rfl ?_)
          intro w12 hw12 qw12 bew12
          have uw12 : UpdB _ _ _ := ⟨qw12, bew12⟩
          have sw12 := uw12.sp h10.inM Lw h10.ge
          have frw12 := qw12.2
          replace hS := Below.trans hS (bew12 _ gS_b10)
          replace ho := ho.sp sw12 (fun x hx => frw12 x (ho.lt x hx).2 (d_ho_h10 x hx))
          replace h4 := h4.sp sw12 (frw12 b4 h4.lt ne_h4_h10)
          replace h7 := h7.sp sw12 (frw12 b7 h7.lt ne_h7_h10)
          replace hE := hE.trans sw12.below
          replace h2 := h2.sp sw12
          replace hk := hk.sp sw12
          replace hb := hb.sp sw12
          replace hyx := Rep.sp hyx sw12
          replace hkx := hkx.sp sw12
          replace hX := hX.sp sw12
          replace hc := Rep.sp hc sw12
          replace hsub := sw12.sb hsub
          replace Lw := sw12.low
          replace hB := sw12.z hB
          refine ⟨hS, ?_⟩
          replace h10 : MB w.heap.size _ w12 b10 _ [.int .u8 (loosF t.kids[i] ((b.drop 1).drop (pszs (t.kids.take i)))).op, .string (loosF t.kids[i] ((b.drop 1).drop (pszs (t.kids.take i)))).name, .int .i64 (loosF t.kids[i] ((b.drop 1).drop (pszs (t.kids.take i)))).n, kvc] := ⟨hw12, h10.inM, h10.ge⟩
          refine a_p 17 tK rfl rfl rfl rfl (by kernel_rfl) i3 hS ?_
          refine a_end (by kernel_rfl) ?_
          refine xS (q0 (lP 1 tK rfl ?_))
          refine lC (oD tK (h7.cell 3 _ rfl) rfl rfl rfl rfl rfl ?_)
          refine lC (oL tK (fun j v hv => h10.cell j v hv) rfl rfl rfl rfl rfl rfl ?_)
          refine lC (o_bs tK rfl rfl rfl rfl rfl rfl rfl (sz1 (Rep.size hc)) rfl rfl rfl ?_)
          intro bw13 w13 qbw13 ew13 hbw13
          have nbw13 := nO Lw qbw13
          replace ho := ho.Y Lw hB ew13
          replace h4 := h4.Y Lw hB ew13
          replace h7 := h7.Y Lw hB ew13
          replace h10 := h10.Y Lw hB ew13
          replace hE := ew13.bl hE hB
          replace h2 := h2.Y ew13
          replace hk := hk.Y ew13
          replace hb := hb.Y ew13
          replace hyx := Rep.Y hyx ew13
          replace hkx := hkx.Y ew13
          replace hX := hX.Y ew13
          replace hc := Rep.Y hc ew13
          replace Lw := Lw.Y ew13
          replace hB := ew13.z hB
          refine lC (o_app1 tK ho hbw13 nbw13 hc Lw hB rfl rfl rfl rfl rfl rfl rfl (by rw [List.length_take, loosK_len]; omega) (by show (_ + _) * 56 ≤ _; rw [List.length_take, loosK_len]; omega) rfl rfl ?_)
          intro vw14 w14 Mw14 hw14 sw14 frw14 blw14
          have zd_ho_h4 := d_ho_h4
          replace d_ho_h4 : ∀ x, (vw14 : Value).ownBlock = some x → x ≠ b4 := fun x hx => (blw14 x hx).elim (d_ho_h4 x) (fun h e => by have := h4.lt; omega)
          have zd_ho_h7 := d_ho_h7
          replace d_ho_h7 : ∀ x, (vw14 : Value).ownBlock = some x → x ≠ b7 := fun x hx => (blw14 x hx).elim (d_ho_h7 x) (fun h e => by have := h7.lt; omega)
          have zd_ho_h10 := d_ho_h10
          replace d_ho_h10 : ∀ x, (vw14 : Value).ownBlock = some x → x ≠ b10 := fun x hx => (blw14 x hx).elim (d_ho_h10 x) (fun h e => by have := h10.lt; omega)
          replace h4 := h4.sp sw14 (frw14 b4 h4.lt (fun e => zd_ho_h4 _ e.symm rfl))
          replace h7 := h7.sp sw14 (frw14 b7 h7.lt (fun e => zd_ho_h7 _ e.symm rfl))
          replace h10 := h10.sp sw14 (frw14 b10 h10.lt (fun e => zd_ho_h10 _ e.symm rfl))
          replace hE := hE.trans sw14.below
          replace h2 := h2.sp sw14
          replace hk := hk.sp sw14
          replace hb := hb.sp sw14
          replace hyx := Rep.sp hyx sw14
          replace hkx := hkx.sp sw14
          replace hX := hX.sp sw14
          replace hc := Rep.sp hc sw14
          replace hsub := sw14.sb hsub
          replace Lw := sw14.low
          replace hB := sw14.z hB
          replace ho := hw14
          clear hw14
          refine lP 1 tK rfl ?_
          obtain ⟨av6, cv6, rfl, _⟩ := ho.val
          refine lC (o_st tK h7.box rfl rfl rfl rfl (by simp [Value.cells, Value.oneCell']) rfl rfl ?_)
          intro w15 hw15 qw15 bew15
          have uw15 : UpdB _ _ _ := ⟨qw15, bew15⟩
          have sw15 := uw15.sp h7.inM Lw h7.ge
          have frw15 := qw15.2
          replace ho := ho.sp sw15 (fun x hx => frw15 x (ho.lt x hx).2 (d_ho_h7 x hx))
          replace h4 := h4.sp sw15 (frw15 b4 h4.lt ne_h4_h7)
          replace h10 := h10.sp sw15 (frw15 b10 h10.lt ne_h7_h10.symm)
          replace hE := hE.trans sw15.below
          replace h2 := h2.sp sw15
          replace hk := hk.sp sw15
          replace hb := hb.sp sw15
          replace hyx := Rep.sp hyx sw15
          replace hkx := hkx.sp sw15
          replace hX := hX.sp sw15
          replace hc := Rep.sp hc sw15
          replace hsub := sw15.sb hsub
          replace Lw := sw15.low
          replace hB := sw15.z hB
          replace h7 : MB w.heap.size _ w15 b7 _ [.int .u8 t.op, .string t.name, .int .i64 t.n, (.slice av6 ((loosK t.kids (b.drop 1)).take i ++ [loosF t.kids[i] ((b.drop 1).drop (pszs (t.kids.take i)))]).length cv6)] := ⟨hw15, h7.inM, h7.ge⟩
          refine q1 (cG (lP 2 tK rfl ?_))
          refine lC (o_ai rfl rfl rfl (by omega) rfl rfl ?_)
          refine lP 1 tK rfl (q2 (xS (cG (lP 1 tK rfl ?_))))
          refine lC (o_ai rfl rfl rfl (by omega) rfl rfl ?_)
          refine lP 1 tK rfl (lN ?_)
          exact x_round3 (i + 1) ((.slice av6 ((loosK t.kids (b.drop 1)).take i ++ [loosF t.kids[i] ((b.drop 1).drop (pszs (t.kids.take i)))]).length cv6)) (Mw14) (s7 rfl rfl (gN rfl (by rw [pszs_take hik]; omega)) rfl rfl rfl (gN rfl (by omega))) ⟨by omega, by rw [take_loosK hik]; exact ho, h4, h7, h2, d_ho_h4, d_ho_h7, hk, hb, Lw, hsub, hE, hB⟩ (by omega)
        refine o_new tK rfl rfl rfl ?_
        intro b10 w16 qb10 ew16 hb10
        have gS_b10 := Nat.le_trans hS.size (lQ qb10.symm)
        replace hS := hS.then ew16
        have ne_h4_h10 : b4 ≠ b10 := by have := h4.lt; omega
        have ne_h7_h10 : b7 ≠ b10 := by have := h7.lt; omega
        have d_ho_h10 : ∀ x, (wv : Value).ownBlock = some x → x ≠ b10 := fun x hx => by have := (ho.lt x hx).2; omega
        have sw16 := Stp.add ew16 Lw hB (lQ qb10.symm) hb10.lt
        have h10 : MB w.heap.size (Rw.Add M1 b10) w16 b10 25 [.int .u8 0, .string ⟨#[]⟩, .int .i64 0, .slice none 0 0] := MB.mk' hb10 qb10 hB
        replace ho := ho.sp sw16 (fun x hx => ew16.block x (ho.lt x hx).2)
        replace h4 := h4.sp sw16 (ew16.block b4 h4.lt)
        replace h7 := h7.sp sw16 (ew16.block b7 h7.lt)
        replace hE := hE.trans sw16.below
        replace h2 := h2.sp sw16
        replace hk := hk.sp sw16
        replace hb := hb.sp sw16
        replace hyx := Rep.sp hyx sw16
        replace hkx := hkx.sp sw16
        replace hX := hX.sp sw16
        replace hb2 := hb2.sp sw16
        replace hsub := sw16.sb hsub
        replace Lw := sw16.low
        replace hB := sw16.z hB
        refine ⟨hS, ?_⟩
        refine a_one 11 rfl (by kernel_rfl) (oK fo55 rfl rfl rfl (ih _ (gM hik) _ _ _ _ _ hyx hb2 Lw (by omega)) ?_)
        rintro _ w17 ⟨⟨vc, rfl, hc⟩, ew17⟩
        replace hS := hS.then ew17
        replace ho := ho.Y Lw hB ew17
        replace h4 := h4.Y Lw hB ew17
        replace h7 := h7.Y Lw hB ew17
        replace h10 := h10.Y Lw hB ew17
        replace hE := ew17.bl hE hB
        replace h2 := h2.Y ew17
        replace hk := hk.Y ew17
        replace hb := hb.Y ew17
        replace hyx := Rep.Y hyx ew17
        replace hkx := hkx.Y ew17
        replace hX := hX.Y ew17
        replace hb2 := hb2.Y ew17
        replace Lw := Lw.Y ew17
        replace hB := ew17.z hB
        refine ⟨hS, ?_⟩
        obtain ⟨kvc, rfl, opc, nmc, n64c, hkc⟩ := tO hc
        refine a_p 12 tK rfl rfl rfl rfl (by kernel_rfl) i3 hS ?_
        refine a_p 13 tK rfl rfl rfl rfl (by kernel_rfl) i3 hS ?_
        refine a_p 14 tK rfl rfl rfl rfl (by kernel_rfl) i3 hS ?_
        refine a_one 16 rfl (by kernel_rfl) (o_st tK h10.box rfl rfl rfl rfl (Rep.one hc) rfl rfl ?_)
        intro w18 hw18 qw18 bew18
        have uw18 : UpdB _ _ _ := ⟨qw18, bew18⟩
        have sw18 := uw18.sp h10.inM Lw h10.ge
        have frw18 := qw18.2
        replace hS := Below.trans hS (bew18 _ gS_b10)
        replace ho := ho.sp sw18 (fun x hx => frw18 x (ho.lt x hx).2 (d_ho_h10 x hx))
        replace h4 := h4.sp sw18 (frw18 b4 h4.lt ne_h4_h10)
        replace h7 := h7.sp sw18 (frw18 b7 h7.lt ne_h7_h10)
        replace hE := hE.trans sw18.below
        replace h2 := h2.sp sw18
        replace hk := hk.sp sw18
        replace hb := hb.sp sw18
        replace hyx := Rep.sp hyx sw18
        replace hkx := hkx.sp sw18
        replace hX := hX.sp sw18
        replace hc := Rep.sp hc sw18
        replace hsub := sw18.sb hsub
        replace Lw := sw18.low
        replace hB := sw18.z hB
        refine ⟨hS, ?_⟩
        replace h10 : MB w.heap.size _ w18 b10 _ [.int .u8 (loosF t.kids[i] ((b.drop 1).drop (pszs (t.kids.take i)))).op, .string (loosF t.kids[i] ((b.drop 1).drop (pszs (t.kids.take i)))).name, .int .i64 (loosF t.kids[i] ((b.drop 1).drop (pszs (t.kids.take i)))).n, kvc] := ⟨hw18, h10.inM, h10.ge⟩
        refine a_p 17 tK rfl rfl rfl rfl (by kernel_rfl) i3 hS ?_
        refine a_end (by kernel_rfl) ?_
        refine xS (q0 (lP 1 tK rfl ?_))
        refine lC (oD tK (h7.cell 3 _ rfl) rfl rfl rfl rfl rfl ?_)
        refine lC (oL tK (fun j v hv => h10.cell j v hv) rfl rfl rfl rfl rfl rfl ?_)
        refine lC (o_bs tK rfl rfl rfl rfl rfl rfl rfl (sz1 (Rep.size hc)) rfl rfl rfl ?_)
        intro bw19 w19 qbw19 ew19 hbw19
        have nbw19 := nO Lw qbw19
        replace ho := ho.Y Lw hB ew19
        replace h4 := h4.Y Lw hB ew19
        replace h7 := h7.Y Lw hB ew19
        replace h10 := h10.Y Lw hB ew19
        replace hE := ew19.bl hE hB
        replace h2 := h2.Y ew19
        replace hk := hk.Y ew19
        replace hb := hb.Y ew19
        replace hyx := Rep.Y hyx ew19
        replace hkx := hkx.Y ew19
        replace hX := hX.Y ew19
        replace hc := Rep.Y hc ew19
        replace Lw := Lw.Y ew19
        replace hB := ew19.z hB
        refine lC (o_app1 tK ho hbw19 nbw19 hc Lw hB rfl rfl rfl rfl rfl rfl rfl (by rw [List.length_take, loosK_len]; omega) (by show (_ + _) * 56 ≤ _; rw [List.length_take, loosK_len]; omega) rfl rfl ?_)
        intro vw20 w20 Mw20 hw20 sw20 frw20 blw20
        have zd_ho_h4 := d_ho_h4
        replace d_ho_h4 : ∀ x, (vw20 : Value).ownBlock = some x → x ≠ b4 := fun x hx => (blw20 x hx).elim (d_ho_h4 x) (fun h e => by have := h4.lt; omega)
        have zd_ho_h7 := d_ho_h7
        replace d_ho_h7 : ∀ x, (vw20 : Value).ownBlock = some x → x ≠ b7 := fun x hx => (blw20 x hx).elim (d_ho_h7 x) (fun h e => by have := h7.lt; omega)
        have zd_ho_h10 := d_ho_h10
        replace d_ho_h10 : ∀ x, (vw20 : Value).ownBlock = some x → x ≠ b10 := fun x hx => (blw20 x hx).elim (d_ho_h10 x) (fun h e => by have := h10.lt; omega)
        replace h4 := h4.sp sw20 (frw20 b4 h4.lt (fun e => zd_ho_h4 _ e.symm rfl))
        replace h7 := h7.sp sw20 (frw20 b7 h7.lt (fun e => zd_ho_h7 _ e.symm rfl))
        replace h10 := h10.sp sw20 (frw20 b10 h10.lt (fun e => zd_ho_h10 _ e.symm rfl))
        replace hE := hE.trans sw20.below
        replace h2 := h2.sp sw20
        replace hk := hk.sp sw20
        replace hb := hb.sp sw20
        replace hyx := Rep.sp hyx sw20
        replace hkx := hkx.sp sw20
        replace hX := hX.sp sw20
        replace hc := Rep.sp hc sw20
        replace hsub := sw20.sb hsub
        replace Lw := sw20.low
        replace hB := sw20.z hB
        replace ho := hw20
        clear hw20
        refine lP 1 tK rfl ?_
        obtain ⟨av6, cv6, rfl, _⟩ := ho.val
        refine lC (o_st tK h7.box rfl rfl rfl rfl (by simp [Value.cells, Value.oneCell']) rfl rfl ?_)
        intro w21 hw21 qw21 bew21
        have uw21 : UpdB _ _ _ := ⟨qw21, bew21⟩
        have sw21 := uw21.sp h7.inM Lw h7.ge
        have frw21 := qw21.2
        replace ho := ho.sp sw21 (fun x hx => frw21 x (ho.lt x hx).2 (d_ho_h7 x hx))
        replace h4 := h4.sp sw21 (frw21 b4 h4.lt ne_h4_h7)
        replace h10 := h10.sp sw21 (frw21 b10 h10.lt ne_h7_h10.symm)
        replace hE := hE.trans sw21.below
        replace h2 := h2.sp sw21
        replace hk := hk.sp sw21
        replace hb := hb.sp sw21
        replace hyx := Rep.sp hyx sw21
        replace hkx := hkx.sp sw21
        replace hX := hX.sp sw21
        replace hc := Rep.sp hc sw21
        replace hsub := sw21.sb hsub
        replace Lw := sw21.low
        replace hB := sw21.z hB
        replace h7 : MB w.heap.size _ w21 b7 _ [.int .u8 t.op, .string t.name, .int .i64 t.n, (.slice av6 ((loosK t.kids (b.drop 1)).take i ++ [loosF t.kids[i] ((b.drop 1).drop (pszs (t.kids.take i)))]).length cv6)] := ⟨hw21, h7.inM, h7.ge⟩
        refine q1 (cG (lP 2 tK rfl ?_))
        refine lC (o_ai rfl rfl rfl (by omega) rfl rfl ?_)
        refine lP 1 tK rfl (q2 (xS (cG (lP 1 tK rfl ?_))))
        refine lC (o_ai rfl rfl rfl (by omega) rfl rfl ?_)
        refine lP 1 tK rfl (lN ?_)
        exact x_round3 (i + 1) ((.slice av6 ((loosK t.kids (b.drop 1)).take i ++ [loosF t.kids[i] ((b.drop 1).drop (pszs (t.kids.take i)))]).length cv6)) (Mw20) (s7 rfl rfl (gN rfl (by rw [pszs_take hik]; omega)) rfl rfl rfl (gN rfl (by omega))) ⟨by omega, by rw [take_loosK hik]; exact ho, h4, h7, h2, d_ho_h4, d_ho_h7, hk, hb, Lw, hsub, hE, hB⟩ (by omega)
      refine o_new tK rfl rfl rfl ?_
      intro b10 w22 qb10 ew22 hb10
      have gS_b10 := Nat.le_trans hS.size (lQ qb10.symm)
      replace hS := hS.then ew22
      have ne_h4_h10 : b4 ≠ b10 := by have := h4.lt; omega
      have ne_h7_h10 : b7 ≠ b10 := by have := h7.lt; omega
      have d_ho_h10 : ∀ x, (wv : Value).ownBlock = some x → x ≠ b10 := fun x hx => by have := (ho.lt x hx).2; omega
      have sw22 := Stp.add ew22 Lw hB (lQ qb10.symm) hb10.lt
      have h10 : MB w.heap.size (Rw.Add M1 b10) w22 b10 25 [.int .u8 0, .string ⟨#[]⟩, .int .i64 0, .slice none 0 0] := MB.mk' hb10 qb10 hB
      replace ho := ho.sp sw22 (fun x hx => ew22.block x (ho.lt x hx).2)
      replace h4 := h4.sp sw22 (ew22.block b4 h4.lt)
      replace h7 := h7.sp sw22 (ew22.block b7 h7.lt)
      replace hE := hE.trans sw22.below
      replace h2 := h2.sp sw22
      replace hk := hk.sp sw22
      replace hb := hb.sp sw22
      replace hyx := Rep.sp hyx sw22
      replace hkx := hkx.sp sw22
      replace hX := hX.sp sw22
      replace hsub := sw22.sb hsub
      replace Lw := sw22.low
      replace hB := sw22.z hB
      refine ⟨hS, ?_⟩
      refine a_one 10 rfl (by kernel_rfl) (o_slt tK hb rfl rfl (j := min (1 + pszs (t.kids.take i)) b.length) (by split <;> omega) (by omega) rfl rfl rfl rfl rfl rfl ?_)
      intro bv2 hb2
      replace hb2 : Sl (Rw.Add M1 b10) w22 bv2 (b.drop (1 + pszs (t.kids.take i))) := by
        by_cases h : 1 + pszs (t.kids.take i) ≤ b.length
        · rwa [Nat.min_eq_left h] at hb2
        · rw [Nat.min_eq_right (by omega)] at hb2
          rwa [List.drop_eq_nil_of_le (show b.length ≤ 1 + pszs (t.kids.take i) by omega), ← List.drop_eq_nil_of_le (lR b.length)]
      rw [← List.drop_drop] at hb2
      refine ⟨hS, ?_⟩
      refine a_one 11 rfl (by kernel_rfl) (oK fo55 rfl rfl rfl (ih _ (gM hik) _ _ _ _ _ hyx hb2 Lw (by omega)) ?_)
      rintro _ w23 ⟨⟨vc, rfl, hc⟩, ew23⟩
      replace hS := hS.then ew23
      replace ho := ho.Y Lw hB ew23
      replace h4 := h4.Y Lw hB ew23
      replace h7 := h7.Y Lw hB ew23
      replace h10 := h10.Y Lw hB ew23
      replace hE := ew23.bl hE hB
      replace h2 := h2.Y ew23
      replace hk := hk.Y ew23
      replace hb := hb.Y ew23
      replace hyx := Rep.Y hyx ew23
      replace hkx := hkx.Y ew23
      replace hX := hX.Y ew23
      replace hb2 := hb2.Y ew23
      replace Lw := Lw.Y ew23
      replace hB := ew23.z hB
      refine ⟨hS, ?_⟩
      obtain ⟨kvc, rfl, opc, nmc, n64c, hkc⟩ := tO hc
      refine a_p 12 tK rfl rfl rfl rfl (by kernel_rfl) i3 hS ?_
      refine a_p 13 tK rfl rfl rfl rfl (by kernel_rfl) i3 hS ?_
      refine a_p 14 tK rfl rfl rfl rfl (by kernel_rfl) i3 hS ?_
      refine a_one 16 rfl (by kernel_rfl) (o_st tK h10.box rfl rfl rfl rfl (Rep.one hc) rfl rfl ?_)
      intro w24 hw24 qw24 bew24
      have uw24 : UpdB _ _ _ := ⟨qw24, bew24⟩
      have sw24 := uw24.sp h10.inM Lw h10.ge
      have frw24 := qw24.2
      replace hS := Below.trans hS (bew24 _ gS_b10)
      replace ho := ho.sp sw24 (fun x hx => frw24 x (ho.lt x hx).2 (d_ho_h10 x hx))
      replace h4 := h4.sp sw24 (frw24 b4 h4.lt ne_h4_h10)
      replace h7 := h7.sp sw24 (frw24 b7 h7.lt ne_h7_h10)
      replace hE := hE.trans sw24.below
      replace h2 := h2.sp sw24
      replace hk := hk.sp sw24
      replace hb := hb.sp sw24
      replace hyx := Rep.sp hyx sw24
      replace hkx := hkx.sp sw24
      replace hX := hX.sp sw24
      replace hc := Rep.sp hc sw24
      replace hsub := sw24.sb hsub
      replace Lw := sw24.low
      replace hB := sw24.z hB
      refine ⟨hS, ?_⟩
      replace h10 : MB w.heap.size _ w24 b10 _ [.int .u8 (loosF t.kids[i] ((b.drop 1).drop (pszs (t.kids.take i)))).op, .string (loosF t.kids[i] ((b.drop 1).drop (pszs (t.kids.take i)))).name, .int .i64 (loosF t.kids[i] ((b.drop 1).drop (pszs (t.kids.take i)))).n, kvc] := ⟨hw24, h10.inM, h10.ge⟩
      refine a_p 17 tK rfl rfl rfl rfl (by kernel_rfl) i3 hS ?_
      refine a_end (by kernel_rfl) ?_
      refine xS (q0 (lP 1 tK rfl ?_))
      refine lC (oD tK (h7.cell 3 _ rfl) rfl rfl rfl rfl rfl ?_)
      refine lC (oL tK (fun j v hv => h10.cell j v hv) rfl rfl rfl rfl rfl rfl ?_)
      refine lC (o_bs tK rfl rfl rfl rfl rfl rfl rfl (sz1 (Rep.size hc)) rfl rfl rfl ?_)
      intro bw25 w25 qbw25 ew25 hbw25
      have nbw25 := nO Lw qbw25
      replace ho := ho.Y Lw hB ew25
      replace h4 := h4.Y Lw hB ew25
      replace h7 := h7.Y Lw hB ew25
      replace h10 := h10.Y Lw hB ew25
      replace hE := ew25.bl hE hB
      replace h2 := h2.Y ew25
      replace hk := hk.Y ew25
      replace hb := hb.Y ew25
      replace hyx := Rep.Y hyx ew25
      replace hkx := hkx.Y ew25
      replace hX := hX.Y ew25
      replace hc := Rep.Y hc ew25
      replace Lw := Lw.Y ew25
      replace hB := ew25.z hB
      refine lC (o_app1 tK ho hbw25 nbw25 hc Lw hB rfl rfl rfl rfl rfl rfl rfl (by rw [List.length_take, loosK_len]; omega) (by show (_ + _) * 56 ≤ _; rw [List.length_take, loosK_len]; omega) rfl rfl ?_)
      intro vw26 w26 Mw26 hw26 sw26 frw26 blw26
      have zd_ho_h4 := d_ho_h4
      replace d_ho_h4 : ∀ x, (vw26 : Value).ownBlock = some x → x ≠ b4 := fun x hx => (blw26 x hx).elim (d_ho_h4 x) (fun h e => by have := h4.lt; omega)
      have zd_ho_h7 := d_ho_h7
      replace d_ho_h7 : ∀ x, (vw26 : Value).ownBlock = some x → x ≠ b7 := fun x hx => (blw26 x hx).elim (d_ho_h7 x) (fun h e => by have := h7.lt; omega)
      have zd_ho_h10 := d_ho_h10
      replace d_ho_h10 : ∀ x, (vw26 : Value).ownBlock = some x → x ≠ b10 := fun x hx => (blw26 x hx).elim (d_ho_h10 x) (fun h e => by have := h10.lt; omega)
      replace h4 := h4.sp sw26 (frw26 b4 h4.lt (fun e => zd_ho_h4 _ e.symm rfl))
      replace h7 := h7.sp sw26 (frw26 b7 h7.lt (fun e => zd_ho_h7 _ e.symm rfl))
      replace h10 := h10.sp sw26 (frw26 b10 h10.lt (fun e => zd_ho_h10 _ e.symm rfl))
      replace hE := hE.trans sw26.below
      replace h2 := h2.sp sw26
      replace hk := hk.sp sw26
      replace hb := hb.sp sw26
      replace hyx := Rep.sp hyx sw26
      replace hkx := hkx.sp sw26
      replace hX := hX.sp sw26
      replace hc := Rep.sp hc sw26
      replace hsub := sw26.sb hsub
      replace Lw := sw26.low
      replace hB := sw26.z hB
      replace ho := hw26
      clear hw26
      refine lP 1 tK rfl ?_
      obtain ⟨av6, cv6, rfl, _⟩ := ho.val
      refine lC (o_st tK h7.box rfl rfl rfl rfl (by simp [Value.cells, Value.oneCell']) rfl rfl ?_)
      intro w27 hw27 qw27 bew27
      have uw27 : UpdB _ _ _ := ⟨qw27, bew27⟩
      have sw27 := uw27.sp h7.inM Lw h7.ge
      have frw27 := qw27.2
      replace ho := ho.sp sw27 (fun x hx => frw27 x (ho.lt x hx).2 (d_ho_h7 x hx))
      replace h4 := h4.sp sw27 (frw27 b4 h4.lt ne_h4_h7)
      replace h10 := h10.sp sw27 (frw27 b10 h10.lt ne_h7_h10.symm)
      replace hE := hE.trans sw27.below
      replace h2 := h2.sp sw27
      replace hk := hk.sp sw27
      replace hb := hb.sp sw27
      replace hyx := Rep.sp hyx sw27
      replace hkx := hkx.sp sw27
      replace hX := hX.sp sw27
      replace hc := Rep.sp hc sw27
      replace hsub := sw27.sb hsub
      replace Lw := sw27.low
      replace hB := sw27.z hB
      replace h7 : MB w.heap.size _ w27 b7 _ [.int .u8 t.op, .string t.name, .int .i64 t.n, (.slice av6 ((loosK t.kids (b.drop 1)).take i ++ [loosF t.kids[i] ((b.drop 1).drop (pszs (t.kids.take i)))]).length cv6)] := ⟨hw27, h7.inM, h7.ge⟩
      refine q1 (cG (lP 2 tK rfl ?_))
      refine lC (o_ai rfl rfl rfl (by omega) rfl rfl ?_)
      refine lP 1 tK rfl (q2 (xS (cG (lP 1 tK rfl ?_))))
      refine lC (o_ai rfl rfl rfl (by omega) rfl rfl ?_)
      refine lP 1 tK rfl (lN ?_)
      exact x_round3 (i + 1) ((.slice av6 ((loosK t.kids (b.drop 1)).take i ++ [loosF t.kids[i] ((b.drop 1).drop (pszs (t.kids.take i)))]).length cv6)) (Mw26) (s7 rfl rfl (gN rfl (by rw [pszs_take hik]; omega)) rfl rfl rfl (gN rfl (by omega))) ⟨by omega, by rw [take_loosK hik]; exact ho, h4, h7, h2, d_ho_h4, d_ho_h7, hk, hb, Lw, hsub, hE, hB⟩ (by omega)
    refine c_exit (xE (xE (x_blkE (xS (q0 ?_)))))
    refine lC (oL tK (fun j v hv => h7.cell j v hv) rfl rfl rfl rfl rfl rfl ?_)
    refine lP 1 tK rfl ?_
    obtain rfl : i = t.kids.length := by omega
    rw [List.take_of_length_le (lQ (loosK_len _ _))] at ho
    obtain ⟨av, cv, rfl, hcv⟩ := ho.val
    have hml : (loosK t.kids (b.drop 1)).length = t.kids.length := loosK_len _ _
    refine lC (o_st tK h4.box rfl rfl rfl rfl (by intro u hu; simp [Value.cells] at hu; rcases hu with rfl | rfl | rfl | rfl <;> rfl) rfl rfl ?_)
    intro w28 hw28 qw28 bew28
    have uw28 : UpdB _ _ _ := ⟨qw28, bew28⟩
    have sw28 := uw28.sp h4.inM Lw h4.ge
    have frw28 := qw28.2
    replace ho := ho.sp sw28 (fun x hx => frw28 x (ho.lt x hx).2 (d_ho_h4 x hx))
    replace h7 := h7.sp sw28 (frw28 b7 h7.lt ne_h4_h7.symm)
    replace hE := hE.trans sw28.below
    replace h2 := h2.sp sw28
    replace hk := hk.sp sw28
    replace hb := hb.sp sw28
    replace hsub := sw28.sb hsub
    replace Lw := sw28.low
    replace hB := sw28.z hB
    replace h4 : MB w.heap.size _ w28 b4 _ [.int .u8 t.op, .string t.name, .int .i64 t.n, .slice av (loosK t.kids (b.drop 1)).length cv] := ⟨hw28, h4.inM, h4.ge⟩
    refine lP 1 tK rfl (q1 (cR ?_))
    refine x_ret2st tK (fun j v hv => h4.cell j v hv) rfl rfl rfl rfl rfl rfl ?_
    have hfin := ty_mk op nm n64 (ho.sl (by omega) hlow0 hsub)
    rw [← loos_even hod] at hfin
    exact ⟨⟨_, rfl, hfin⟩, hE⟩
  have hod : oddH b = false := odd_nil (by omega)
  refine lP 6 tK rfl (q1 (c_ifF rfl (cK (xS (q0 (lP 1 tK rfl ?_))))))
  refine lC (oD tK (h2.cell 0 _ rfl) rfl rfl rfl rfl rfl ?_)
  refine lP 1 tK rfl ?_
  refine lC (oD tK (h2.cell 1 _ rfl) rfl rfl rfl rfl rfl ?_)
  refine lP 1 tK rfl ?_
  refine lC (oD tK (h2.cell 2 _ rfl) rfl rfl rfl rfl rfl ?_)
  refine lC (o_build (cells := [.int .u8 t.op, .string t.name, .int .i64 t.n, .slice none 0 0]) (css := [[.int .u8 t.op], [.string t.name], [.int .i64 t.n]]) bd25 rfl rfl rfl rfl rfl ?_)
  refine lC (o_new tK rfl rfl rfl ?_)
  intro b7 w29 qb7 ew29 hb7
  have ne_h4_h7 : b4 ≠ b7 := by have := h4.lt; omega
  have sw29 := Stp.add ew29 Lw hB (lQ qb7.symm) hb7.lt
  have h7 : MB w.heap.size (Rw.Add (Rw.Add M b4) b7) w29 b7 25 [.int .u8 0, .string ⟨#[]⟩, .int .i64 0, .slice none 0 0] := MB.mk' hb7 qb7 hB
  replace h4 := h4.sp sw29 (ew29.block b4 h4.lt)
  replace hE := hE.trans sw29.below
  replace ht := Rep.sp ht sw29
  replace hk := hk.sp sw29
  replace hb := hb.sp sw29
  replace h2 := h2.sp sw29
  replace hp := hp.sp sw29
  replace hsub := sw29.sb hsub
  replace Lw := sw29.low
  replace hB := sw29.z hB
  refine lC (o_st tK h7.box rfl rfl rfl rfl (by intro u hu; simp [Value.cells] at hu; rcases hu with rfl | rfl | rfl | rfl <;> rfl) rfl rfl ?_)
  intro w30 hw30 qw30 bew30
  have uw30 : UpdB _ _ _ := ⟨qw30, bew30⟩
  have sw30 := uw30.sp h7.inM Lw h7.ge
  have frw30 := qw30.2
  replace h4 := h4.sp sw30 (frw30 b4 h4.lt ne_h4_h7)
  replace hE := hE.trans sw30.below
  replace ht := Rep.sp ht sw30
  replace hk := hk.sp sw30
  replace hb := hb.sp sw30
  replace h2 := h2.sp sw30
  replace hp := hp.sp sw30
  replace hsub := sw30.sb hsub
  replace Lw := sw30.low
  replace hB := sw30.z hB
  replace h7 : MB w.heap.size _ w30 b7 _ [.int .u8 t.op, .string t.name, .int .i64 t.n, .slice none 0 0] := ⟨hw30, h7.inM, h7.ge⟩
  refine q1 (q0 (lP 1 tK rfl (q1 (cS (q0 (lP 1 tK rfl (q1 (cB ?_))))))))
  have d_ho_h4 : ∀ x, (.slice none 0 0 : Value).ownBlock = some x → x ≠ b4 := fun x hx => by simp [Value.ownBlock] at hx
  have d_ho_h7 : ∀ x, (.slice none 0 0 : Value).ownBlock = some x → x ≠ b7 := fun x hx => by simp [Value.ownBlock] at hx
  refine c_loop3 (X := Nat) (Y := Value) (Z := Nat → Prop) (fun i wv M1 => [(1, u), (6, .int .i64 ((psz t : Nat) : Int)), (8, .int .i64 ((1 + pszs (t.kids.take i) : Nat) : Int)), (2, .pointer (some ⟨b2, 0, none⟩)), (4, .pointer (some ⟨b4, 0, none⟩)), (7, .pointer (some ⟨b7, 0, none⟩)), (9, .int .i64 (i : Nat))]) (fun i wv M1 w' => i ≤ t.kids.length ∧ OwnSl 25 w.heap.size M1 w' wv ((loosK t.kids (b.drop 1)).take i) ∧ MB w.heap.size M1 w' b4 25 [.int .u8 0, .string ⟨#[]⟩, .int .i64 0, .slice none 0 0] ∧ MB w.heap.size M1 w' b7 25 [.int .u8 t.op, .string t.name, .int .i64 t.n, wv] ∧ At M1 w' b2 0 [.int .u8 t.op, .string t.name, .int .i64 t.n, kv] ∧ (∀ x, (wv : Value).ownBlock = some x → x ≠ b4) ∧ (∀ x, (wv : Value).ownBlock = some x → x ≠ b7) ∧ Sl M1 w' kv t.kids ∧ Sl M1 w' u b ∧ Low M1 w' ∧ (∀ b, M b → M1 b) ∧ Below w.heap.size w w' ∧ w.heap.size ≤ w'.heap.size) (fun i wv M1 => t.kids.length - i) (0) (.slice none 0 0) ((Rw.Add (Rw.Add M b4) b7)) (s7 rfl rfl (gN rfl (by simp [pszs])) rfl rfl rfl rfl) ?_ ?_
  · exact ⟨Nat.zero_le _, own_nil, h4, h7, h2, d_ho_h4, d_ho_h7, hk, hb, Lw, hsub, hE, hB⟩
  rintro i wv M1 w31 ⟨hi, ho, h4, h7, h2, d_ho_h4, d_ho_h7, hk, hb, Lw, hsub, hE, hB⟩
  refine cS (q0 (lP 2 tK rfl ?_))
  refine lC (oD tK (h2.cell 3 _ rfl) rfl rfl rfl rfl rfl ?_)
  refine lC (o_len tK hk rfl rfl rfl rfl rfl ?_)
  refine lP 1 tK rfl (q1 ?_)
  refine cP _ rfl (fun c4 => ?_) (fun c4 => ?_)
  · refine cK (xS (cS (cB (cS ?_))))
    refine a_beg Ext rfl ?_
    intro w32 ew32
    replace ho := ho.Y Lw hB ew32
    replace h4 := h4.Y Lw hB ew32
    replace h7 := h7.Y Lw hB ew32
    replace hE := ew32.bl hE hB
    replace h2 := h2.Y ew32
    replace hk := hk.Y ew32
    replace hb := hb.Y ew32
    replace Lw := Lw.Y ew32
    replace hB := ew32.z hB
    have hS : Ext w32 w32 := ext_refl _
    have D_h4 := h4.box
    have D_h7 := h7.box
    have D_h2 := h2
    have D_hk := hk
    have D_hb := hb
    refine a_p 0 tK rfl rfl rfl rfl (by kernel_rfl) i3 hS ?_
    refine a_ld 1 tK (fun _ hs => (D_h2.Y hs).cell 3 _ rfl) rfl rfl rfl rfl rfl rfl (by kernel_rfl) i3 hS ?_
    refine a_p 2 tK rfl rfl rfl rfl (by kernel_rfl) i3 hS ?_
    have hik : i < t.kids.length := by omega
    have hp1 := psz_get hik
    refine a_ixS 3 tK D_hk (gE hik) rfl rfl rfl rfl rfl rfl rfl rfl rfl rfl (by kernel_rfl) i4 hS ?_
    intro ebx eox eux hyx hX
    obtain ⟨kvx, rfl, opx, nmx, n64x, hkx⟩ := tO hyx
    replace hX : At M1 w32 ebx eox [.int .u8 t.kids[i].op, .string t.kids[i].name, .int .i64 t.kids[i].n, kvx] := hX
    have hp2 := take_psz t.kids i
    refine a_lds 4 tK (fun _ hs j v hv => (hX.Y hs).cell j v hv) rfl rfl rfl rfl rfl rfl rfl (by kernel_rfl) i3 hS ?_
    refine a_p 5 tK rfl rfl rfl rfl (by kernel_rfl) i3 hS ?_
    refine a_p 6 tK rfl rfl rfl rfl (by kernel_rfl) i3 hS ?_
    refine a_p 7 tK rfl rfl rfl rfl (by kernel_rfl) i3 hS ?_
    refine a_len 8 tK hb rfl rfl rfl rfl rfl rfl (by kernel_rfl) i3 hS ?_
    refine a_p 9 tK rfl rfl rfl rfl (by kernel_rfl) i3 hS ?_
    refine a_all [10, 15] (by kernel_rfl) rfl (all_cons (i := 10) rfl ?_ (all_cons (i := 15) rfl ?_ all_nil))
    · refine o_slt tK hb rfl rfl (j := min (1 + pszs (t.kids.take i)) b.length) (by split <;> omega) (by omega) rfl rfl rfl rfl rfl rfl ?_
      intro bv2 hb2
      replace hb2 : Sl M1 w32 bv2 (b.drop (1 + pszs (t.kids.take i))) := by
        by_cases h : 1 + pszs (t.kids.take i) ≤ b.length
        · rwa [Nat.min_eq_left h] at hb2
        · rw [Nat.min_eq_right (by omega)] at hb2
          rwa [List.drop_eq_nil_of_le (show b.length ≤ 1 + pszs (t.kids.take i) by omega), ← List.drop_eq_nil_of_le (lR b.length)]
      rw [← List.drop_drop] at hb2
      refine ⟨hS, ?_⟩
      refine a_all [11, 15] (by kernel_rfl) rfl (all_cons (i := 11) rfl ?_ (all_cons (i := 15) rfl ?_ all_nil))
      · refine oK fo55 rfl rfl rfl (ih _ (gM hik) _ _ _ _ _ hyx hb2 Lw (by omega)) ?_
        rintro _ w33 ⟨⟨vc, rfl, hc⟩, ew33⟩
        replace hS := hS.then ew33
        replace ho := ho.Y Lw hB ew33
        replace h4 := h4.Y Lw hB ew33
        replace h7 := h7.Y Lw hB ew33
        replace hE := ew33.bl hE hB
        replace h2 := h2.Y ew33
        replace hk := hk.Y ew33
        replace hb := hb.Y ew33
        replace hyx := Rep.Y hyx ew33
        replace hkx := hkx.Y ew33
        replace hX := hX.Y ew33
        replace hb2 := hb2.Y ew33
        replace Lw := Lw.Y ew33
        replace hB := ew33.z hB
        refine ⟨hS, ?_⟩
        obtain ⟨kvc, rfl, opc, nmc, n64c, hkc⟩ := tO hc
        refine a_p 12 tK rfl rfl rfl rfl (by kernel_rfl) i3 hS ?_
        refine a_p 13 tK rfl rfl rfl rfl (by kernel_rfl) i3 hS ?_
        refine a_p 14 tK rfl rfl rfl rfl (by kernel_rfl) i3 hS ?_
        refine a_one 15 rfl (by kernel_rfl) (o_new tK rfl rfl rfl ?_)
        intro b10 w34 qb10 ew34 hb10
        have gS_b10 := Nat.le_trans hS.size (lQ qb10.symm)
        replace hS := hS.then ew34
        have ne_h4_h10 : b4 ≠ b10 := by have := h4.lt; omega
        have ne_h7_h10 : b7 ≠ b10 := by have := h7.lt; omega
        have d_ho_h10 : ∀ x, (wv : Value).ownBlock = some x → x ≠ b10 := fun x hx => by have := (ho.lt x hx).2; omega
        have sw34 := Stp.add ew34 Lw hB (lQ qb10.symm) hb10.lt
        have h10 : MB w.heap.size (Rw.Add M1 b10) w34 b10 25 [.int .u8 0, .string ⟨#[]⟩, .int .i64 0, .slice none 0 0] := MB.mk' hb10 qb10 hB
        replace ho := ho.sp sw34 (fun x hx => ew34.block x (ho.lt x hx).2)
        replace h4 := h4.sp sw34 (ew34.block b4 h4.lt)
        replace h7 := h7.sp sw34 (ew34.block b7 h7.lt)
        replace hE := hE.trans sw34.below
        replace h2 := h2.sp sw34
        replace hk := hk.sp sw34
        replace hb := hb.sp sw34
        replace hyx := Rep.sp hyx sw34
        replace hkx := hkx.sp sw34
        replace hX := hX.sp sw34
        replace hc := Rep.sp hc sw34
        replace hsub := sw34.sb hsub
        replace Lw := sw34.low
        replace hB := sw34.z hB
        refine ⟨hS, ?_⟩
        refine a_one 16 rfl (by kernel_rfl) (o_st tK h10.box rfl rfl rfl rfl (Rep.one hc) rfl rfl ?_)
        intro w35 hw35 qw35 bew35
        have uw35 : UpdB _ _ _ := ⟨qw35, bew35⟩
        have sw35 := uw35.sp h10.inM Lw h10.ge
        have frw35 := qw35.2
        replace hS := Below.trans hS (bew35 _ gS_b10)
        replace ho := ho.sp sw35 (fun x hx => frw35 x (ho.lt x hx).2 (d_ho_h10 x hx))
        replace h4 := h4.sp sw35 (frw35 b4 h4.lt ne_h4_h10)
        replace h7 := h7.sp sw35 (frw35 b7 h7.lt ne_h7_h10)
        replace hE := hE.trans sw35.below
        replace h2 := h2.sp sw35
        replace hk := hk.sp sw35
        replace hb := hb.sp sw35
        replace hyx := Rep.sp hyx sw35
        replace hkx := hkx.sp sw35
        replace hX := hX.sp sw35
        replace hc := Rep.sp hc sw35
        replace hsub := sw35.sb hsub
        replace Lw := sw35.low
        replace hB := sw35.z hB
        refine ⟨hS, ?_⟩
        replace h10 : MB w.heap.size _ w35 b10 _ [.int .u8 (loosF t.kids[i] ((b.drop 1).drop (pszs (t.kids.take i)))).op, .string (loosF t.kids[i] ((b.drop 1).drop (pszs (t.kids.take i)))).name, .int .i64 (loosF t.kids[i] ((b.drop 1).drop (pszs (t.kids.take i)))).n, kvc] := ⟨hw35, h10.inM, h10.ge⟩
        refine a_p 17 tK rfl rfl rfl rfl (by kernel_rfl) i3 hS ?_
        refine a_end (by kernel_rfl) ?_
        refine xS (q0 (lP 1 tK rfl ?_))
        refine lC (oD tK (h7.cell 3 _ rfl) rfl rfl rfl rfl rfl ?_)
        refine lC (oL tK (fun j v hv => h10.cell j v hv) rfl rfl rfl rfl rfl rfl ?_)
        refine lC (o_bs tK rfl rfl rfl rfl rfl rfl rfl (sz1 (Rep.size hc)) rfl rfl rfl ?_)
        intro bw36 w36 qbw36 ew36 hbw36
        have nbw36 := nO Lw qbw36
        replace ho := ho.Y Lw hB ew36
        replace h4 := h4.Y Lw hB ew36
        replace h7 := h7.Y Lw hB ew36
        replace h10 := h10.Y Lw hB ew36
        replace hE := ew36.bl hE hB
        replace h2 := h2.Y ew36
        replace hk := hk.Y ew36
        replace hb := hb.Y ew36
        replace hyx := Rep.Y hyx ew36
        replace hkx := hkx.Y ew36
        replace hX := hX.Y ew36
        replace hc := Rep.Y hc ew36
        replace Lw := Lw.Y ew36
        replace hB := ew36.z hB
        refine lC (o_app1 tK ho hbw36 nbw36 hc Lw hB rfl rfl rfl rfl rfl rfl rfl (by rw [List.length_take, loosK_len]; omega) (by show (_ + _) * 56 ≤ _; rw [List.length_take, loosK_len]; omega) rfl rfl ?_)
        intro vw37 w37 Mw37 hw37 sw37 frw37 blw37
        have zd_ho_h4 := d_ho_h4
        replace d_ho_h4 : ∀ x, (vw37 : Value).ownBlock = some x → x ≠ b4 := fun x hx => (blw37 x hx).elim (d_ho_h4 x) (fun h e => by have := h4.lt; omega)
        have zd_ho_h7 := d_ho_h7
        replace d_ho_h7 : ∀ x, (vw37 : Value).ownBlock = some x → x ≠ b7 := fun x hx => (blw37 x hx).elim (d_ho_h7 x) (fun h e => by have := h7.lt; omega)
        have zd_ho_h10 := d_ho_h10
        replace d_ho_h10 : ∀ x, (vw37 : Value).ownBlock = some x → x ≠ b10 := fun x hx => (blw37 x hx).elim (d_ho_h10 x) (fun h e => by have := h10.lt; omega)
        replace h4 := h4.sp sw37 (frw37 b4 h4.lt (fun e => zd_ho_h4 _ e.symm rfl))
        replace h7 := h7.sp sw37 (frw37 b7 h7.lt (fun e => zd_ho_h7 _ e.symm rfl))
        replace h10 := h10.sp sw37 (frw37 b10 h10.lt (fun e => zd_ho_h10 _ e.symm rfl))
        replace hE := hE.trans sw37.below
        replace h2 := h2.sp sw37
        replace hk := hk.sp sw37
        replace hb := hb.sp sw37
        replace hyx := Rep.sp hyx sw37
        replace hkx := hkx.sp sw37
        replace hX := hX.sp sw37
        replace hc := Rep.sp hc sw37
        replace hsub := sw37.sb hsub
        replace Lw := sw37.low
        replace hB := sw37.z hB
        replace ho := hw37
        clear hw37
        refine lP 1 tK rfl ?_
        obtain ⟨av6, cv6, rfl, _⟩ := ho.val
        refine lC (o_st tK h7.box rfl rfl rfl rfl (by simp [Value.cells, Value.oneCell']) rfl rfl ?_)
        intro w38 hw38 qw38 bew38
        have uw38 : UpdB _ _ _ := ⟨qw38, bew38⟩
        have sw38 := uw38.sp h7.inM Lw h7.ge
        have frw38 := qw38.2
        replace ho := ho.sp sw38 (fun x hx => frw38 x (ho.lt x hx).2 (d_ho_h7 x hx))
        replace h4 := h4.sp sw38 (frw38 b4 h4.lt ne_h4_h7)
        replace h10 := h10.sp sw38 (frw38 b10 h10.lt ne_h7_h10.symm)
        replace hE := hE.trans sw38.below
        replace h2 := h2.sp sw38
        replace hk := hk.sp sw38
        replace hb := hb.sp sw38
        replace hyx := Rep.sp hyx sw38
        replace hkx := hkx.sp sw38
        replace hX := hX.sp sw38
        replace hc := Rep.sp hc sw38
        replace hsub := sw38.sb hsub
        replace Lw := sw38.low
        replace hB := sw38.z hB
        replace h7 : MB w.heap.size _ w38 b7 _ [.int .u8 t.op, .string t.name, .int .i64 t.n, (.slice av6 ((loosK t.kids (b.drop 1)).take i ++ [loosF t.kids[i] ((b.drop 1).drop (pszs (t.kids.take i)))]).length cv6)] := ⟨hw38, h7.inM, h7.ge⟩
        refine q1 (cG (lP 2 tK rfl ?_))
        refine lC (o_ai rfl rfl rfl (by omega) rfl rfl ?_)
        refine lP 1 tK rfl (q2 (xS (cG (lP 1 tK rfl ?_))))
        refine lC (o_ai rfl rfl rfl (by omega) rfl rfl ?_)
        refine lP 1 tK rfl (lN ?_)
        exact x_round3 (i + 1) ((.slice av6 ((loosK t.kids (b.drop 1)).take i ++ [loosF t.kids[i] ((b.drop 1).drop (pszs (t.kids.take i)))]).length cv6)) (Mw37) (s7 rfl rfl (gN rfl (by rw [pszs_take hik]; omega)) rfl rfl rfl (gN rfl (by omega))) ⟨by omega, by rw [take_loosK hik]; exact ho, h4, h7, h2, d_ho_h4, d_ho_h7, hk, hb, Lw, hsub, hE, hB⟩ (by omega)
      refine o_new tK rfl rfl rfl ?_
      intro b10 w39 qb10 ew39 hb10
      have gS_b10 := Nat.le_trans hS.size (lQ qb10.symm)
      replace hS := hS.then ew39
      have ne_h4_h10 : b4 ≠ b10 := by have := h4.lt; omega
      have ne_h7_h10 : b7 ≠ b10 := by have := h7.lt; omega
      have d_ho_h10 : ∀ x, (wv : Value).ownBlock = some x → x ≠ b10 := fun x hx => by have := (ho.lt x hx).2; omega
      have sw39 := Stp.add ew39 Lw hB (lQ qb10.symm) hb10.lt
      have h10 : MB w.heap.size (Rw.Add M1 b10) w39 b10 25 [.int .u8 0, .string ⟨#[]⟩, .int .i64 0, .slice none 0 0] := MB.mk' hb10 qb10 hB
      replace ho := ho.sp sw39 (fun x hx => ew39.block x (ho.lt x hx).2)
      replace h4 := h4.sp sw39 (ew39.block b4 h4.lt)
      replace h7 := h7.sp sw39 (ew39.block b7 h7.lt)
      replace hE := hE.trans sw39.below
      replace h2 := h2.sp sw39
      replace hk := hk.sp sw39
      replace hb := hb.sp sw39
      replace hyx := Rep.sp hyx sw39
      replace hkx := hkx.sp sw39
      replace hX := hX.sp sw39
      replace hb2 := hb2.sp sw39
      replace hsub := sw39.sb hsub
      replace Lw := sw39.low
      replace hB := sw39.z hB
      refine ⟨hS, ?_⟩
      refine a_one 11 rfl (by kernel_rfl) (oK fo55 rfl rfl rfl (ih _ (gM hik) _ _ _ _ _ hyx hb2 Lw (by omega)) ?_)
      rintro _ w40 ⟨⟨vc, rfl, hc⟩, ew40⟩
      replace hS := hS.then ew40
      replace ho := ho.Y Lw hB ew40
      replace h4 := h4.Y Lw hB ew40
      replace h7 := h7.Y Lw hB ew40
      replace h10 := h10.Y Lw hB ew40
      replace hE := ew40.bl hE hB
      replace h2 := h2.Y ew40
      replace hk := hk.Y ew40
      replace hb := hb.Y ew40
      replace hyx := Rep.Y hyx ew40
      replace hkx := hkx.Y ew40
      replace hX := hX.Y ew40
      replace hb2 := hb2.Y ew40
      replace Lw := Lw.Y ew40
      replace hB := ew40.z hB
      refine ⟨hS, ?_⟩
      obtain ⟨kvc, rfl, opc, nmc, n64c, hkc⟩ := tO hc
      refine a_p 12 tK rfl rfl rfl rfl (by kernel_rfl) i3 hS ?_
      refine a_p 13 tK rfl rfl rfl rfl (by kernel_rfl) i3 hS ?_
      refine a_p 14 tK rfl rfl rfl rfl (by kernel_rfl) i3 hS ?_
      refine a_one 16 rfl (by kernel_rfl) (o_st tK h10.box rfl rfl rfl rfl (Rep.one hc) rfl rfl ?_)
      intro w41 hw41 qw41 bew41
      have uw41 : UpdB _ _ _ := ⟨qw41, bew41⟩
      have sw41 := uw41.sp h10.inM Lw h10.ge
      have frw41 := qw41.2
      replace hS := Below.trans hS (bew41 _ gS_b10)
      replace ho := ho.sp sw41 (fun x hx => frw41 x (ho.lt x hx).2 (d_ho_h10 x hx))
      replace h4 := h4.sp sw41 (frw41 b4 h4.lt ne_h4_h10)
      replace h7 := h7.sp sw41 (frw41 b7 h7.lt ne_h7_h10)
      replace hE := hE.trans sw41.below
      replace h2 := h2.sp sw41
      replace hk := hk.sp sw41
      replace hb := hb.sp sw41
      replace hyx := Rep.sp hyx sw41
      replace hkx := hkx.sp sw41
      replace hX := hX.sp sw41
      replace hc := Rep.sp hc sw41
      replace hsub := sw41.sb hsub
      replace Lw := sw41.low
      replace hB := sw41.z hB
      refine ⟨hS, ?_⟩
      replace h10 : MB w.heap.size _ w41 b10 _ [.int .u8 (loosF t.kids[i] ((b.drop 1).drop (pszs (t.kids.take i)))).op, .string (loosF t.kids[i] ((b.drop 1).drop (pszs (t.kids.take i)))).name, .int .i64 (loosF t.kids[i] ((b.drop 1).drop (pszs (t.kids.take i)))).n, kvc] := ⟨hw41, h10.inM, h10.ge⟩
      refine a_p 17 tK rfl rfl rfl rfl (by kernel_rfl) i3 hS ?_
      refine a_end (by kernel_rfl) ?_
      refine xS (q0 (lP 1 tK rfl ?_))
      refine lC (oD tK (h7.cell 3 _ rfl) rfl rfl rfl rfl rfl ?_)
      refine lC (oL tK (fun j v hv => h10.cell j v hv) rfl rfl rfl rfl rfl rfl ?_)
      refine lC (o_bs tK rfl rfl rfl rfl rfl rfl rfl (sz1 (Rep.size hc)) rfl rfl rfl ?_)
      intro bw42 w42 qbw42 ew42 hbw42
      have nbw42 := nO Lw qbw42
      replace ho := ho.Y Lw hB ew42
      replace h4 := h4.Y Lw hB ew42
      replace h7 := h7.Y Lw hB ew42
      replace h10 := h10.Y Lw hB ew42
      replace hE := ew42.bl hE hB
      replace h2 := h2.Y ew42
      replace hk := hk.Y ew42
      replace hb := hb.Y ew42
      replace hyx := Rep.Y hyx ew42
      replace hkx := hkx.Y ew42
      replace hX := hX.Y ew42
      replace hc := Rep.Y hc ew42
      replace Lw := Lw.Y ew42
      replace hB := ew42.z hB
      refine lC (o_app1 tK ho hbw42 nbw42 hc Lw hB rfl rfl rfl rfl rfl rfl rfl (by rw [List.length_take, loosK_len]; omega) (by show (_ + _) * 56 ≤ _; rw [List.length_take, loosK_len]; omega) rfl rfl ?_)
      intro vw43 w43 Mw43 hw43 sw43 frw43 blw43
      have zd_ho_h4 := d_ho_h4
      replace d_ho_h4 : ∀ x, (vw43 : Value).ownBlock = some x → x ≠ b4 := fun x hx => (blw43 x hx).elim (d_ho_h4 x) (fun h e => by have := h4.lt; omega)
      have zd_ho_h7 := d_ho_h7
      replace d_ho_h7 : ∀ x, (vw43 : Value).ownBlock = some x → x ≠ b7 := fun x hx => (blw43 x hx).elim (d_ho_h7 x) (fun h e => by have := h7.lt; omega)
      have zd_ho_h10 := d_ho_h10
      replace d_ho_h10 : ∀ x, (vw43 : Value).ownBlock = some x → x ≠ b10 := fun x hx => (blw43 x hx).elim (d_ho_h10 x) (fun h e => by have := h10.lt; omega)
      replace h4 := h4.sp sw43 (frw43 b4 h4.lt (fun e => zd_ho_h4 _ e.symm rfl))
      replace h7 := h7.sp sw43 (frw43 b7 h7.lt (fun e => zd_ho_h7 _ e.symm rfl))
      replace h10 := h10.sp sw43 (frw43 b10 h10.lt (fun e => zd_ho_h10 _ e.symm rfl))
      replace hE := hE.trans sw43.below
      replace h2 := h2.sp sw43
      replace hk := hk.sp sw43
      replace hb := hb.sp sw43
      replace hyx := Rep.sp hyx sw43
      replace hkx := hkx.sp sw43
      replace hX := hX.sp sw43
      replace hc := Rep.sp hc sw43
      replace hsub := sw43.sb hsub
      replace Lw := sw43.low
      replace hB := sw43.z hB
      replace ho := hw43
      clear hw43
      refine lP 1 tK rfl ?_
      obtain ⟨av6, cv6, rfl, _⟩ := ho.val
      refine lC (o_st tK h7.box rfl rfl rfl rfl (by simp [Value.cells, Value.oneCell']) rfl rfl ?_)
      intro w44 hw44 qw44 bew44
      have uw44 : UpdB _ _ _ := ⟨qw44, bew44⟩
      have sw44 := uw44.sp h7.inM Lw h7.ge
      have frw44 := qw44.2
      replace ho := ho.sp sw44 (fun x hx => frw44 x (ho.lt x hx).2 (d_ho_h7 x hx))
      replace h4 := h4.sp sw44 (frw44 b4 h4.lt ne_h4_h7)
      replace h10 := h10.sp sw44 (frw44 b10 h10.lt ne_h7_h10.symm)
      replace hE := hE.trans sw44.below
      replace h2 := h2.sp sw44
      replace hk := hk.sp sw44
      replace hb := hb.sp sw44
      replace hyx := Rep.sp hyx sw44
      replace hkx := hkx.sp sw44
      replace hX := hX.sp sw44
      replace hc := Rep.sp hc sw44
      replace hsub := sw44.sb hsub
      replace Lw := sw44.low
      replace hB := sw44.z hB
      replace h7 : MB w.heap.size _ w44 b7 _ [.int .u8 t.op, .string t.name, .int .i64 t.n, (.slice av6 ((loosK t.kids (b.drop 1)).take i ++ [loosF t.kids[i] ((b.drop 1).drop (pszs (t.kids.take i)))]).length cv6)] := ⟨hw44, h7.inM, h7.ge⟩
      refine q1 (cG (lP 2 tK rfl ?_))
      refine lC (o_ai rfl rfl rfl (by omega) rfl rfl ?_)
      refine lP 1 tK rfl (q2 (xS (cG (lP 1 tK rfl ?_))))
      refine lC (o_ai rfl rfl rfl (by omega) rfl rfl ?_)
      refine lP 1 tK rfl (lN ?_)
      exact x_round3 (i + 1) ((.slice av6 ((loosK t.kids (b.drop 1)).take i ++ [loosF t.kids[i] ((b.drop 1).drop (pszs (t.kids.take i)))]).length cv6)) (Mw43) (s7 rfl rfl (gN rfl (by rw [pszs_take hik]; omega)) rfl rfl rfl (gN rfl (by omega))) ⟨by omega, by rw [take_loosK hik]; exact ho, h4, h7, h2, d_ho_h4, d_ho_h7, hk, hb, Lw, hsub, hE, hB⟩ (by omega)
    refine o_new tK rfl rfl rfl ?_
    intro b10 w45 qb10 ew45 hb10
    have gS_b10 := Nat.le_trans hS.size (lQ qb10.symm)
    replace hS := hS.then ew45
    have ne_h4_h10 : b4 ≠ b10 := by have := h4.lt; omega
    have ne_h7_h10 : b7 ≠ b10 := by have := h7.lt; omega
    have d_ho_h10 : ∀ x, (wv : Value).ownBlock = some x → x ≠ b10 := fun x hx => by have := (ho.lt x hx).2; omega
    have sw45 := Stp.add ew45 Lw hB (lQ qb10.symm) hb10.lt
    have h10 : MB w.heap.size (Rw.Add M1 b10) w45 b10 25 [.int .u8 0, .string ⟨#[]⟩, .int .i64 0, .slice none 0 0] := MB.mk' hb10 qb10 hB
    replace ho := ho.sp sw45 (fun x hx => ew45.block x (ho.lt x hx).2)
    replace h4 := h4.sp sw45 (ew45.block b4 h4.lt)
    replace h7 := h7.sp sw45 (ew45.block b7 h7.lt)
    replace hE := hE.trans sw45.below
    replace h2 := h2.sp sw45
    replace hk := hk.sp sw45
    replace hb := hb.sp sw45
    replace hyx := Rep.sp hyx sw45
    replace hkx := hkx.sp sw45
    replace hX := hX.sp sw45
    replace hsub := sw45.sb hsub
    replace Lw := sw45.low
    replace hB := sw45.z hB
    refine ⟨hS, ?_⟩
    refine a_one 10 rfl (by kernel_rfl) (o_slt tK hb rfl rfl (j := min (1 + pszs (t.kids.take i)) b.length) (by split <;> omega) (by omega) rfl rfl rfl rfl rfl rfl ?_)
    intro bv2 hb2
    replace hb2 : Sl (Rw.Add M1 b10) w45 bv2 (b.drop (1 + pszs (t.kids.take i))) := by
      by_cases h : 1 + pszs (t.kids.take i) ≤ b.length
      · rwa [Nat.min_eq_left h] at hb2
      · rw [Nat.min_eq_right (by omega)] at hb2
        rwa [List.drop_eq_nil_of_le (show b.length ≤ 1 + pszs (t.kids.take i) by omega), ← List.drop_eq_nil_of_le (lR b.length)]
    rw [← List.drop_drop] at hb2
    refine ⟨hS, ?_⟩
    refine a_one 11 rfl (by kernel_rfl) (oK fo55 rfl rfl rfl (ih _ (gM hik) _ _ _ _ _ hyx hb2 Lw (by omega)) ?_)
    rintro _ w46 ⟨⟨vc, rfl, hc⟩, ew46⟩
    replace hS := hS.then ew46
    replace ho := ho.Y Lw hB ew46
    replace h4 := h4.Y Lw hB ew46
    replace h7 := h7.Y Lw hB ew46
    replace h10 := h10.Y Lw hB ew46
    replace hE := ew46.bl hE hB
    replace h2 := h2.Y ew46
    replace hk := hk.Y ew46
    replace hb := hb.Y ew46
    replace hyx := Rep.Y hyx ew46
    replace hkx := hkx.Y ew46
    replace hX := hX.Y ew46
    replace hb2 := hb2.Y ew46
    replace Lw := Lw.Y ew46
    replace hB := ew46.z hB
    refine ⟨hS, ?_⟩
    obtain ⟨kvc, rfl, opc, nmc, n64c, hkc⟩ := tO hc
    refine a_p 12 tK rfl rfl rfl rfl (by kernel_rfl) i3 hS ?_
    refine a_p 13 tK rfl rfl rfl rfl (by kernel_rfl) i3 hS ?_
    refine a_p 14 tK rfl rfl rfl rfl (by kernel_rfl) i3 hS ?_
    refine a_one 16 rfl (by kernel_rfl) (o_st tK h10.box rfl rfl rfl rfl (Rep.one hc) rfl rfl ?_)
    intro w47 hw47 qw47 bew47
    have uw47 : UpdB _ _ _ := ⟨qw47, bew47⟩
    have sw47 := uw47.sp h10.inM Lw h10.ge
    have frw47 := qw47.2
    replace hS := Below.trans hS (bew47 _ gS_b10)
    replace ho := ho.sp sw47 (fun x hx => frw47 x (ho.lt x hx).2 (d_ho_h10 x hx))
    replace h4 := h4.sp sw47 (frw47 b4 h4.lt ne_h4_h10)
    replace h7 := h7.sp sw47 (frw47 b7 h7.lt ne_h7_h10)
    replace hE := hE.trans sw47.below
    replace h2 := h2.sp sw47
    replace hk := hk.sp sw47
    replace hb := hb.sp sw47
    replace hyx := Rep.sp hyx sw47
    replace hkx := hkx.sp sw47
    replace hX := hX.sp sw47
    replace hc := Rep.sp hc sw47
    replace hsub := sw47.sb hsub
    replace Lw := sw47.low
    replace hB := sw47.z hB
    refine ⟨hS, ?_⟩
    replace h10 : MB w.heap.size _ w47 b10 _ [.int .u8 (loosF t.kids[i] ((b.drop 1).drop (pszs (t.kids.take i)))).op, .string (loosF t.kids[i] ((b.drop 1).drop (pszs (t.kids.take i)))).name, .int .i64 (loosF t.kids[i] ((b.drop 1).drop (pszs (t.kids.take i)))).n, kvc] := ⟨hw47, h10.inM, h10.ge⟩
    refine a_p 17 tK rfl rfl rfl rfl (by kernel_rfl) i3 hS ?_
    refine a_end (by kernel_rfl) ?_
    refine xS (q0 (lP 1 tK rfl ?_))
    refine lC (oD tK (h7.cell 3 _ rfl) rfl rfl rfl rfl rfl ?_)
    refine lC (oL tK (fun j v hv => h10.cell j v hv) rfl rfl rfl rfl rfl rfl ?_)
    refine lC (o_bs tK rfl rfl rfl rfl rfl rfl rfl (sz1 (Rep.size hc)) rfl rfl rfl ?_)
    intro bw48 w48 qbw48 ew48 hbw48
    have nbw48 := nO Lw qbw48
    replace ho := ho.Y Lw hB ew48
    replace h4 := h4.Y Lw hB ew48
    replace h7 := h7.Y Lw hB ew48
    replace h10 := h10.Y Lw hB ew48
    replace hE := ew48.bl hE hB
    replace h2 := h2.Y ew48
    replace hk := hk.Y ew48
    replace hb := hb.Y ew48
    replace hyx := Rep.Y hyx ew48
    replace hkx := hkx.Y ew48
    replace hX := hX.Y ew48
    replace hc := Rep.Y hc ew48
    replace Lw := Lw.Y ew48
    replace hB := ew48.z hB
    refine lC (o_app1 tK ho hbw48 nbw48 hc Lw hB rfl rfl rfl rfl rfl rfl rfl (by rw [List.length_take, loosK_len]; omega) (by show (_ + _) * 56 ≤ _; rw [List.length_take, loosK_len]; omega) rfl rfl ?_)
    intro vw49 w49 Mw49 hw49 sw49 frw49 blw49
    have zd_ho_h4 := d_ho_h4
    replace d_ho_h4 : ∀ x, (vw49 : Value).ownBlock = some x → x ≠ b4 := fun x hx => (blw49 x hx).elim (d_ho_h4 x) (fun h e => by have := h4.lt; omega)
    have zd_ho_h7 := d_ho_h7
    replace d_ho_h7 : ∀ x, (vw49 : Value).ownBlock = some x → x ≠ b7 := fun x hx => (blw49 x hx).elim (d_ho_h7 x) (fun h e => by have := h7.lt; omega)
    have zd_ho_h10 := d_ho_h10
    replace d_ho_h10 : ∀ x, (vw49 : Value).ownBlock = some x → x ≠ b10 := fun x hx => (blw49 x hx).elim (d_ho_h10 x) (fun h e => by have := h10.lt; omega)
    replace h4 := h4.sp sw49 (frw49 b4 h4.lt (fun e => zd_ho_h4 _ e.symm rfl))
    replace h7 := h7.sp sw49 (frw49 b7 h7.lt (fun e => zd_ho_h7 _ e.symm rfl))
    replace h10 := h10.sp sw49 (frw49 b10 h10.lt (fun e => zd_ho_h10 _ e.symm rfl))
    replace hE := hE.trans sw49.below
    replace h2 := h2.sp sw49
    replace hk := hk.sp sw49
    replace hb := hb.sp sw49
    replace hyx := Rep.sp hyx sw49
    replace hkx := hkx.sp sw49
    replace hX := hX.sp sw49
    replace hc := Rep.sp hc sw49
    replace hsub := sw49.sb hsub
    replace Lw := sw49.low
    replace hB := sw49.z hB
    replace ho := hw49
    clear hw49
    refine lP 1 tK rfl ?_
    obtain ⟨av6, cv6, rfl, _⟩ := ho.val
    refine lC (o_st tK h7.box rfl rfl rfl rfl (by simp [Value.cells, Value.oneCell']) rfl rfl ?_)
    intro w50 hw50 qw50 bew50
    have uw50 : UpdB _ _ _ := ⟨qw50, bew50⟩
    have sw50 := uw50.sp h7.inM Lw h7.ge
    have frw50 := qw50.2
    replace ho := ho.sp sw50 (fun x hx => frw50 x (ho.lt x hx).2 (d_ho_h7 x hx))
    replace h4 := h4.sp sw50 (frw50 b4 h4.lt ne_h4_h7)
    replace h10 := h10.sp sw50 (frw50 b10 h10.lt ne_h7_h10.symm)
    replace hE := hE.trans sw50.below
    replace h2 := h2.sp sw50
    replace hk := hk.sp sw50
    replace hb := hb.sp sw50
    replace hyx := Rep.sp hyx sw50
    replace hkx := hkx.sp sw50
    replace hX := hX.sp sw50
    replace hc := Rep.sp hc sw50
    replace hsub := sw50.sb hsub
    replace Lw := sw50.low
    replace hB := sw50.z hB
    replace h7 : MB w.heap.size _ w50 b7 _ [.int .u8 t.op, .string t.name, .int .i64 t.n, (.slice av6 ((loosK t.kids (b.drop 1)).take i ++ [loosF t.kids[i] ((b.drop 1).drop (pszs (t.kids.take i)))]).length cv6)] := ⟨hw50, h7.inM, h7.ge⟩
    refine q1 (cG (lP 2 tK rfl ?_))
    refine lC (o_ai rfl rfl rfl (by omega) rfl rfl ?_)
    refine lP 1 tK rfl (q2 (xS (cG (lP 1 tK rfl ?_))))
    refine lC (o_ai rfl rfl rfl (by omega) rfl rfl ?_)
    refine lP 1 tK rfl (lN ?_)
    exact x_round3 (i + 1) ((.slice av6 ((loosK t.kids (b.drop 1)).take i ++ [loosF t.kids[i] ((b.drop 1).drop (pszs (t.kids.take i)))]).length cv6)) (Mw49) (s7 rfl rfl (gN rfl (by rw [pszs_take hik]; omega)) rfl rfl rfl (gN rfl (by omega))) ⟨by omega, by rw [take_loosK hik]; exact ho, h4, h7, h2, d_ho_h4, d_ho_h7, hk, hb, Lw, hsub, hE, hB⟩ (by omega)
  refine c_exit (xE (xE (x_blkE (xS (q0 ?_)))))
  refine lC (oL tK (fun j v hv => h7.cell j v hv) rfl rfl rfl rfl rfl rfl ?_)
  refine lP 1 tK rfl ?_
  obtain rfl : i = t.kids.length := by omega
  rw [List.take_of_length_le (lQ (loosK_len _ _))] at ho
  obtain ⟨av, cv, rfl, hcv⟩ := ho.val
  have hml : (loosK t.kids (b.drop 1)).length = t.kids.length := loosK_len _ _
  refine lC (o_st tK h4.box rfl rfl rfl rfl (by intro u hu; simp [Value.cells] at hu; rcases hu with rfl | rfl | rfl | rfl <;> rfl) rfl rfl ?_)
  intro w51 hw51 qw51 bew51
  have uw51 : UpdB _ _ _ := ⟨qw51, bew51⟩
  have sw51 := uw51.sp h4.inM Lw h4.ge
  have frw51 := qw51.2
  replace ho := ho.sp sw51 (fun x hx => frw51 x (ho.lt x hx).2 (d_ho_h4 x hx))
  replace h7 := h7.sp sw51 (frw51 b7 h7.lt ne_h4_h7.symm)
  replace hE := hE.trans sw51.below
  replace h2 := h2.sp sw51
  replace hk := hk.sp sw51
  replace hb := hb.sp sw51
  replace hsub := sw51.sb hsub
  replace Lw := sw51.low
  replace hB := sw51.z hB
  replace h4 : MB w.heap.size _ w51 b4 _ [.int .u8 t.op, .string t.name, .int .i64 t.n, .slice av (loosK t.kids (b.drop 1)).length cv] := ⟨hw51, h4.inM, h4.ge⟩
  refine lP 1 tK rfl (q1 (cR ?_))
  refine x_ret2st tK (fun j v hv => h4.cell j v hv) rfl rfl rfl rfl rfl rfl ?_
  have hfin := ty_mk op nm n64 (ho.sl (by omega) hlow0 hsub)
  rw [← loos_even hod] at hfin
  exact ⟨⟨_, rfl, hfin⟩, hE⟩
open Go Rw Go.RowKit
set_option maxRecDepth 100000
theorem count_spec (l : List Fld) (s : ByteArray) (M : Nat → Prop) (w : World) (v : Value) (hs : Sl M w v l) (Lw : Low M w) :
  Calls Try.prog 107 #[v, .string s] w (Ret fun r w' => r = .int .i64 (cntN l s : Nat) ∧ Ext w w') := by
 have hE := Below.refl w.heap.size w
 have hB := lR w.heap.size
 have hL := hs.lt
 refine cN (n := 23) Try.func107 rfl rfl rfl ?_
 refine q0 (lP 1 tK rfl (q1 (q0 (lP 1 tK rfl (q1 (cS (q0 (lP 1 tK rfl (q1 (cB ?_))))))))))
 refine c_loop (X := Nat) (fun i => [(0, v), (1, .string s), (5, .int .i64 (cntN (l.take i) s : Nat)), (6, .int .i64 (i : Nat))]) (fun i w' => i ≤ l.length ∧ Sl M w' v l ∧ Low M w' ∧ Below w.heap.size w w' ∧ w.heap.size ≤ w'.heap.size) (fun i => l.length - i) (0) (s4 rfl rfl rfl rfl) ?_ ?_
 ·exact ⟨Nat.zero_le _, hs, Lw, hE, hB⟩
 rintro i w1 ⟨hi, hs, Lw, hE, hB⟩
 refine cS (q0 (lP 2 tK rfl ?_))
 refine lC (o_len tK hs rfl rfl rfl rfl rfl ?_)
 refine lP 1 tK rfl (q1 ?_)
 refine cP _ rfl (fun hc => ?_) (fun hc => ?_)
 ·have hil : i < l.length := by omega
  have hcl := cntN_take_le l i s
  refine cK (xS (cS (cB (q0 (lP 2 tK rfl ?_)))))
  refine lC (o_ixS tK hs (gE hil) rfl rfl rfl rfl rfl rfl rfl rfl rfl ?_)
  intro ebq eoq euq hrq hatq
  obtain ⟨szq, kvq, rfl, hyq⟩ := fld_open hrq
  replace hatq : At _ w1 ebq eoq [.string l[i].name, .int .u8 l[i].ty.op, .string l[i].ty.name, .int .i64 l[i].ty.n, kvq] := hatq
  refine lP 1 tK rfl ?_
  refine lC (oD tK (hatq.cell 0 _ rfl) rfl rfl rfl rfl rfl ?_)
  refine lP 2 tK rfl (q1 ?_)
  refine cP _ rfl (fun hnm => ?_) (fun hnm => ?_)
  ·refine cG (lP 1 tK rfl ?_)
   refine lC (o_ai rfl rfl rfl (by omega) rfl rfl ?_)
   refine lP 1 tK rfl (q2 (xS (cG (lP 1 tK rfl ?_))))
   refine lC (o_ai rfl rfl rfl (by omega) rfl rfl ?_)
   refine lP 1 tK rfl (lN ?_)
   exact x_round (i + 1) (s4 rfl rfl (gN rfl (by rw [cntN_takeY hil hnm]; omega)) (gN rfl (by omega))) ⟨by omega, hs, Lw, hE, hB⟩ (by omega)
  refine cK (x_blk (xS (cG (lP 1 tK rfl ?_))))
  refine lC (o_ai rfl rfl rfl (by omega) rfl rfl ?_)
  refine lP 1 tK rfl (lN ?_)
  exact x_round (i + 1) (s4 rfl rfl (gN rfl (by rw [cntN_takeN hil hnm])) (gN rfl (by omega))) ⟨by omega, hs, Lw, hE, hB⟩ (by omega)
 refine c_exit (xE (xE (x_blkE (xS (q0 (lP 2 tK rfl (q1 (cR (x1_ rfl rfl ?_)))))))))
 obtain rfl : i = l.length := by omega
 rw [List.take_of_length_le (lR _)]
 exact ⟨rfl, hE⟩
theorem nthR_spec (l : List Fld) (s : ByteArray) (n : Nat) (M : Nat → Prop) (w : World) (v : Value) (hn : n ≤ 2000000) (hsr : Srt l) (hs : Sl M w v l) (Lw : Low M w) :
  Calls Try.prog 106 #[v, .string s, .int .i64 (n : Nat)] w (Ret fun r w' => r = .int .i64 (nthZ l s n) ∧ Ext w w') := by
 have hE := Below.refl w.heap.size w
 have hB := lR w.heap.size
 have hL := hs.lt
 refine cN (n := 26) Try.func106 rfl rfl rfl ?_
 refine q0 (lP 1 tK rfl (q1 (cS (q0 (lP 1 tK rfl (q1 (cB ?_)))))))
 refine c_loop (X := Nat) (fun i => [(0, v), (1, .string s), (2, .int .i64 ((n : Int) - (cntN (l.take i) s : Nat))), (7, .int .i64 (i : Nat))]) (fun i w' => i ≤ l.length ∧ cntN (l.take i) s ≤ n ∧ Sl M w' v l ∧ Low M w' ∧ Below w.heap.size w w' ∧ w.heap.size ≤ w'.heap.size) (fun i => l.length - i) (0) (s4 rfl rfl (gN rfl (by show (n : Int) = (n : Int) - ((0 : Nat) : Int); omega)) rfl) ?_ ?_
 ·exact ⟨Nat.zero_le _, Nat.zero_le _, hs, Lw, hE, hB⟩
 rintro i w1 ⟨hi, hcn, hs, Lw, hE, hB⟩
 refine cS (q0 (lP 2 tK rfl ?_))
 refine lC (o_len tK hs rfl rfl rfl rfl rfl ?_)
 refine lP 1 tK rfl (q1 ?_)
 refine cP _ rfl (fun hc => ?_) (fun hc => ?_)
 ·have hil : i < l.length := by omega
  refine cK (xS (cS (cB (q0 (lP 2 tK rfl ?_)))))
  refine lC (o_ixS tK hs (gE hil) rfl rfl rfl rfl rfl rfl rfl rfl rfl ?_)
  intro ebq eoq euq hrq hatq
  obtain ⟨szq, kvq, rfl, hyq⟩ := fld_open hrq
  replace hatq : At _ w1 ebq eoq [.string l[i].name, .int .u8 l[i].ty.op, .string l[i].ty.name, .int .i64 l[i].ty.n, kvq] := hatq
  refine lP 1 tK rfl ?_
  refine lC (oD tK (hatq.cell 0 _ rfl) rfl rfl rfl rfl rfl ?_)
  refine lP 2 tK rfl (q1 ?_)
  refine cP _ rfl (fun hnm => ?_) (fun hnm => ?_)
  ·refine cS (q0 (lP 2 tK rfl (q1 ?_)))
   refine cP _ rfl (fun hz => ?_) (fun hz => ?_)
   ·have e1 := srt_idx hsr hil
    have e2 := cnt_at hil
    rw [hnm] at e1 e2
    refine q0 (lP 2 tK rfl (q1 (cR (xR (xB (xR (xR (xB (xR (x1_ rfl rfl ?_))))))))))
    rw [nthZ_yes (by omega), show lessN l s + n = i by omega]
    exact ⟨rfl, hE⟩
   refine cK (xS (cG (lP 1 tK rfl ?_)))
   refine lC (o_ai rfl rfl rfl (by omega) rfl rfl ?_)
   refine lP 1 tK rfl (q2 (xS (cG (lP 1 tK rfl ?_))))
   refine lC (o_ai rfl rfl rfl (by omega) rfl rfl ?_)
   refine lP 1 tK rfl (lN ?_)
   exact x_round (i + 1) (s4 rfl rfl (gN rfl (by rw [cntN_takeY hil hnm]; omega)) (gN rfl (by omega))) ⟨by omega, by rw [cntN_takeY hil hnm]; omega, hs, Lw, hE, hB⟩ (by omega)
  refine cK (x_blk (xS (cG (lP 1 tK rfl ?_))))
  refine lC (o_ai rfl rfl rfl (by omega) rfl rfl ?_)
  refine lP 1 tK rfl (lN ?_)
  exact x_round (i + 1) (s4 rfl rfl (gN rfl (by rw [cntN_takeN hil hnm])) (gN rfl (by omega))) ⟨by omega, by rw [cntN_takeN hil hnm]; exact hcn, hs, Lw, hE, hB⟩ (by omega)
 refine c_exit (xE (xE (x_blkE (xS (q0 (lP 1 tK rfl (q1 (cR (x1_ rfl rfl ?_)))))))))
 obtain rfl : i = l.length := by omega
 rw [List.take_of_length_le (lR _)] at hcn
 rw [nthZ_no (by omega)]
 exact ⟨rfl, hE⟩
theorem refRows_of (less : Bool) (a b : Ty) (IH : ∀ x y, psz x < psz a → rightB x = true → rightB y = true → psz y ≤ 2000000 → ∀ (M : Nat → Prop) (w : World) (v u : Value), Rep.R M w v x → Rep.R M w u y → Low M w → Calls Try.prog 76 #[v, u, .bool less] w (Ret fun r w' => r = .bool (holdsF less x y) ∧ Ext w w')) (M : Nat → Prop) (w : World) (v u : Value) (hra : rowB a = true) (hrb : rowB b = true) (ha : Rep.R M w v a) (hb : Rep.R M w u b) (Lw : Low M w) (hza : psz a ≤ 2000000) (hzb : psz b ≤ 2000000) :
  Calls Try.prog 77 #[v, u, .bool less] w (Ret fun r w' => r = .bool (rowsF less a b) ∧ Ext w w') := by
 have hE := Below.refl w.heap.size w
 have hB := lR w.heap.size
 obtain ⟨kva, rfl, opa, nma, n64a, hka⟩ := tO ha
 obtain ⟨kvb, rfl, opb, nmb, n64b, hkb⟩ := tO hb
 have hsa := (rowB_of hra).1
 have hsb := (rowB_of hrb).1
 refine cN (n := 129) Try.func77 rfl rfl rfl ?_
 refine q0 ?_
 refine lC (o_box rfl rfl rfl ?_)
 intro b3 w1 hb_b3 ew1 h3
 replace h3 : Box _ b3 25 [.int .u8 a.op, .string a.name, .int .i64 a.n, kva] := h3
 replace h3 := h3.at (nO Lw hb_b3)
 replace hE := ew1.bl hE hB
 replace ha := Rep.Y ha ew1
 replace hka := hka.Y ew1
 replace hb := Rep.Y hb ew1
 replace hkb := hkb.Y ew1
 replace Lw := Lw.Y ew1
 replace hB := ew1.z hB
 refine lC (o_box rfl rfl rfl ?_)
 intro b4 w2 hb_b4 ew2 h4
 replace h4 : Box _ b4 25 [.int .u8 b.op, .string b.name, .int .i64 b.n, kvb] := h4
 replace h4 := h4.at (nO Lw hb_b4)
 replace hE := ew2.bl hE hB
 replace ha := Rep.Y ha ew2
 replace hka := hka.Y ew2
 replace hb := Rep.Y hb ew2
 replace hkb := hkb.Y ew2
 replace h3 := h3.Y ew2
 replace Lw := Lw.Y ew2
 replace hB := ew2.z hB
 refine lP 1 tK rfl (q1 (q0 ?_))
 refine lC (oL tK (fun j v hv => h3.cell j v hv) rfl rfl rfl rfl rfl rfl ?_)
 refine lC (oK fo26 rfl rfl rfl (fields_spec a _ _ _ hsa ha Lw hza) ?_)
 rintro _ w3 ⟨⟨xl, vs, rfl, hfl, hvs⟩, ew3⟩
 rw [show fieldsF (spineF a).1 = (flatF a).1 by rw [flat_yes hra]] at hfl
 rw [show (spineF a).2 = (flatF a).2 by rw [flat_yes hra]] at hvs
 obtain ⟨l, el⟩ : ∃ l, (flatF a).1 = l := ⟨_, rfl⟩
 rw [el] at hfl
 obtain ⟨s, es⟩ : ∃ l, (flatF a).2 = l := ⟨_, rfl⟩
 rw [es] at hvs
 have hsl : Srt l := el ▸ flt_srt a
 have hll : l.length ≤ 2000000 := by have := flt_len a; rw [el] at this; omega
 have hrl : ∀ f ∈ l, rightB f.ty = true ∧ psz f.ty < psz a := fun f hf => ⟨flt_right hra (by rw [el]; exact hf), flt_psz (t := a) (by rw [el]; exact hf)⟩
 replace hE := ew3.bl hE hB
 replace ha := Rep.Y ha ew3
 replace hka := hka.Y ew3
 replace hb := Rep.Y hb ew3
 replace hkb := hkb.Y ew3
 replace h3 := h3.Y ew3
 replace h4 := h4.Y ew3
 replace Lw := Lw.Y ew3
 replace hB := ew3.z hB
 obtain ⟨kvs, rfl, ops, nms, n64s, hks⟩ := tO hvs
 refine lP 3 tK rfl ?_
 refine lC (o_new tK rfl rfl rfl ?_)
 intro b8 w4 qb8 ew4 hb8
 have nb8 := nO Lw qb8
 refine lP 1 tK rfl ?_
 refine lC (o_st tK hb8 rfl rfl rfl rfl (Rep.one hvs) rfl rfl ?_)
 intro w5 h8 uw5 bew5
 have ew5 : Ext w3 w5 := ew4.trans (bew5 _ (lQ qb8.symm))
 replace hE := ew5.bl hE hB
 replace ha := Rep.Y ha ew5
 replace hka := hka.Y ew5
 replace hb := Rep.Y hb ew5
 replace hkb := hkb.Y ew5
 replace h3 := h3.Y ew5
 replace h4 := h4.Y ew5
 replace hfl := hfl.Y ew5
 replace hvs := Rep.Y hvs ew5
 replace hks := hks.Y ew5
 replace Lw := Lw.Y ew5
 replace hB := ew5.z hB
 replace h8 : Box w5 b8 25 [.int .u8 s.op, .string s.name, .int .i64 s.n, kvs] := h8
 replace h8 := h8.at nb8
 refine q1 (q0 ?_)
 refine lC (oL tK (fun j v hv => h4.cell j v hv) rfl rfl rfl rfl rfl rfl ?_)
 refine lC (oK fo26 rfl rfl rfl (fields_spec b _ _ _ hsb hb Lw hzb) ?_)
 rintro _ w6 ⟨⟨xm, vt, rfl, hfm, hvt⟩, ew6⟩
 rw [show fieldsF (spineF b).1 = (flatF b).1 by rw [flat_yes hrb]] at hfm
 rw [show (spineF b).2 = (flatF b).2 by rw [flat_yes hrb]] at hvt
 obtain ⟨m, em⟩ : ∃ l, (flatF b).1 = l := ⟨_, rfl⟩
 rw [em] at hfm
 obtain ⟨t, et⟩ : ∃ l, (flatF b).2 = l := ⟨_, rfl⟩
 rw [et] at hvt
 have hsm : Srt m := em ▸ flt_srt b
 have hlm : m.length ≤ 2000000 := by have := flt_len b; rw [em] at this; omega
 have hrm : ∀ f ∈ m, rightB f.ty = true ∧ psz f.ty < psz b := fun f hf => ⟨flt_right hrb (by rw [em]; exact hf), flt_psz (t := b) (by rw [em]; exact hf)⟩
 replace hE := ew6.bl hE hB
 replace ha := Rep.Y ha ew6
 replace hka := hka.Y ew6
 replace hb := Rep.Y hb ew6
 replace hkb := hkb.Y ew6
 replace h3 := h3.Y ew6
 replace h4 := h4.Y ew6
 replace hfl := hfl.Y ew6
 replace hvs := Rep.Y hvs ew6
 replace hks := hks.Y ew6
 replace h8 := h8.Y ew6
 replace Lw := Lw.Y ew6
 replace hB := ew6.z hB
 obtain ⟨kvt, rfl, opt, nmt, n64t, hkt⟩ := tO hvt
 refine lP 3 tK rfl ?_
 refine lC (o_new tK rfl rfl rfl ?_)
 intro b10 w7 qb10 ew7 hb10
 have nb10 := nO Lw qb10
 refine lP 1 tK rfl ?_
 refine lC (o_st tK hb10 rfl rfl rfl rfl (Rep.one hvt) rfl rfl ?_)
 intro w8 h10 uw8 bew8
 have ew8 : Ext w6 w8 := ew7.trans (bew8 _ (lQ qb10.symm))
 replace hE := ew8.bl hE hB
 replace ha := Rep.Y ha ew8
 replace hka := hka.Y ew8
 replace hb := Rep.Y hb ew8
 replace hkb := hkb.Y ew8
 replace h3 := h3.Y ew8
 replace h4 := h4.Y ew8
 replace hfl := hfl.Y ew8
 replace hvs := Rep.Y hvs ew8
 replace hks := hks.Y ew8
 replace h8 := h8.Y ew8
 replace hfm := hfm.Y ew8
 replace hvt := Rep.Y hvt ew8
 replace hkt := hkt.Y ew8
 replace Lw := Lw.Y ew8
 replace hB := ew8.z hB
 replace h10 : Box w8 b10 25 [.int .u8 t.op, .string t.name, .int .i64 t.n, kvt] := h10
 replace h10 := h10.at nb10
 refine q1 (cS (q0 (lP 1 tK rfl (q1 (cB ?_)))))
 clear h3 h4 ha hb hka hkb
 have hs3 := flt_tail hra
 have ht3 := flt_tail hrb
 rw [es] at hs3
 rw [et] at ht3
 refine c_loop (X := Nat) (fun i => [(2, .bool less), (7, xl), (8, .pointer (some ⟨b8, 0, none⟩)), (9, xm), (10, .pointer (some ⟨b10, 0, none⟩)), (11, .int .i64 (i : Nat))]) (fun i w' => i ≤ l.length ∧ (∀ j, j < i → okL (holdsF less) l m t j = true) ∧ At M w' b8 0 [.int .u8 s.op, .string s.name, .int .i64 s.n, kvs] ∧ At M w' b10 0 [.int .u8 t.op, .string t.name, .int .i64 t.n, kvt] ∧ Sl M w' xl l ∧ Sl M w' xm m ∧ Rep.R M w' (.agg #[.int .u8 s.op, .string s.name, .int .i64 s.n, kvs]) s ∧ Rep.R M w' (.agg #[.int .u8 t.op, .string t.name, .int .i64 t.n, kvt]) t ∧ Low M w' ∧ Below w.heap.size w w' ∧ w.heap.size ≤ w'.heap.size) (fun i => l.length - i) (0) (s6 rfl rfl rfl rfl rfl rfl) ?_ ?_
 ·exact ⟨Nat.zero_le _, fun j h => absurd h (Nat.not_lt_zero _), h8, h10, hfl, hfm, hvs, hvt, Lw, hE, hB⟩
 rintro i w9 ⟨hi, hokl, h8, h10, hfl, hfm, hvs, hvt, Lw, hE, hB⟩
 refine cS (q0 (lP 2 tK rfl ?_))
 refine lC (o_len tK hfl rfl rfl rfl rfl rfl ?_)
 refine lP 1 tK rfl (q1 ?_)
 refine cP _ rfl (fun hc => ?_) (fun hc => ?_)
 ·have hil : i < l.length := by omega
  refine cK (xS (cS (cB (cS ?_))))
  refine a_beg Ext rfl ?_
  intro w10 ew10
  replace hE := ew10.bl hE hB
  replace h8 := h8.Y ew10
  replace h10 := h10.Y ew10
  replace hfl := hfl.Y ew10
  replace hfm := hfm.Y ew10
  replace hvs := Rep.Y hvs ew10
  replace hvt := Rep.Y hvt ew10
  replace Lw := Lw.Y ew10
  replace hB := ew10.z hB
  have hS : Ext w10 w10 := ext_refl _
  have D_h8 := h8
  have D_h10 := h10
  have D_hfl := hfl
  have D_hfm := hfm
  refine a_p 0 tK rfl rfl rfl rfl (by kernel_rfl) i3 hS ?_
  refine a_p 1 tK rfl rfl rfl rfl (by kernel_rfl) i3 hS ?_
  refine a_p 2 tK rfl rfl rfl rfl (by kernel_rfl) i3 hS ?_
  refine a_ixS 3 tK D_hfl (gE hil) rfl rfl rfl rfl rfl rfl rfl rfl rfl rfl (by kernel_rfl) i4 hS ?_
  intro ebq0 eoq0 euq0 hrq0 hatq0
  obtain ⟨szq0, kvq0, rfl, hyq0⟩ := fld_open hrq0
  replace hatq0 : At _ w10 ebq0 eoq0 [.string l[i].name, .int .u8 l[i].ty.op, .string l[i].ty.name, .int .i64 l[i].ty.n, kvq0] := hatq0
  refine a_p 4 tK rfl rfl rfl rfl (by kernel_rfl) i3 hS ?_
  refine a_ld 5 tK (fun _ hs => (hatq0.Y hs).cell 0 _ rfl) rfl rfl rfl rfl rfl rfl (by kernel_rfl) i3 hS ?_
  refine a_p 6 tK rfl rfl rfl rfl (by kernel_rfl) i3 hS ?_
  refine a_p 7 tK rfl rfl rfl rfl (by kernel_rfl) i3 hS ?_
  refine a_p 9 tK rfl rfl rfl rfl (by kernel_rfl) i3 hS ?_
  refine a_p 10 tK rfl rfl rfl rfl (by kernel_rfl) i3 hS ?_
  refine a_ixS 11 tK D_hfl (gE hil) rfl rfl rfl rfl rfl rfl rfl rfl rfl rfl (by kernel_rfl) i4 hS ?_
  intro ebq1 eoq1 euq1 hrq1 hatq1
  obtain ⟨szq1, kvq1, rfl, hyq1⟩ := fld_open hrq1
  replace hatq1 : At _ w10 ebq1 eoq1 [.string l[i].name, .int .u8 l[i].ty.op, .string l[i].ty.name, .int .i64 l[i].ty.n, kvq1] := hatq1
  refine a_p 12 tK rfl rfl rfl rfl (by kernel_rfl) i3 hS ?_
  refine a_ld 13 tK (fun _ hs => (hatq1.Y hs).cell 0 _ rfl) rfl rfl rfl rfl rfl rfl (by kernel_rfl) i3 hS ?_
  refine a_one 8 rfl (by kernel_rfl) (o_slh (j := i) tK hfl rfl rfl rfl hi rfl rfl rfl rfl rfl ?_)
  intro tv htk
  refine ⟨hS, ?_⟩
  refine a_one 14 rfl (by kernel_rfl) (oK fo107 rfl rfl rfl (count_spec (l.take i) l[i].name _ _ _ htk Lw) ?_)
  rintro _ w11 ⟨rfl, ew11⟩
  replace hS := hS.then ew11
  replace hE := ew11.bl hE hB
  replace h8 := h8.Y ew11
  replace h10 := h10.Y ew11
  replace hfl := hfl.Y ew11
  replace hfm := hfm.Y ew11
  replace hvs := Rep.Y hvs ew11
  replace hvt := Rep.Y hvt ew11
  replace hrq0 := Rep.Y hrq0 ew11
  replace hyq0 := Rep.Y hyq0 ew11
  replace hatq0 := hatq0.Y ew11
  replace hrq1 := Rep.Y hrq1 ew11
  replace hyq1 := Rep.Y hyq1 ew11
  replace hatq1 := hatq1.Y ew11
  replace htk := htk.Y ew11
  replace Lw := Lw.Y ew11
  replace hB := ew11.z hB
  refine ⟨hS, ?_⟩
  have hcb : cntN (l.take i) l[i].name ≤ 2000000 := Nat.le_trans (cntN_take_le _ _ _) (by omega)
  refine a_bar 15 rfl (by kernel_rfl) (by kernel_rfl) (oK fo106 rfl rfl rfl (nthR_spec m l[i].name (cntN (l.take i) l[i].name) _ _ _ hcb hsm hfm Lw) ?_)
  rintro _ w12 ⟨rfl, ew12⟩
  replace hS := hS.then ew12
  replace hE := ew12.bl hE hB
  replace h8 := h8.Y ew12
  replace h10 := h10.Y ew12
  replace hfl := hfl.Y ew12
  replace hfm := hfm.Y ew12
  replace hvs := Rep.Y hvs ew12
  replace hvt := Rep.Y hvt ew12
  replace hrq0 := Rep.Y hrq0 ew12
  replace hyq0 := Rep.Y hyq0 ew12
  replace hatq0 := hatq0.Y ew12
  replace hrq1 := Rep.Y hrq1 ew12
  replace hyq1 := Rep.Y hyq1 ew12
  replace hatq1 := hatq1.Y ew12
  replace htk := htk.Y ew12
  replace Lw := Lw.Y ew12
  replace hB := ew12.z hB
  refine a_p 16 tK rfl rfl rfl rfl (by kernel_rfl) i3 hS ?_
  refine a_end (by kernel_rfl) ?_
  refine xS (cS ?_)
  refine a_beg Ext rfl ?_
  intro w13 ew13
  replace hE := ew13.bl hE hB
  replace h8 := h8.Y ew13
  replace h10 := h10.Y ew13
  replace hfl := hfl.Y ew13
  replace hfm := hfm.Y ew13
  replace hvs := Rep.Y hvs ew13
  replace hvt := Rep.Y hvt ew13
  replace hrq0 := Rep.Y hrq0 ew13
  replace hyq0 := Rep.Y hyq0 ew13
  replace hatq0 := hatq0.Y ew13
  replace hrq1 := Rep.Y hrq1 ew13
  replace hyq1 := Rep.Y hyq1 ew13
  replace hatq1 := hatq1.Y ew13
  replace htk := htk.Y ew13
  replace Lw := Lw.Y ew13
  replace hB := ew13.z hB
  have hS : Ext w13 w13 := ext_refl _
  have D_h8 := h8
  have D_h10 := h10
  have D_hfl := hfl
  have D_hfm := hfm
  have D_hatq0 := hatq0
  have D_hatq1 := hatq1
  have D_htk := htk
  refine a_p 0 tK rfl rfl rfl rfl (by kernel_rfl) i3 hS ?_
  refine a_p 1 tK rfl rfl rfl rfl (by kernel_rfl) i3 hS ?_
  refine a_p 2 tK rfl rfl rfl rfl (by kernel_rfl) i3 hS ?_
  refine a_splitP 48 _ rfl (fun hneg => ?_) (fun hneg => ?_)
  ·have hcl : ¬ cntN (l.take i) l[i].name < cntN m l[i].name := fun h => by rw [nthZ_yes h] at hneg; omega
   refine a_p 3 tK rfl rfl rfl rfl (by kernel_rfl) i3 hS ?_
   refine a_ld 4 tK (fun _ hs => (D_h10.Y hs).cell 0 _ rfl) rfl rfl rfl rfl rfl rfl (by kernel_rfl) i3 hS ?_
   refine a_p 5 tK rfl rfl rfl rfl (by kernel_rfl) i3 hS ?_
   refine a_p 6 tK rfl rfl rfl rfl (by kernel_rfl) i3 hS ?_
   refine a_p 7 tK rfl rfl rfl rfl (by kernel_rfl) i3 hS ?_
   refine a_splitN 53 _ rfl (fun hto => ?_) (fun hto => ?_)
   ·refine aK 8 rfl rfl rfl (by kernel_rfl) i3 hS ?_
    refine aK 9 rfl rfl rfl (by kernel_rfl) i3 hS ?_
    refine aK 10 rfl rfl rfl (by kernel_rfl) i3 hS ?_
    refine aK 11 rfl rfl rfl (by kernel_rfl) i3 hS ?_
    refine aK 12 rfl rfl rfl (by kernel_rfl) i3 hS ?_
    refine aK 13 rfl rfl rfl (by kernel_rfl) i3 hS ?_
    refine aK 14 rfl rfl rfl (by kernel_rfl) i3 hS ?_
    refine aK 15 rfl rfl rfl (by kernel_rfl) i3 hS ?_
    refine aK 16 rfl rfl rfl (by kernel_rfl) i3 hS ?_
    refine aK 17 rfl rfl rfl (by kernel_rfl) i3 hS ?_
    refine aK 18 rfl rfl rfl (by kernel_rfl) i3 hS ?_
    refine aK 19 rfl rfl rfl (by kernel_rfl) i3 hS ?_
    refine aK 20 rfl rfl rfl (by kernel_rfl) i3 hS ?_
    refine aK 21 rfl rfl rfl (by kernel_rfl) i3 hS ?_
    refine aK 22 rfl rfl rfl (by kernel_rfl) i3 hS ?_
    refine aK 23 rfl rfl rfl (by kernel_rfl) i3 hS ?_
    refine aK 24 rfl rfl rfl (by kernel_rfl) i3 hS ?_
    refine a_p 25 tK rfl rfl rfl rfl (by kernel_rfl) i3 hS ?_
    refine a_end (by kernel_rfl) ?_
    refine xS (cI rfl (q0 (lP 1 tK rfl (q1 (cR (xB (xR (xR (xB (xR (x1_ rfl rfl ?_)))))))))))
    rw [rows_noL el em hil (by rw [et, okL_no hil hcl]; exact dF hto)]
    exact ⟨rfl, hE⟩
   refine a_p 8 tK rfl rfl rfl rfl (by kernel_rfl) i3 hS ?_
   refine a_p 9 tK rfl rfl rfl rfl (by kernel_rfl) i3 hS ?_
   refine a_p 10 tK rfl rfl rfl rfl (by kernel_rfl) i3 hS ?_
   refine a_splitP 56 _ rfl (fun hz => ?_) (fun hz => ?_)
   ·exact absurd hz (by omega)
   refine aK 11 rfl rfl rfl (by kernel_rfl) i3 hS ?_
   refine aK 12 rfl rfl rfl (by kernel_rfl) i3 hS ?_
   refine aK 13 rfl rfl rfl (by kernel_rfl) i3 hS ?_
   refine aK 14 rfl rfl rfl (by kernel_rfl) i3 hS ?_
   refine aK 15 rfl rfl rfl (by kernel_rfl) i3 hS ?_
   refine aK 16 rfl rfl rfl (by kernel_rfl) i3 hS ?_
   refine aK 17 rfl rfl rfl (by kernel_rfl) i3 hS ?_
   refine aK 18 rfl rfl rfl (by kernel_rfl) i3 hS ?_
   refine aK 19 rfl rfl rfl (by kernel_rfl) i3 hS ?_
   refine aK 20 rfl rfl rfl (by kernel_rfl) i3 hS ?_
   refine aK 21 rfl rfl rfl (by kernel_rfl) i3 hS ?_
   refine aK 22 rfl rfl rfl (by kernel_rfl) i3 hS ?_
   refine aK 23 rfl rfl rfl (by kernel_rfl) i3 hS ?_
   refine a_p 24 tK rfl rfl rfl rfl (by kernel_rfl) i3 hS ?_
   refine a_p 25 tK rfl rfl rfl rfl (by kernel_rfl) i3 hS ?_
   refine a_end (by kernel_rfl) ?_
   refine xS (c_ifF rfl (cK (x_blk (xS (cG (lP 1 tK rfl ?_))))))
   refine lC (o_ai rfl rfl rfl (by omega) rfl rfl ?_)
   refine lP 1 tK rfl (lN ?_)
   exact x_round (i + 1) (s6 rfl rfl rfl rfl rfl (gN rfl (by omega))) ⟨by omega, ok_step hokl (by rw [okL_no hil hcl]; exact dT hto), h8, h10, hfl, hfm, hvs, hvt, Lw, hE, hB⟩ (by omega)
  have hcl : cntN (l.take i) l[i].name < cntN m l[i].name := Decidable.byContradiction fun h => by rw [nthZ_no h] at hneg; exact hneg (by decide)
  obtain ⟨jj, hjj⟩ : ∃ jj, jj = lessN m l[i].name + cntN (l.take i) l[i].name := ⟨_, rfl⟩
  obtain ⟨hjm, _⟩ := (nth_iff hsm _ _).1 hcl
  rw [← hjj] at hjm
  refine aK 3 rfl rfl rfl (by kernel_rfl) i3 hS ?_
  refine aK 4 rfl rfl rfl (by kernel_rfl) i3 hS ?_
  refine aK 5 rfl rfl rfl (by kernel_rfl) i3 hS ?_
  refine a_p 6 tK rfl rfl rfl rfl (by kernel_rfl) i3 hS ?_
  refine a_p 7 tK rfl rfl rfl rfl (by kernel_rfl) i3 hS ?_
  refine a_p 8 tK rfl rfl rfl rfl (by kernel_rfl) i3 hS ?_
  refine a_p 9 tK rfl rfl rfl rfl (by kernel_rfl) i3 hS ?_
  refine a_p 10 tK rfl rfl rfl rfl (by kernel_rfl) i3 hS ?_
  refine a_splitP 56 _ rfl (fun hz => ?_) (fun hz => ?_)
  ·refine a_p 11 tK rfl rfl rfl rfl (by kernel_rfl) i3 hS ?_
   refine a_p 12 tK rfl rfl rfl rfl (by kernel_rfl) i3 hS ?_
   refine a_ixS 13 tK D_hfl (gE hil) rfl rfl rfl rfl rfl rfl rfl rfl rfl rfl (by kernel_rfl) i4 hS ?_
   intro ebq2 eoq2 euq2 hrq2 hatq2
   obtain ⟨szq2, kvq2, rfl, hyq2⟩ := fld_open hrq2
   replace hatq2 : At _ w13 ebq2 eoq2 [.string l[i].name, .int .u8 l[i].ty.op, .string l[i].ty.name, .int .i64 l[i].ty.n, kvq2] := hatq2
   refine a_p 14 tK rfl rfl rfl rfl (by kernel_rfl) i3 hS ?_
   refine a_lds 15 tK (fun _ hs j v hv => ((hatq2.Y hs)).drop 1 (sub := [.int .u8 l[i].ty.op, .string l[i].ty.name, .int .i64 l[i].ty.n, kvq2]) rfl j v hv) rfl rfl rfl rfl rfl rfl rfl (by kernel_rfl) i3 hS ?_
   refine a_p 16 tK rfl rfl rfl rfl (by kernel_rfl) i3 hS ?_
   refine a_p 17 tK rfl rfl rfl rfl (by kernel_rfl) i3 hS ?_
   refine a_ixS 18 tK D_hfm (gE hjm) rfl rfl rfl (by rw [nthZ_yes hcl, hjj]) rfl rfl rfl rfl rfl rfl (by kernel_rfl) i4 hS ?_
   intro ebq3 eoq3 euq3 hrq3 hatq3
   obtain ⟨szq3, kvq3, rfl, hyq3⟩ := fld_open hrq3
   replace hatq3 : At _ w13 ebq3 eoq3 [.string m[jj].name, .int .u8 m[jj].ty.op, .string m[jj].ty.name, .int .i64 m[jj].ty.n, kvq3] := hatq3
   refine a_p 19 tK rfl rfl rfl rfl (by kernel_rfl) i3 hS ?_
   refine a_lds 20 tK (fun _ hs j v hv => ((hatq3.Y hs)).drop 1 (sub := [.int .u8 m[jj].ty.op, .string m[jj].ty.name, .int .i64 m[jj].ty.n, kvq3]) rfl j v hv) rfl rfl rfl rfl rfl rfl rfl (by kernel_rfl) i3 hS ?_
   refine a_p 21 tK rfl rfl rfl rfl (by kernel_rfl) i3 hS ?_
   refine a_bar 22 rfl (by kernel_rfl) (by kernel_rfl) (oK fo76 rfl rfl rfl (IH l[i].ty m[jj].ty (by have := (hrl _ (gM hil)).2; omega) (hrl _ (gM hil)).1 (hrm _ (gM hjm)).1 (by have := (hrm _ (gM hjm)).2; omega) M _ _ _ hyq2 hyq3 Lw) ?_)
   rintro _ w14 ⟨rfl, ew14⟩
   replace hS := hS.then ew14
   replace hE := ew14.bl hE hB
   replace h8 := h8.Y ew14
   replace h10 := h10.Y ew14
   replace hfl := hfl.Y ew14
   replace hfm := hfm.Y ew14
   replace hvs := Rep.Y hvs ew14
   replace hvt := Rep.Y hvt ew14
   replace hrq0 := Rep.Y hrq0 ew14
   replace hyq0 := Rep.Y hyq0 ew14
   replace hatq0 := hatq0.Y ew14
   replace hrq1 := Rep.Y hrq1 ew14
   replace hyq1 := Rep.Y hyq1 ew14
   replace hatq1 := hatq1.Y ew14
   replace htk := htk.Y ew14
   replace hrq2 := Rep.Y hrq2 ew14
   replace hyq2 := Rep.Y hyq2 ew14
   replace hatq2 := hatq2.Y ew14
   replace hrq3 := Rep.Y hrq3 ew14
   replace hyq3 := Rep.Y hyq3 ew14
   replace hatq3 := hatq3.Y ew14
   replace Lw := Lw.Y ew14
   replace hB := ew14.z hB
   refine a_p 23 tK rfl rfl rfl rfl (by kernel_rfl) i3 hS ?_
   refine a_p 24 tK rfl rfl rfl rfl (by kernel_rfl) i3 hS ?_
   refine a_p 25 tK rfl rfl rfl rfl (by kernel_rfl) i3 hS ?_
   refine a_end (by kernel_rfl) ?_
   refine xS ?_
   refine c_ifB _ rfl (fun hho => ?_) (fun hho => ?_)
   ·refine q0 (lP 1 tK rfl (q1 (cR (xB (xR (xR (xB (xR (x1_ rfl rfl ?_)))))))))
    rw [rows_noL el em hil (by rw [et, okL_yes hil hjm hcl hjj.symm]; exact hho)]
    exact ⟨rfl, hE⟩
   refine cK (x_blk (xS (cG (lP 1 tK rfl ?_))))
   refine lC (o_ai rfl rfl rfl (by omega) rfl rfl ?_)
   refine lP 1 tK rfl (lN ?_)
   exact x_round (i + 1) (s6 rfl rfl rfl rfl rfl (gN rfl (by omega))) ⟨by omega, ok_step hokl (by rw [okL_yes hil hjm hcl hjj.symm]; exact hho), h8, h10, hfl, hfm, hvs, hvt, Lw, hE, hB⟩ (by omega)
  exact absurd hz (by omega)
 refine c_exit (xE (xE (x_blkE (xS (cS (q0 (lP 1 tK rfl (q1 (cB ?_)))))))))
 replace hokl : ∀ j, j < l.length → okL (holdsF less) l m t j = true := fun j hj => hokl j (by omega)
 refine c_loop (X := Nat) (fun k => [(2, .bool less), (7, xl), (8, .pointer (some ⟨b8, 0, none⟩)), (9, xm), (10, .pointer (some ⟨b10, 0, none⟩)), (13, .int .i64 (k : Nat))]) (fun k w' => k ≤ m.length ∧ (∀ j, j < k → okM less l m s j = true) ∧ At M w' b8 0 [.int .u8 s.op, .string s.name, .int .i64 s.n, kvs] ∧ At M w' b10 0 [.int .u8 t.op, .string t.name, .int .i64 t.n, kvt] ∧ Sl M w' xl l ∧ Sl M w' xm m ∧ Rep.R M w' (.agg #[.int .u8 s.op, .string s.name, .int .i64 s.n, kvs]) s ∧ Rep.R M w' (.agg #[.int .u8 t.op, .string t.name, .int .i64 t.n, kvt]) t ∧ Low M w' ∧ Below w.heap.size w w' ∧ w.heap.size ≤ w'.heap.size) (fun k => m.length - k) (0) (s6 rfl rfl rfl rfl rfl rfl) ?_ ?_
 ·exact ⟨Nat.zero_le _, fun j h => absurd h (Nat.not_lt_zero _), h8, h10, hfl, hfm, hvs, hvt, Lw, hE, hB⟩
 rintro k w15 ⟨hk, hokm, h8, h10, hfl, hfm, hvs, hvt, Lw, hE, hB⟩
 refine cS (q0 (lP 2 tK rfl ?_))
 refine lC (o_len tK hfm rfl rfl rfl rfl rfl ?_)
 refine lP 1 tK rfl (q1 ?_)
 refine cP _ rfl (fun hc => ?_) (fun hc => ?_)
 ·have hkl : k < m.length := by omega
  refine cK (xS (cS (cB (cS ?_))))
  refine a_beg Ext rfl ?_
  intro w16 ew16
  replace hE := ew16.bl hE hB
  replace h8 := h8.Y ew16
  replace h10 := h10.Y ew16
  replace hfl := hfl.Y ew16
  replace hfm := hfm.Y ew16
  replace hvs := Rep.Y hvs ew16
  replace hvt := Rep.Y hvt ew16
  replace Lw := Lw.Y ew16
  replace hB := ew16.z hB
  have hS : Ext w16 w16 := ext_refl _
  have D_h8 := h8
  have D_h10 := h10
  have D_hfl := hfl
  have D_hfm := hfm
  refine a_p 0 tK rfl rfl rfl rfl (by kernel_rfl) i3 hS ?_
  refine a_p 1 tK rfl rfl rfl rfl (by kernel_rfl) i3 hS ?_
  refine a_p 2 tK rfl rfl rfl rfl (by kernel_rfl) i3 hS ?_
  refine a_ixS 3 tK D_hfm (gE hkl) rfl rfl rfl rfl rfl rfl rfl rfl rfl rfl (by kernel_rfl) i4 hS ?_
  intro ebq0 eoq0 euq0 hrq0 hatq0
  obtain ⟨szq0, kvq0, rfl, hyq0⟩ := fld_open hrq0
  replace hatq0 : At _ w16 ebq0 eoq0 [.string m[k].name, .int .u8 m[k].ty.op, .string m[k].ty.name, .int .i64 m[k].ty.n, kvq0] := hatq0
  refine a_p 4 tK rfl rfl rfl rfl (by kernel_rfl) i3 hS ?_
  refine a_ld 5 tK (fun _ hs => (hatq0.Y hs).cell 0 _ rfl) rfl rfl rfl rfl rfl rfl (by kernel_rfl) i3 hS ?_
  refine a_p 6 tK rfl rfl rfl rfl (by kernel_rfl) i3 hS ?_
  refine a_p 7 tK rfl rfl rfl rfl (by kernel_rfl) i3 hS ?_
  refine a_p 9 tK rfl rfl rfl rfl (by kernel_rfl) i3 hS ?_
  refine a_p 10 tK rfl rfl rfl rfl (by kernel_rfl) i3 hS ?_
  refine a_ixS 11 tK D_hfm (gE hkl) rfl rfl rfl rfl rfl rfl rfl rfl rfl rfl (by kernel_rfl) i4 hS ?_
  intro ebq1 eoq1 euq1 hrq1 hatq1
  obtain ⟨szq1, kvq1, rfl, hyq1⟩ := fld_open hrq1
  replace hatq1 : At _ w16 ebq1 eoq1 [.string m[k].name, .int .u8 m[k].ty.op, .string m[k].ty.name, .int .i64 m[k].ty.n, kvq1] := hatq1
  refine a_p 12 tK rfl rfl rfl rfl (by kernel_rfl) i3 hS ?_
  refine a_ld 13 tK (fun _ hs => (hatq1.Y hs).cell 0 _ rfl) rfl rfl rfl rfl rfl rfl (by kernel_rfl) i3 hS ?_
  refine a_one 8 rfl (by kernel_rfl) (o_slh (j := k) tK hfm rfl rfl rfl hk rfl rfl rfl rfl rfl ?_)
  intro tv htk
  refine ⟨hS, ?_⟩
  refine a_one 14 rfl (by kernel_rfl) (oK fo107 rfl rfl rfl (count_spec (m.take k) m[k].name _ _ _ htk Lw) ?_)
  rintro _ w17 ⟨rfl, ew17⟩
  replace hS := hS.then ew17
  replace hE := ew17.bl hE hB
  replace h8 := h8.Y ew17
  replace h10 := h10.Y ew17
  replace hfl := hfl.Y ew17
  replace hfm := hfm.Y ew17
  replace hvs := Rep.Y hvs ew17
  replace hvt := Rep.Y hvt ew17
  replace hrq0 := Rep.Y hrq0 ew17
  replace hyq0 := Rep.Y hyq0 ew17
  replace hatq0 := hatq0.Y ew17
  replace hrq1 := Rep.Y hrq1 ew17
  replace hyq1 := Rep.Y hyq1 ew17
  replace hatq1 := hatq1.Y ew17
  replace htk := htk.Y ew17
  replace Lw := Lw.Y ew17
  replace hB := ew17.z hB
  refine ⟨hS, ?_⟩
  have hcb : cntN (m.take k) m[k].name ≤ 2000000 := Nat.le_trans (cntN_take_le _ _ _) (by omega)
  refine a_bar 15 rfl (by kernel_rfl) (by kernel_rfl) (oK fo106 rfl rfl rfl (nthR_spec l m[k].name (cntN (m.take k) m[k].name) _ _ _ hcb hsl hfl Lw) ?_)
  rintro _ w18 ⟨rfl, ew18⟩
  replace hS := hS.then ew18
  replace hE := ew18.bl hE hB
  replace h8 := h8.Y ew18
  replace h10 := h10.Y ew18
  replace hfl := hfl.Y ew18
  replace hfm := hfm.Y ew18
  replace hvs := Rep.Y hvs ew18
  replace hvt := Rep.Y hvt ew18
  replace hrq0 := Rep.Y hrq0 ew18
  replace hyq0 := Rep.Y hyq0 ew18
  replace hatq0 := hatq0.Y ew18
  replace hrq1 := Rep.Y hrq1 ew18
  replace hyq1 := Rep.Y hyq1 ew18
  replace hatq1 := hatq1.Y ew18
  replace htk := htk.Y ew18
  replace Lw := Lw.Y ew18
  replace hB := ew18.z hB
  refine a_p 16 tK rfl rfl rfl rfl (by kernel_rfl) i3 hS ?_
  refine a_p 17 tK rfl rfl rfl rfl (by kernel_rfl) i3 hS ?_
  refine a_splitP 95 _ rfl (fun hneg => ?_) (fun hneg => ?_)
  ·have hcl : ¬ cntN (m.take k) m[k].name < cntN l m[k].name := fun h => by rw [nthZ_yes h] at hneg; omega
   refine a_p 18 tK rfl rfl rfl rfl (by kernel_rfl) i3 hS ?_
   refine a_p 19 tK rfl rfl rfl rfl (by kernel_rfl) i3 hS ?_
   refine a_split 97 _ rfl (fun hless => ?_) (fun hless => ?_)
   ·refine aK 20 rfl rfl rfl (by kernel_rfl) i3 hS ?_
    refine aK 21 rfl rfl rfl (by kernel_rfl) i3 hS ?_
    refine aK 22 rfl rfl rfl (by kernel_rfl) i3 hS ?_
    refine a_p 23 tK rfl rfl rfl rfl (by kernel_rfl) i3 hS ?_
    refine a_p 24 tK rfl rfl rfl rfl (by kernel_rfl) i3 hS ?_
    refine a_end (by kernel_rfl) ?_
    refine xS (cI rfl (q0 (lP 1 tK rfl (q1 (cR (xB (xR (xR (xB (xR (x1_ rfl rfl ?_)))))))))))
    rw [rows_noM el em hkl (by rw [es, okM_no hkl hcl, hless]; rfl)]
    exact ⟨rfl, hE⟩
   refine a_p 20 tK rfl rfl rfl rfl (by kernel_rfl) i3 hS ?_
   refine a_ld 21 tK (fun _ hs => (D_h8.Y hs).cell 0 _ rfl) rfl rfl rfl rfl rfl rfl (by kernel_rfl) i3 hS ?_
   refine a_p 22 tK rfl rfl rfl rfl (by kernel_rfl) i3 hS ?_
   refine a_p 23 tK rfl rfl rfl rfl (by kernel_rfl) i3 hS ?_
   refine a_p 24 tK rfl rfl rfl rfl (by kernel_rfl) i3 hS ?_
   refine a_end (by kernel_rfl) ?_
   refine xS ?_
   refine c_ifN _ rfl (fun hso => ?_) (fun hso => ?_)
   ·refine q0 (lP 1 tK rfl (q1 (cR (xB (xR (xR (xB (xR (x1_ rfl rfl ?_)))))))))
    rw [rows_noM el em hkl (by rw [es, okM_no hkl hcl, hless, dF hso]; rfl)]
    exact ⟨rfl, hE⟩
   refine cK (x_blk (xS (cG (lP 1 tK rfl ?_))))
   refine lC (o_ai rfl rfl rfl (by omega) rfl rfl ?_)
   refine lP 1 tK rfl (lN ?_)
   exact x_round (k + 1) (s6 rfl rfl rfl rfl rfl (gN rfl (by omega))) ⟨by omega, ok_step hokm (by rw [okM_no hkl hcl, hless, dT hso]; rfl), h8, h10, hfl, hfm, hvs, hvt, Lw, hE, hB⟩ (by omega)
  have hcl : cntN (m.take k) m[k].name < cntN l m[k].name := Decidable.byContradiction fun h => by rw [nthZ_no h] at hneg; exact hneg (by decide)
  refine aK 18 rfl rfl rfl (by kernel_rfl) i3 hS ?_
  refine aK 19 rfl rfl rfl (by kernel_rfl) i3 hS ?_
  refine aK 20 rfl rfl rfl (by kernel_rfl) i3 hS ?_
  refine aK 21 rfl rfl rfl (by kernel_rfl) i3 hS ?_
  refine aK 22 rfl rfl rfl (by kernel_rfl) i3 hS ?_
  refine aK 23 rfl rfl rfl (by kernel_rfl) i3 hS ?_
  refine a_p 24 tK rfl rfl rfl rfl (by kernel_rfl) i3 hS ?_
  refine a_end (by kernel_rfl) ?_
  refine xS (c_ifF rfl (cK (x_blk (xS (cG (lP 1 tK rfl ?_))))))
  refine lC (o_ai rfl rfl rfl (by omega) rfl rfl ?_)
  refine lP 1 tK rfl (lN ?_)
  exact x_round (k + 1) (s6 rfl rfl rfl rfl rfl (gN rfl (by omega))) ⟨by omega, ok_step hokm (okM_yes hkl hcl), h8, h10, hfl, hfm, hvs, hvt, Lw, hE, hB⟩ (by omega)
 refine c_exit (xE (xE (x_blkE (xS (q0 (lP 1 tK rfl ?_))))))
 refine lC (oD tK (h10.cell 0 _ rfl) rfl rfl rfl rfl rfl ?_)
 refine lP 2 tK rfl ?_
 refine lS 106 _ rfl (fun c1 => ?_) (fun c1 => ?_)
 ·refine lP 23 tK rfl (q1 (cR (x1_ rfl rfl ?_)))
  rw [rows_all el em (fun j hj => by rw [et]; exact hokl j hj) (fun j hj => by rw [es]; exact hokm j (by omega)), es, et, tailF, dynF]
  exact ⟨by first | (simp [*]; done) | (simp [*]; omega), hE⟩
 refine lP 1 tK rfl ?_
 refine lC (oD tK (h8.cell 0 _ rfl) rfl rfl rfl rfl rfl ?_)
 refine lP 2 tK rfl ?_
 refine lS 110 _ rfl (fun c2 => ?_) (fun c2 => ?_)
 ·refine lP 5 tK rfl ?_
  refine l_splitB 115 _ rfl (fun c3 => ?_) (fun c3 => ?_)
  ·refine lP 14 tK rfl (q1 (cR (x1_ rfl rfl ?_)))
   rw [rows_all el em (fun j hj => by rw [et]; exact hokl j hj) (fun j hj => by rw [es]; exact hokm j (by omega)), es, et, tailF, dynF]
   exact ⟨by first | (simp [*]; done) | (simp [*]; omega), hE⟩
  refine lP 1 tK rfl ?_
  refine lC (oD tK (h8.cell 0 _ rfl) rfl rfl rfl rfl rfl ?_)
  refine lP 1 tK rfl ?_
  refine lC (oD tK (h10.cell 0 _ rfl) rfl rfl rfl rfl rfl ?_)
  refine lP 2 tK rfl ?_
  refine lS 121 _ rfl (fun c4 => ?_) (fun c4 => ?_)
  ·refine lP 1 tK rfl ?_
   refine lC (oD tK (h8.cell 2 _ rfl) rfl rfl rfl rfl rfl ?_)
   refine lP 1 tK rfl ?_
   refine lC (oD tK (h10.cell 2 _ rfl) rfl rfl rfl rfl rfl ?_)
   refine lP 4 tK rfl (q1 (cR (x1_ rfl rfl ?_)))
   rw [rows_all el em (fun j hj => by rw [et]; exact hokl j hj) (fun j hj => by rw [es]; exact hokm j (by omega)), es, et, tailF, dynF]
   exact ⟨by first | (simp [*]; done) | (simp [*]; omega), hE⟩
  refine lP 8 tK rfl (q1 (cR (x1_ rfl rfl ?_)))
  rw [rows_all el em (fun j hj => by rw [et]; exact hokl j hj) (fun j hj => by rw [es]; exact hokm j (by omega)), es, et, tailF, dynF]
  exact ⟨by first | (simp [*]; done) | (simp [*]; omega), hE⟩
 refine lP 6 tK rfl ?_
 refine lC (oD tK (h8.cell 0 _ rfl) rfl rfl rfl rfl rfl ?_)
 refine lP 1 tK rfl ?_
 refine lC (oD tK (h10.cell 0 _ rfl) rfl rfl rfl rfl rfl ?_)
 refine lP 2 tK rfl ?_
 refine lS 121 _ rfl (fun c5 => ?_) (fun c5 => ?_)
 ·refine lP 1 tK rfl ?_
  refine lC (oD tK (h8.cell 2 _ rfl) rfl rfl rfl rfl rfl ?_)
  refine lP 1 tK rfl ?_
  refine lC (oD tK (h10.cell 2 _ rfl) rfl rfl rfl rfl rfl ?_)
  refine lP 4 tK rfl (q1 (cR (x1_ rfl rfl ?_)))
  rw [rows_all el em (fun j hj => by rw [et]; exact hokl j hj) (fun j hj => by rw [es]; exact hokm j (by omega)), es, et, tailF, dynF]
  exact ⟨by first | (simp [*]; done) | (simp [*]; omega), hE⟩
 refine lP 8 tK rfl (q1 (cR (x1_ rfl rfl ?_)))
 rw [rows_all el em (fun j hj => by rw [et]; exact hokl j hj) (fun j hj => by rw [es]; exact hokm j (by omega)), es, et, tailF, dynF]
 exact ⟨by first | (simp [*]; done) | (simp [*]; omega), hE⟩
theorem dyn_right {less : Bool} {a b : Ty} (ha : a.op < 8) (hb : b.op < 8) : dynF less a b = (decide (b.op = 3) || (!less && decide (a.op = 3))) := by
 unfold dynF
 rw [dF (show ¬ b.op = 9 by omega), dF (show ¬ a.op = 9 by omega), Bool.or_false, Bool.or_false]
theorem refHolds_of (less : Bool) (a b : Ty) (IH : ∀ x y, psz x < psz a → rightB x = true → rightB y = true → psz y ≤ 2000000 → ∀ (M : Nat → Prop) (w : World) (v u : Value), Rep.R M w v x → Rep.R M w u y → Low M w → Calls Try.prog 76 #[v, u, .bool less] w (Ret fun r w' => r = .bool (holdsF less x y) ∧ Ext w w')) (M : Nat → Prop) (w : World) (v u : Value) (hra : rightB a = true) (hrb : rightB b = true) (ha : Rep.R M w v a) (hb : Rep.R M w u b) (Lw : Low M w) (hza : psz a ≤ 2000000) (hzb : psz b ≤ 2000000) :
  Calls Try.prog 76 #[v, u, .bool less] w (Ret fun r w' => r = .bool (holdsF less a b) ∧ Ext w w') := by
 have hE := Below.refl w.heap.size w
 have hB := lR w.heap.size
 obtain ⟨kva, rfl, opa, nma, n64a, hka⟩ := tO ha
 obtain ⟨kvb, rfl, opb, nmb, n64b, hkb⟩ := tO hb
 have oa := right_op hra
 have ob := right_op hrb
 have hdr := dyn_right (less := less) oa ob
 refine cN (n := 76) Try.func76 rfl rfl rfl ?_
 refine q0 ?_
 refine lC (o_box rfl rfl rfl ?_)
 intro b3 w1 hb_b3 ew1 h3
 replace h3 : Box _ b3 25 [.int .u8 a.op, .string a.name, .int .i64 a.n, kva] := h3
 replace h3 := h3.at (nO Lw hb_b3)
 replace hE := ew1.bl hE hB
 replace ha := Rep.Y ha ew1
 replace hka := hka.Y ew1
 replace hb := Rep.Y hb ew1
 replace hkb := hkb.Y ew1
 replace Lw := Lw.Y ew1
 replace hB := ew1.z hB
 refine lC (o_box rfl rfl rfl ?_)
 intro b4 w2 hb_b4 ew2 h4
 replace h4 : Box _ b4 25 [.int .u8 b.op, .string b.name, .int .i64 b.n, kvb] := h4
 replace h4 := h4.at (nO Lw hb_b4)
 replace hE := ew2.bl hE hB
 replace ha := Rep.Y ha ew2
 replace hka := hka.Y ew2
 replace hb := Rep.Y hb ew2
 replace hkb := hkb.Y ew2
 replace h3 := h3.Y ew2
 replace Lw := Lw.Y ew2
 replace hB := ew2.z hB
 refine lP 1 tK rfl (q1 (cS (cB (q0 (lP 1 tK rfl ?_)))))
 refine lC (oD tK (h4.cell 0 _ rfl) rfl rfl rfl rfl rfl ?_)
 refine lP 2 tK rfl ?_
 refine lS 11 _ rfl (fun hb3 => ?_) (fun hb3 => ?_)
 ·have hdy : dynF less a b = true := by rw [hdr, dT hb3]; rfl
  refine lP 9 tK rfl (q1 (cI rfl (q0 (lP 1 tK rfl (q1 (cR (xB (xR (x1_ rfl rfl ?_)))))))))
  rw [holdsF_eq less a b, hdy]
  exact ⟨rfl, hE⟩
 refine lP 1 tK rfl ?_
 refine lC (oD tK (h3.cell 0 _ rfl) rfl rfl rfl rfl rfl ?_)
 refine lP 2 tK rfl ?_
 refine lS 15 _ rfl (fun ha3 => ?_) (fun ha3 => ?_)
 ·refine lP 5 tK rfl (q1 ?_)
  refine c_ifB _ rfl (fun hle => ?_) (fun hle => ?_)
  ·have hdy : dynF less a b = true := by rw [hdr, dF hb3, dT ha3, hle]; rfl
   refine q0 (lP 1 tK rfl (q1 (cR (xB (xR (x1_ rfl rfl ?_))))))
   rw [holdsF_eq less a b, hdy]
   exact ⟨rfl, hE⟩
  have hdy : dynF less a b = false := by rw [hdr, dF hb3, dT ha3, hle]; rfl
  refine q0 (lP 1 tK rfl ?_)
  refine lC (oD tK (h3.cell 0 _ rfl) rfl rfl rfl rfl rfl ?_)
  refine lP 1 tK rfl ?_
  refine lC (oD tK (h4.cell 0 _ rfl) rfl rfl rfl rfl rfl ?_)
  refine lP 2 tK rfl (q1 ?_)
  refine c_ifN _ rfl (fun ho => ?_) (fun ho => ?_)
  ·refine q0 (lP 1 tK rfl (q1 (cR (xB (xR (x1_ rfl rfl ?_))))))
   rw [holdsF_eq less a b, hdy, dF ho]
   exact ⟨rfl, hE⟩
  refine q0 (lP 1 tK rfl ?_)
  refine lC (oD tK (h3.cell 0 _ rfl) rfl rfl rfl rfl rfl ?_)
  refine lP 2 tK rfl (q1 ?_)
  refine cP _ rfl (fun o4 => ?_) (fun o4 => ?_)
  ·obtain ⟨ka, ra, eka, hka1, hra1⟩ := fun_kids hra (by omega)
   obtain ⟨kb, rb, ekb, hkb1, hrb1⟩ := fun_kids hrb (by omega)
   have pa : psz ka < psz a := kid_psz (by rw [eka]; simp)
   have pa2 : psz ra < psz a := kid_psz (by rw [eka]; simp)
   have pb : psz kb < psz b := kid_psz (by rw [ekb]; simp)
   have pb2 : psz rb < psz b := kid_psz (by rw [ekb]; simp)
   have hn : a.n = b.n := by rw [right_n hra (by omega), right_n hrb (by omega)]
   refine cS ?_
   refine a_beg Ext rfl ?_
   intro w3 ew3
   replace hE := ew3.bl hE hB
   replace ha := Rep.Y ha ew3
   replace hka := hka.Y ew3
   replace hb := Rep.Y hb ew3
   replace hkb := hkb.Y ew3
   replace h3 := h3.Y ew3
   replace h4 := h4.Y ew3
   replace Lw := Lw.Y ew3
   replace hB := ew3.z hB
   have hS : Ext w3 w3 := ext_refl _
   have D_hka := hka
   have D_hkb := hkb
   have D_h3 := h3
   have D_h4 := h4
   refine a_p 0 tK rfl rfl rfl rfl (by kernel_rfl) i3 hS ?_
   refine a_ld 1 tK (fun _ hs => (D_h3.Y hs).cell 3 _ rfl) rfl rfl rfl rfl rfl rfl (by kernel_rfl) i3 hS ?_
   refine a_ixS 2 tK D_hka (show a.kids[0]? = some ka by rw [eka]; rfl) rfl rfl rfl rfl rfl rfl rfl rfl rfl rfl (by kernel_rfl) i4 hS ?_
   intro ebz0 eoz0 euz0 hyz0 hatz0
   obtain ⟨kvz0, rfl, opz0, nmz0, n64z0, hkz0⟩ := tO hyz0
   replace hatz0 : At M w3 ebz0 eoz0 [.int .u8 ka.op, .string ka.name, .int .i64 ka.n, kvz0] := hatz0
   refine a_lds 3 tK (fun _ hs j v hv => (hatz0.Y hs).cell j v hv) rfl rfl rfl rfl rfl rfl rfl (by kernel_rfl) i3 hS ?_
   refine a_p 4 tK rfl rfl rfl rfl (by kernel_rfl) i3 hS ?_
   refine a_ld 5 tK (fun _ hs => (D_h4.Y hs).cell 3 _ rfl) rfl rfl rfl rfl rfl rfl (by kernel_rfl) i3 hS ?_
   refine a_ixS 6 tK D_hkb (show b.kids[0]? = some kb by rw [ekb]; rfl) rfl rfl rfl rfl rfl rfl rfl rfl rfl rfl (by kernel_rfl) i4 hS ?_
   intro ebz1 eoz1 euz1 hyz1 hatz1
   obtain ⟨kvz1, rfl, opz1, nmz1, n64z1, hkz1⟩ := tO hyz1
   replace hatz1 : At M w3 ebz1 eoz1 [.int .u8 kb.op, .string kb.name, .int .i64 kb.n, kvz1] := hatz1
   refine a_lds 7 tK (fun _ hs j v hv => (hatz1.Y hs).cell j v hv) rfl rfl rfl rfl rfl rfl rfl (by kernel_rfl) i3 hS ?_
   refine a_p 8 tK rfl rfl rfl rfl (by kernel_rfl) i3 hS ?_
   refine a_bar 9 rfl (by kernel_rfl) (by kernel_rfl) (oK fo76 rfl rfl rfl (IH ka kb (by omega) hka1 hkb1 (by omega) M _ _ _ hyz0 hyz1 Lw) ?_)
   rintro _ w4 ⟨rfl, ew4⟩
   replace hS := hS.then ew4
   replace hE := ew4.bl hE hB
   replace ha := Rep.Y ha ew4
   replace hka := hka.Y ew4
   replace hb := Rep.Y hb ew4
   replace hkb := hkb.Y ew4
   replace h3 := h3.Y ew4
   replace h4 := h4.Y ew4
   replace hyz0 := Rep.Y hyz0 ew4
   replace hkz0 := hkz0.Y ew4
   replace hatz0 := hatz0.Y ew4
   replace hyz1 := Rep.Y hyz1 ew4
   replace hkz1 := hkz1.Y ew4
   replace hatz1 := hatz1.Y ew4
   replace Lw := Lw.Y ew4
   replace hB := ew4.z hB
   refine a_p 10 tK rfl rfl rfl rfl (by kernel_rfl) i3 hS ?_
   refine a_split 40 _ rfl (fun hk1 => ?_) (fun hk1 => ?_)
   ·refine a_p 11 tK rfl rfl rfl rfl (by kernel_rfl) i3 hS ?_
    refine a_ld 12 tK (fun _ hs => (D_h3.Y hs).cell 3 _ rfl) rfl rfl rfl rfl rfl rfl (by kernel_rfl) i3 hS ?_
    refine a_ixS 13 tK D_hka (show a.kids[1]? = some ra by rw [eka]; rfl) rfl rfl rfl rfl rfl rfl rfl rfl rfl rfl (by kernel_rfl) i4 hS ?_
    intro ebz2 eoz2 euz2 hyz2 hatz2
    obtain ⟨kvz2, rfl, opz2, nmz2, n64z2, hkz2⟩ := tO hyz2
    replace hatz2 : At M w3 ebz2 eoz2 [.int .u8 ra.op, .string ra.name, .int .i64 ra.n, kvz2] := hatz2
    have D_hatz2 := hatz2
    replace hatz2 := hatz2.Y hS
    have D_hkz2 := hkz2
    replace hkz2 := hkz2.Y hS
    replace hyz2 := Rep.Y hyz2 hS
    refine a_lds 14 tK (fun _ hs j v hv => (D_hatz2.Y hs).cell j v hv) rfl rfl rfl rfl rfl rfl rfl (by kernel_rfl) i3 hS ?_
    refine a_p 15 tK rfl rfl rfl rfl (by kernel_rfl) i3 hS ?_
    refine a_ld 16 tK (fun _ hs => (D_h4.Y hs).cell 3 _ rfl) rfl rfl rfl rfl rfl rfl (by kernel_rfl) i3 hS ?_
    refine a_ixS 17 tK D_hkb (show b.kids[1]? = some rb by rw [ekb]; rfl) rfl rfl rfl rfl rfl rfl rfl rfl rfl rfl (by kernel_rfl) i4 hS ?_
    intro ebz3 eoz3 euz3 hyz3 hatz3
    obtain ⟨kvz3, rfl, opz3, nmz3, n64z3, hkz3⟩ := tO hyz3
    replace hatz3 : At M w3 ebz3 eoz3 [.int .u8 rb.op, .string rb.name, .int .i64 rb.n, kvz3] := hatz3
    have D_hatz3 := hatz3
    replace hatz3 := hatz3.Y hS
    have D_hkz3 := hkz3
    replace hkz3 := hkz3.Y hS
    replace hyz3 := Rep.Y hyz3 hS
    refine a_lds 18 tK (fun _ hs j v hv => (D_hatz3.Y hs).cell j v hv) rfl rfl rfl rfl rfl rfl rfl (by kernel_rfl) i3 hS ?_
    refine a_p 19 tK rfl rfl rfl rfl (by kernel_rfl) i3 hS ?_
    refine a_bar 20 rfl (by kernel_rfl) (by kernel_rfl) (oK fo76 rfl rfl rfl (IH ra rb (by omega) hra1 hrb1 (by omega) M _ _ _ hyz2 hyz3 Lw) ?_)
    rintro _ w5 ⟨rfl, ew5⟩
    replace hS := hS.then ew5
    replace hE := ew5.bl hE hB
    replace ha := Rep.Y ha ew5
    replace hka := hka.Y ew5
    replace hb := Rep.Y hb ew5
    replace hkb := hkb.Y ew5
    replace h3 := h3.Y ew5
    replace h4 := h4.Y ew5
    replace hyz0 := Rep.Y hyz0 ew5
    replace hkz0 := hkz0.Y ew5
    replace hatz0 := hatz0.Y ew5
    replace hyz1 := Rep.Y hyz1 ew5
    replace hkz1 := hkz1.Y ew5
    replace hatz1 := hatz1.Y ew5
    replace hyz2 := Rep.Y hyz2 ew5
    replace hkz2 := hkz2.Y ew5
    replace hatz2 := hatz2.Y ew5
    replace hyz3 := Rep.Y hyz3 ew5
    replace hkz3 := hkz3.Y ew5
    replace hatz3 := hatz3.Y ew5
    replace Lw := Lw.Y ew5
    replace hB := ew5.z hB
    refine a_p 21 tK rfl rfl rfl rfl (by kernel_rfl) i3 hS ?_
    refine a_p 22 tK rfl rfl rfl rfl (by kernel_rfl) i3 hS ?_
    refine a_end (by kernel_rfl) ?_
    refine xS (cR (xB (xR (x1_ rfl rfl ?_))))
    rw [holdsF_eq less a b, hdy, dT ho, dT hn, dT o4, eka, ekb]
    exact ⟨by show _ = Value.bool (holdsF less ka kb && holdsF less ra rb); rw [hk1]; rfl, hE⟩
   refine aK 11 rfl rfl rfl (by kernel_rfl) i3 hS ?_
   refine aK 12 rfl rfl rfl (by kernel_rfl) i3 hS ?_
   refine aK 13 rfl rfl rfl (by kernel_rfl) i3 hS ?_
   refine aK 14 rfl rfl rfl (by kernel_rfl) i3 hS ?_
   refine aK 15 rfl rfl rfl (by kernel_rfl) i3 hS ?_
   refine aK 16 rfl rfl rfl (by kernel_rfl) i3 hS ?_
   refine aK 17 rfl rfl rfl (by kernel_rfl) i3 hS ?_
   refine aK 18 rfl rfl rfl (by kernel_rfl) i3 hS ?_
   refine aK 19 rfl rfl rfl (by kernel_rfl) i3 hS ?_
   refine aK 20 rfl rfl rfl (by kernel_rfl) i3 hS ?_
   refine a_p 21 tK rfl rfl rfl rfl (by kernel_rfl) i3 hS ?_
   refine a_p 22 tK rfl rfl rfl rfl (by kernel_rfl) i3 hS ?_
   refine a_end (by kernel_rfl) ?_
   refine xS (cR (xB (xR (x1_ rfl rfl ?_))))
   rw [holdsF_eq less a b, hdy, dT ho, dT hn, dT o4, eka, ekb]
   exact ⟨by show _ = Value.bool (holdsF less ka kb && holdsF less ra rb); rw [hk1]; rfl, hE⟩
  refine q0 (lP 1 tK rfl ?_)
  refine lC (oD tK (h3.cell 0 _ rfl) rfl rfl rfl rfl rfl ?_)
  refine lP 2 tK rfl ?_
  refine lS 56 _ rfl (fun o5 => ?_) (fun o5 => ?_)
  ·obtain ⟨ka, eka, hka1⟩ := rec_kids hra (by omega)
   obtain ⟨kb, ekb, hkb1⟩ := rec_kids hrb (by omega)
   have pa : psz ka < psz a := kid_psz (by rw [eka]; simp)
   have pb : psz kb < psz b := kid_psz (by rw [ekb]; simp)
   have hn : a.n = b.n := by rw [right_n hra (by omega), right_n hrb (by omega)]
   refine lP 5 tK rfl (q1 (cI rfl (cS ?_)))
   refine a_beg Ext rfl ?_
   intro w6 ew6
   replace hE := ew6.bl hE hB
   replace ha := Rep.Y ha ew6
   replace hka := hka.Y ew6
   replace hb := Rep.Y hb ew6
   replace hkb := hkb.Y ew6
   replace h3 := h3.Y ew6
   replace h4 := h4.Y ew6
   replace Lw := Lw.Y ew6
   replace hB := ew6.z hB
   have hS : Ext w6 w6 := ext_refl _
   have D_hka := hka
   have D_hkb := hkb
   have D_h3 := h3
   have D_h4 := h4
   refine a_p 0 tK rfl rfl rfl rfl (by kernel_rfl) i3 hS ?_
   refine a_ld 1 tK (fun _ hs => (D_h3.Y hs).cell 3 _ rfl) rfl rfl rfl rfl rfl rfl (by kernel_rfl) i3 hS ?_
   refine a_ixS 2 tK D_hka (show a.kids[0]? = some ka by rw [eka]; rfl) rfl rfl rfl rfl rfl rfl rfl rfl rfl rfl (by kernel_rfl) i4 hS ?_
   intro ebz0 eoz0 euz0 hyz0 hatz0
   obtain ⟨kvz0, rfl, opz0, nmz0, n64z0, hkz0⟩ := tO hyz0
   replace hatz0 : At M w6 ebz0 eoz0 [.int .u8 ka.op, .string ka.name, .int .i64 ka.n, kvz0] := hatz0
   refine a_lds 3 tK (fun _ hs j v hv => (hatz0.Y hs).cell j v hv) rfl rfl rfl rfl rfl rfl rfl (by kernel_rfl) i3 hS ?_
   refine a_p 4 tK rfl rfl rfl rfl (by kernel_rfl) i3 hS ?_
   refine a_ld 5 tK (fun _ hs => (D_h4.Y hs).cell 3 _ rfl) rfl rfl rfl rfl rfl rfl (by kernel_rfl) i3 hS ?_
   refine a_ixS 6 tK D_hkb (show b.kids[0]? = some kb by rw [ekb]; rfl) rfl rfl rfl rfl rfl rfl rfl rfl rfl rfl (by kernel_rfl) i4 hS ?_
   intro ebz1 eoz1 euz1 hyz1 hatz1
   obtain ⟨kvz1, rfl, opz1, nmz1, n64z1, hkz1⟩ := tO hyz1
   replace hatz1 : At M w6 ebz1 eoz1 [.int .u8 kb.op, .string kb.name, .int .i64 kb.n, kvz1] := hatz1
   refine a_lds 7 tK (fun _ hs j v hv => (hatz1.Y hs).cell j v hv) rfl rfl rfl rfl rfl rfl rfl (by kernel_rfl) i3 hS ?_
   refine a_p 8 tK rfl rfl rfl rfl (by kernel_rfl) i3 hS ?_
   refine a_bar 9 rfl (by kernel_rfl) (by kernel_rfl) (oK fo77 rfl rfl rfl (refRows_of less ka kb (fun x y h => IH x y (by omega)) M _ _ _ hka1 hkb1 hyz0 hyz1 Lw (by omega) (by omega)) ?_)
   rintro _ w7 ⟨rfl, ew7⟩
   replace hS := hS.then ew7
   replace hE := ew7.bl hE hB
   replace ha := Rep.Y ha ew7
   replace hka := hka.Y ew7
   replace hb := Rep.Y hb ew7
   replace hkb := hkb.Y ew7
   replace h3 := h3.Y ew7
   replace h4 := h4.Y ew7
   replace hyz0 := Rep.Y hyz0 ew7
   replace hkz0 := hkz0.Y ew7
   replace hatz0 := hatz0.Y ew7
   replace hyz1 := Rep.Y hyz1 ew7
   replace hkz1 := hkz1.Y ew7
   replace hatz1 := hatz1.Y ew7
   replace Lw := Lw.Y ew7
   replace hB := ew7.z hB
   refine a_p 10 tK rfl rfl rfl rfl (by kernel_rfl) i3 hS ?_
   refine a_end (by kernel_rfl) ?_
   refine xS (cR (xB (xR (x1_ rfl rfl ?_))))
   rw [holdsF_eq less a b, hdy, dT ho, dF o4, dT hn, dT o5, eka, ekb]
   exact ⟨rfl, hE⟩
  refine lP 1 tK rfl ?_
  refine lC (oD tK (h3.cell 0 _ rfl) rfl rfl rfl rfl rfl ?_)
  refine lP 3 tK rfl (q1 ?_)
  refine cP _ rfl (fun o6 => ?_) (fun o6 => ?_)
  ·obtain ⟨ka, eka, hka1⟩ := rec_kids hra (by omega)
   obtain ⟨kb, ekb, hkb1⟩ := rec_kids hrb (by omega)
   have pa : psz ka < psz a := kid_psz (by rw [eka]; simp)
   have pb : psz kb < psz b := kid_psz (by rw [ekb]; simp)
   have hn : a.n = b.n := by rw [right_n hra (by omega), right_n hrb (by omega)]
   refine cS ?_
   refine a_beg Ext rfl ?_
   intro w8 ew8
   replace hE := ew8.bl hE hB
   replace ha := Rep.Y ha ew8
   replace hka := hka.Y ew8
   replace hb := Rep.Y hb ew8
   replace hkb := hkb.Y ew8
   replace h3 := h3.Y ew8
   replace h4 := h4.Y ew8
   replace Lw := Lw.Y ew8
   replace hB := ew8.z hB
   have hS : Ext w8 w8 := ext_refl _
   have D_hka := hka
   have D_hkb := hkb
   have D_h3 := h3
   have D_h4 := h4
   refine a_p 0 tK rfl rfl rfl rfl (by kernel_rfl) i3 hS ?_
   refine a_ld 1 tK (fun _ hs => (D_h3.Y hs).cell 3 _ rfl) rfl rfl rfl rfl rfl rfl (by kernel_rfl) i3 hS ?_
   refine a_ixS 2 tK D_hka (show a.kids[0]? = some ka by rw [eka]; rfl) rfl rfl rfl rfl rfl rfl rfl rfl rfl rfl (by kernel_rfl) i4 hS ?_
   intro ebz0 eoz0 euz0 hyz0 hatz0
   obtain ⟨kvz0, rfl, opz0, nmz0, n64z0, hkz0⟩ := tO hyz0
   replace hatz0 : At M w8 ebz0 eoz0 [.int .u8 ka.op, .string ka.name, .int .i64 ka.n, kvz0] := hatz0
   refine a_lds 3 tK (fun _ hs j v hv => (hatz0.Y hs).cell j v hv) rfl rfl rfl rfl rfl rfl rfl (by kernel_rfl) i3 hS ?_
   refine a_p 4 tK rfl rfl rfl rfl (by kernel_rfl) i3 hS ?_
   refine a_ld 5 tK (fun _ hs => (D_h4.Y hs).cell 3 _ rfl) rfl rfl rfl rfl rfl rfl (by kernel_rfl) i3 hS ?_
   refine a_ixS 6 tK D_hkb (show b.kids[0]? = some kb by rw [ekb]; rfl) rfl rfl rfl rfl rfl rfl rfl rfl rfl rfl (by kernel_rfl) i4 hS ?_
   intro ebz1 eoz1 euz1 hyz1 hatz1
   obtain ⟨kvz1, rfl, opz1, nmz1, n64z1, hkz1⟩ := tO hyz1
   replace hatz1 : At M w8 ebz1 eoz1 [.int .u8 kb.op, .string kb.name, .int .i64 kb.n, kvz1] := hatz1
   refine a_lds 7 tK (fun _ hs j v hv => (hatz1.Y hs).cell j v hv) rfl rfl rfl rfl rfl rfl rfl (by kernel_rfl) i3 hS ?_
   refine a_p 8 tK rfl rfl rfl rfl (by kernel_rfl) i3 hS ?_
   refine a_bar 9 rfl (by kernel_rfl) (by kernel_rfl) (oK fo77 rfl rfl rfl (refRows_of less ka kb (fun x y h => IH x y (by omega)) M _ _ _ hka1 hkb1 hyz0 hyz1 Lw (by omega) (by omega)) ?_)
   rintro _ w9 ⟨rfl, ew9⟩
   replace hS := hS.then ew9
   replace hE := ew9.bl hE hB
   replace ha := Rep.Y ha ew9
   replace hka := hka.Y ew9
   replace hb := Rep.Y hb ew9
   replace hkb := hkb.Y ew9
   replace h3 := h3.Y ew9
   replace h4 := h4.Y ew9
   replace hyz0 := Rep.Y hyz0 ew9
   replace hkz0 := hkz0.Y ew9
   replace hatz0 := hatz0.Y ew9
   replace hyz1 := Rep.Y hyz1 ew9
   replace hkz1 := hkz1.Y ew9
   replace hatz1 := hatz1.Y ew9
   replace Lw := Lw.Y ew9
   replace hB := ew9.z hB
   refine a_p 10 tK rfl rfl rfl rfl (by kernel_rfl) i3 hS ?_
   refine a_end (by kernel_rfl) ?_
   refine xS (cR (xB (xR (x1_ rfl rfl ?_))))
   rw [holdsF_eq less a b, hdy, dT ho, dF o4, dF o5, dT hn, dT o6, eka, ekb]
   exact ⟨rfl, hE⟩
  refine cK (x_blk (xS (q0 (lP 1 tK rfl ?_))))
  refine lC (oD tK (h3.cell 2 _ rfl) rfl rfl rfl rfl rfl ?_)
  refine lP 1 tK rfl ?_
  refine lC (oD tK (h4.cell 2 _ rfl) rfl rfl rfl rfl rfl ?_)
  refine lP 2 tK rfl (q1 (cR (x1_ rfl rfl ?_)))
  rw [holdsF_eq less a b, hdy, dT ho, dF o4, dF o5, dF o6]
  exact ⟨by simp, hE⟩
 have hdy : dynF less a b = false := by rw [hdr, dF hb3, dF ha3]; simp
 refine lP 5 tK rfl (q1 (c_ifF rfl (q0 (lP 1 tK rfl ?_))))
 refine lC (oD tK (h3.cell 0 _ rfl) rfl rfl rfl rfl rfl ?_)
 refine lP 1 tK rfl ?_
 refine lC (oD tK (h4.cell 0 _ rfl) rfl rfl rfl rfl rfl ?_)
 refine lP 2 tK rfl (q1 ?_)
 refine c_ifN _ rfl (fun ho => ?_) (fun ho => ?_)
 ·refine q0 (lP 1 tK rfl (q1 (cR (xB (xR (x1_ rfl rfl ?_))))))
  rw [holdsF_eq less a b, hdy, dF ho]
  exact ⟨rfl, hE⟩
 refine q0 (lP 1 tK rfl ?_)
 refine lC (oD tK (h3.cell 0 _ rfl) rfl rfl rfl rfl rfl ?_)
 refine lP 2 tK rfl (q1 ?_)
 refine cP _ rfl (fun o4 => ?_) (fun o4 => ?_)
 ·obtain ⟨ka, ra, eka, hka1, hra1⟩ := fun_kids hra (by omega)
  obtain ⟨kb, rb, ekb, hkb1, hrb1⟩ := fun_kids hrb (by omega)
  have pa : psz ka < psz a := kid_psz (by rw [eka]; simp)
  have pa2 : psz ra < psz a := kid_psz (by rw [eka]; simp)
  have pb : psz kb < psz b := kid_psz (by rw [ekb]; simp)
  have pb2 : psz rb < psz b := kid_psz (by rw [ekb]; simp)
  have hn : a.n = b.n := by rw [right_n hra (by omega), right_n hrb (by omega)]
  refine cS ?_
  refine a_beg Ext rfl ?_
  intro w10 ew10
  replace hE := ew10.bl hE hB
  replace ha := Rep.Y ha ew10
  replace hka := hka.Y ew10
  replace hb := Rep.Y hb ew10
  replace hkb := hkb.Y ew10
  replace h3 := h3.Y ew10
  replace h4 := h4.Y ew10
  replace Lw := Lw.Y ew10
  replace hB := ew10.z hB
  have hS : Ext w10 w10 := ext_refl _
  have D_hka := hka
  have D_hkb := hkb
  have D_h3 := h3
  have D_h4 := h4
  refine a_p 0 tK rfl rfl rfl rfl (by kernel_rfl) i3 hS ?_
  refine a_ld 1 tK (fun _ hs => (D_h3.Y hs).cell 3 _ rfl) rfl rfl rfl rfl rfl rfl (by kernel_rfl) i3 hS ?_
  refine a_ixS 2 tK D_hka (show a.kids[0]? = some ka by rw [eka]; rfl) rfl rfl rfl rfl rfl rfl rfl rfl rfl rfl (by kernel_rfl) i4 hS ?_
  intro ebz0 eoz0 euz0 hyz0 hatz0
  obtain ⟨kvz0, rfl, opz0, nmz0, n64z0, hkz0⟩ := tO hyz0
  replace hatz0 : At M w10 ebz0 eoz0 [.int .u8 ka.op, .string ka.name, .int .i64 ka.n, kvz0] := hatz0
  refine a_lds 3 tK (fun _ hs j v hv => (hatz0.Y hs).cell j v hv) rfl rfl rfl rfl rfl rfl rfl (by kernel_rfl) i3 hS ?_
  refine a_p 4 tK rfl rfl rfl rfl (by kernel_rfl) i3 hS ?_
  refine a_ld 5 tK (fun _ hs => (D_h4.Y hs).cell 3 _ rfl) rfl rfl rfl rfl rfl rfl (by kernel_rfl) i3 hS ?_
  refine a_ixS 6 tK D_hkb (show b.kids[0]? = some kb by rw [ekb]; rfl) rfl rfl rfl rfl rfl rfl rfl rfl rfl rfl (by kernel_rfl) i4 hS ?_
  intro ebz1 eoz1 euz1 hyz1 hatz1
  obtain ⟨kvz1, rfl, opz1, nmz1, n64z1, hkz1⟩ := tO hyz1
  replace hatz1 : At M w10 ebz1 eoz1 [.int .u8 kb.op, .string kb.name, .int .i64 kb.n, kvz1] := hatz1
  refine a_lds 7 tK (fun _ hs j v hv => (hatz1.Y hs).cell j v hv) rfl rfl rfl rfl rfl rfl rfl (by kernel_rfl) i3 hS ?_
  refine a_p 8 tK rfl rfl rfl rfl (by kernel_rfl) i3 hS ?_
  refine a_bar 9 rfl (by kernel_rfl) (by kernel_rfl) (oK fo76 rfl rfl rfl (IH ka kb (by omega) hka1 hkb1 (by omega) M _ _ _ hyz0 hyz1 Lw) ?_)
  rintro _ w11 ⟨rfl, ew11⟩
  replace hS := hS.then ew11
  replace hE := ew11.bl hE hB
  replace ha := Rep.Y ha ew11
  replace hka := hka.Y ew11
  replace hb := Rep.Y hb ew11
  replace hkb := hkb.Y ew11
  replace h3 := h3.Y ew11
  replace h4 := h4.Y ew11
  replace hyz0 := Rep.Y hyz0 ew11
  replace hkz0 := hkz0.Y ew11
  replace hatz0 := hatz0.Y ew11
  replace hyz1 := Rep.Y hyz1 ew11
  replace hkz1 := hkz1.Y ew11
  replace hatz1 := hatz1.Y ew11
  replace Lw := Lw.Y ew11
  replace hB := ew11.z hB
  refine a_p 10 tK rfl rfl rfl rfl (by kernel_rfl) i3 hS ?_
  refine a_split 40 _ rfl (fun hk1 => ?_) (fun hk1 => ?_)
  ·refine a_p 11 tK rfl rfl rfl rfl (by kernel_rfl) i3 hS ?_
   refine a_ld 12 tK (fun _ hs => (D_h3.Y hs).cell 3 _ rfl) rfl rfl rfl rfl rfl rfl (by kernel_rfl) i3 hS ?_
   refine a_ixS 13 tK D_hka (show a.kids[1]? = some ra by rw [eka]; rfl) rfl rfl rfl rfl rfl rfl rfl rfl rfl rfl (by kernel_rfl) i4 hS ?_
   intro ebz2 eoz2 euz2 hyz2 hatz2
   obtain ⟨kvz2, rfl, opz2, nmz2, n64z2, hkz2⟩ := tO hyz2
   replace hatz2 : At M w10 ebz2 eoz2 [.int .u8 ra.op, .string ra.name, .int .i64 ra.n, kvz2] := hatz2
   have D_hatz2 := hatz2
   replace hatz2 := hatz2.Y hS
   have D_hkz2 := hkz2
   replace hkz2 := hkz2.Y hS
   replace hyz2 := Rep.Y hyz2 hS
   refine a_lds 14 tK (fun _ hs j v hv => (D_hatz2.Y hs).cell j v hv) rfl rfl rfl rfl rfl rfl rfl (by kernel_rfl) i3 hS ?_
   refine a_p 15 tK rfl rfl rfl rfl (by kernel_rfl) i3 hS ?_
   refine a_ld 16 tK (fun _ hs => (D_h4.Y hs).cell 3 _ rfl) rfl rfl rfl rfl rfl rfl (by kernel_rfl) i3 hS ?_
   refine a_ixS 17 tK D_hkb (show b.kids[1]? = some rb by rw [ekb]; rfl) rfl rfl rfl rfl rfl rfl rfl rfl rfl rfl (by kernel_rfl) i4 hS ?_
   intro ebz3 eoz3 euz3 hyz3 hatz3
   obtain ⟨kvz3, rfl, opz3, nmz3, n64z3, hkz3⟩ := tO hyz3
   replace hatz3 : At M w10 ebz3 eoz3 [.int .u8 rb.op, .string rb.name, .int .i64 rb.n, kvz3] := hatz3
   have D_hatz3 := hatz3
   replace hatz3 := hatz3.Y hS
   have D_hkz3 := hkz3
   replace hkz3 := hkz3.Y hS
   replace hyz3 := Rep.Y hyz3 hS
   refine a_lds 18 tK (fun _ hs j v hv => (D_hatz3.Y hs).cell j v hv) rfl rfl rfl rfl rfl rfl rfl (by kernel_rfl) i3 hS ?_
   refine a_p 19 tK rfl rfl rfl rfl (by kernel_rfl) i3 hS ?_
   refine a_bar 20 rfl (by kernel_rfl) (by kernel_rfl) (oK fo76 rfl rfl rfl (IH ra rb (by omega) hra1 hrb1 (by omega) M _ _ _ hyz2 hyz3 Lw) ?_)
   rintro _ w12 ⟨rfl, ew12⟩
   replace hS := hS.then ew12
   replace hE := ew12.bl hE hB
   replace ha := Rep.Y ha ew12
   replace hka := hka.Y ew12
   replace hb := Rep.Y hb ew12
   replace hkb := hkb.Y ew12
   replace h3 := h3.Y ew12
   replace h4 := h4.Y ew12
   replace hyz0 := Rep.Y hyz0 ew12
   replace hkz0 := hkz0.Y ew12
   replace hatz0 := hatz0.Y ew12
   replace hyz1 := Rep.Y hyz1 ew12
   replace hkz1 := hkz1.Y ew12
   replace hatz1 := hatz1.Y ew12
   replace hyz2 := Rep.Y hyz2 ew12
   replace hkz2 := hkz2.Y ew12
   replace hatz2 := hatz2.Y ew12
   replace hyz3 := Rep.Y hyz3 ew12
   replace hkz3 := hkz3.Y ew12
   replace hatz3 := hatz3.Y ew12
   replace Lw := Lw.Y ew12
   replace hB := ew12.z hB
   refine a_p 21 tK rfl rfl rfl rfl (by kernel_rfl) i3 hS ?_
   refine a_p 22 tK rfl rfl rfl rfl (by kernel_rfl) i3 hS ?_
   refine a_end (by kernel_rfl) ?_
   refine xS (cR (xB (xR (x1_ rfl rfl ?_))))
   rw [holdsF_eq less a b, hdy, dT ho, dT hn, dT o4, eka, ekb]
   exact ⟨by show _ = Value.bool (holdsF less ka kb && holdsF less ra rb); rw [hk1]; rfl, hE⟩
  refine aK 11 rfl rfl rfl (by kernel_rfl) i3 hS ?_
  refine aK 12 rfl rfl rfl (by kernel_rfl) i3 hS ?_
  refine aK 13 rfl rfl rfl (by kernel_rfl) i3 hS ?_
  refine aK 14 rfl rfl rfl (by kernel_rfl) i3 hS ?_
  refine aK 15 rfl rfl rfl (by kernel_rfl) i3 hS ?_
  refine aK 16 rfl rfl rfl (by kernel_rfl) i3 hS ?_
  refine aK 17 rfl rfl rfl (by kernel_rfl) i3 hS ?_
  refine aK 18 rfl rfl rfl (by kernel_rfl) i3 hS ?_
  refine aK 19 rfl rfl rfl (by kernel_rfl) i3 hS ?_
  refine aK 20 rfl rfl rfl (by kernel_rfl) i3 hS ?_
  refine a_p 21 tK rfl rfl rfl rfl (by kernel_rfl) i3 hS ?_
  refine a_p 22 tK rfl rfl rfl rfl (by kernel_rfl) i3 hS ?_
  refine a_end (by kernel_rfl) ?_
  refine xS (cR (xB (xR (x1_ rfl rfl ?_))))
  rw [holdsF_eq less a b, hdy, dT ho, dT hn, dT o4, eka, ekb]
  exact ⟨by show _ = Value.bool (holdsF less ka kb && holdsF less ra rb); rw [hk1]; rfl, hE⟩
 refine q0 (lP 1 tK rfl ?_)
 refine lC (oD tK (h3.cell 0 _ rfl) rfl rfl rfl rfl rfl ?_)
 refine lP 2 tK rfl ?_
 refine lS 56 _ rfl (fun o5 => ?_) (fun o5 => ?_)
 ·obtain ⟨ka, eka, hka1⟩ := rec_kids hra (by omega)
  obtain ⟨kb, ekb, hkb1⟩ := rec_kids hrb (by omega)
  have pa : psz ka < psz a := kid_psz (by rw [eka]; simp)
  have pb : psz kb < psz b := kid_psz (by rw [ekb]; simp)
  have hn : a.n = b.n := by rw [right_n hra (by omega), right_n hrb (by omega)]
  refine lP 5 tK rfl (q1 (cI rfl (cS ?_)))
  refine a_beg Ext rfl ?_
  intro w13 ew13
  replace hE := ew13.bl hE hB
  replace ha := Rep.Y ha ew13
  replace hka := hka.Y ew13
  replace hb := Rep.Y hb ew13
  replace hkb := hkb.Y ew13
  replace h3 := h3.Y ew13
  replace h4 := h4.Y ew13
  replace Lw := Lw.Y ew13
  replace hB := ew13.z hB
  have hS : Ext w13 w13 := ext_refl _
  have D_hka := hka
  have D_hkb := hkb
  have D_h3 := h3
  have D_h4 := h4
  refine a_p 0 tK rfl rfl rfl rfl (by kernel_rfl) i3 hS ?_
  refine a_ld 1 tK (fun _ hs => (D_h3.Y hs).cell 3 _ rfl) rfl rfl rfl rfl rfl rfl (by kernel_rfl) i3 hS ?_
  refine a_ixS 2 tK D_hka (show a.kids[0]? = some ka by rw [eka]; rfl) rfl rfl rfl rfl rfl rfl rfl rfl rfl rfl (by kernel_rfl) i4 hS ?_
  intro ebz0 eoz0 euz0 hyz0 hatz0
  obtain ⟨kvz0, rfl, opz0, nmz0, n64z0, hkz0⟩ := tO hyz0
  replace hatz0 : At M w13 ebz0 eoz0 [.int .u8 ka.op, .string ka.name, .int .i64 ka.n, kvz0] := hatz0
  refine a_lds 3 tK (fun _ hs j v hv => (hatz0.Y hs).cell j v hv) rfl rfl rfl rfl rfl rfl rfl (by kernel_rfl) i3 hS ?_
  refine a_p 4 tK rfl rfl rfl rfl (by kernel_rfl) i3 hS ?_
  refine a_ld 5 tK (fun _ hs => (D_h4.Y hs).cell 3 _ rfl) rfl rfl rfl rfl rfl rfl (by kernel_rfl) i3 hS ?_
  refine a_ixS 6 tK D_hkb (show b.kids[0]? = some kb by rw [ekb]; rfl) rfl rfl rfl rfl rfl rfl rfl rfl rfl rfl (by kernel_rfl) i4 hS ?_
  intro ebz1 eoz1 euz1 hyz1 hatz1
  obtain ⟨kvz1, rfl, opz1, nmz1, n64z1, hkz1⟩ := tO hyz1
  replace hatz1 : At M w13 ebz1 eoz1 [.int .u8 kb.op, .string kb.name, .int .i64 kb.n, kvz1] := hatz1
  refine a_lds 7 tK (fun _ hs j v hv => (hatz1.Y hs).cell j v hv) rfl rfl rfl rfl rfl rfl rfl (by kernel_rfl) i3 hS ?_
  refine a_p 8 tK rfl rfl rfl rfl (by kernel_rfl) i3 hS ?_
  refine a_bar 9 rfl (by kernel_rfl) (by kernel_rfl) (oK fo77 rfl rfl rfl (refRows_of less ka kb (fun x y h => IH x y (by omega)) M _ _ _ hka1 hkb1 hyz0 hyz1 Lw (by omega) (by omega)) ?_)
  rintro _ w14 ⟨rfl, ew14⟩
  replace hS := hS.then ew14
  replace hE := ew14.bl hE hB
  replace ha := Rep.Y ha ew14
  replace hka := hka.Y ew14
  replace hb := Rep.Y hb ew14
  replace hkb := hkb.Y ew14
  replace h3 := h3.Y ew14
  replace h4 := h4.Y ew14
  replace hyz0 := Rep.Y hyz0 ew14
  replace hkz0 := hkz0.Y ew14
  replace hatz0 := hatz0.Y ew14
  replace hyz1 := Rep.Y hyz1 ew14
  replace hkz1 := hkz1.Y ew14
  replace hatz1 := hatz1.Y ew14
  replace Lw := Lw.Y ew14
  replace hB := ew14.z hB
  refine a_p 10 tK rfl rfl rfl rfl (by kernel_rfl) i3 hS ?_
  refine a_end (by kernel_rfl) ?_
  refine xS (cR (xB (xR (x1_ rfl rfl ?_))))
  rw [holdsF_eq less a b, hdy, dT ho, dF o4, dT hn, dT o5, eka, ekb]
  exact ⟨rfl, hE⟩
 refine lP 1 tK rfl ?_
 refine lC (oD tK (h3.cell 0 _ rfl) rfl rfl rfl rfl rfl ?_)
 refine lP 3 tK rfl (q1 ?_)
 refine cP _ rfl (fun o6 => ?_) (fun o6 => ?_)
 ·obtain ⟨ka, eka, hka1⟩ := rec_kids hra (by omega)
  obtain ⟨kb, ekb, hkb1⟩ := rec_kids hrb (by omega)
  have pa : psz ka < psz a := kid_psz (by rw [eka]; simp)
  have pb : psz kb < psz b := kid_psz (by rw [ekb]; simp)
  have hn : a.n = b.n := by rw [right_n hra (by omega), right_n hrb (by omega)]
  refine cS ?_
  refine a_beg Ext rfl ?_
  intro w15 ew15
  replace hE := ew15.bl hE hB
  replace ha := Rep.Y ha ew15
  replace hka := hka.Y ew15
  replace hb := Rep.Y hb ew15
  replace hkb := hkb.Y ew15
  replace h3 := h3.Y ew15
  replace h4 := h4.Y ew15
  replace Lw := Lw.Y ew15
  replace hB := ew15.z hB
  have hS : Ext w15 w15 := ext_refl _
  have D_hka := hka
  have D_hkb := hkb
  have D_h3 := h3
  have D_h4 := h4
  refine a_p 0 tK rfl rfl rfl rfl (by kernel_rfl) i3 hS ?_
  refine a_ld 1 tK (fun _ hs => (D_h3.Y hs).cell 3 _ rfl) rfl rfl rfl rfl rfl rfl (by kernel_rfl) i3 hS ?_
  refine a_ixS 2 tK D_hka (show a.kids[0]? = some ka by rw [eka]; rfl) rfl rfl rfl rfl rfl rfl rfl rfl rfl rfl (by kernel_rfl) i4 hS ?_
  intro ebz0 eoz0 euz0 hyz0 hatz0
  obtain ⟨kvz0, rfl, opz0, nmz0, n64z0, hkz0⟩ := tO hyz0
  replace hatz0 : At M w15 ebz0 eoz0 [.int .u8 ka.op, .string ka.name, .int .i64 ka.n, kvz0] := hatz0
  refine a_lds 3 tK (fun _ hs j v hv => (hatz0.Y hs).cell j v hv) rfl rfl rfl rfl rfl rfl rfl (by kernel_rfl) i3 hS ?_
  refine a_p 4 tK rfl rfl rfl rfl (by kernel_rfl) i3 hS ?_
  refine a_ld 5 tK (fun _ hs => (D_h4.Y hs).cell 3 _ rfl) rfl rfl rfl rfl rfl rfl (by kernel_rfl) i3 hS ?_
  refine a_ixS 6 tK D_hkb (show b.kids[0]? = some kb by rw [ekb]; rfl) rfl rfl rfl rfl rfl rfl rfl rfl rfl rfl (by kernel_rfl) i4 hS ?_
  intro ebz1 eoz1 euz1 hyz1 hatz1
  obtain ⟨kvz1, rfl, opz1, nmz1, n64z1, hkz1⟩ := tO hyz1
  replace hatz1 : At M w15 ebz1 eoz1 [.int .u8 kb.op, .string kb.name, .int .i64 kb.n, kvz1] := hatz1
  refine a_lds 7 tK (fun _ hs j v hv => (hatz1.Y hs).cell j v hv) rfl rfl rfl rfl rfl rfl rfl (by kernel_rfl) i3 hS ?_
  refine a_p 8 tK rfl rfl rfl rfl (by kernel_rfl) i3 hS ?_
  refine a_bar 9 rfl (by kernel_rfl) (by kernel_rfl) (oK fo77 rfl rfl rfl (refRows_of less ka kb (fun x y h => IH x y (by omega)) M _ _ _ hka1 hkb1 hyz0 hyz1 Lw (by omega) (by omega)) ?_)
  rintro _ w16 ⟨rfl, ew16⟩
  replace hS := hS.then ew16
  replace hE := ew16.bl hE hB
  replace ha := Rep.Y ha ew16
  replace hka := hka.Y ew16
  replace hb := Rep.Y hb ew16
  replace hkb := hkb.Y ew16
  replace h3 := h3.Y ew16
  replace h4 := h4.Y ew16
  replace hyz0 := Rep.Y hyz0 ew16
  replace hkz0 := hkz0.Y ew16
  replace hatz0 := hatz0.Y ew16
  replace hyz1 := Rep.Y hyz1 ew16
  replace hkz1 := hkz1.Y ew16
  replace hatz1 := hatz1.Y ew16
  replace Lw := Lw.Y ew16
  replace hB := ew16.z hB
  refine a_p 10 tK rfl rfl rfl rfl (by kernel_rfl) i3 hS ?_
  refine a_end (by kernel_rfl) ?_
  refine xS (cR (xB (xR (x1_ rfl rfl ?_))))
  rw [holdsF_eq less a b, hdy, dT ho, dF o4, dF o5, dT hn, dT o6, eka, ekb]
  exact ⟨rfl, hE⟩
 refine cK (x_blk (xS (q0 (lP 1 tK rfl ?_))))
 refine lC (oD tK (h3.cell 2 _ rfl) rfl rfl rfl rfl rfl ?_)
 refine lP 1 tK rfl ?_
 refine lC (oD tK (h4.cell 2 _ rfl) rfl rfl rfl rfl rfl ?_)
 refine lP 2 tK rfl (q1 (cR (x1_ rfl rfl ?_)))
 rw [holdsF_eq less a b, hdy, dT ho, dF o4, dF o5, dF o6]
 exact ⟨by simp, hE⟩
theorem refHolds_spec (less : Bool) : ∀ (n : Nat) (a b : Ty), psz a ≤ n → ∀ (M : Nat → Prop) (w : World) (v u : Value) (hra : rightB a = true) (hrb : rightB b = true) (ha : Rep.R M w v a) (hb : Rep.R M w u b) (Lw : Low M w) (hza : psz a ≤ 2000000) (hzb : psz b ≤ 2000000),
  Calls Try.prog 76 #[v, u, .bool less] w (Ret fun r w' => r = .bool (holdsF less a b) ∧ Ext w w') := by
 intro n
 induction n with
 | zero => intro a b h; have := psz_pos a; omega
 | succ n ih =>
  intro a b h M w v u hra hrb ha hb Lw hza hzb
  exact refHolds_of less a b (fun x y hx hrx hry hzy M w v u hx2 hy2 hl => ih x y (by omega) M w v u hrx hry hx2 hy2 hl (by omega) hzy) M w v u hra hrb ha hb Lw hza hzb
theorem refRows_spec (less : Bool) (a b : Ty) (M : Nat → Prop) (w : World) (v u : Value) (hra : rowB a = true) (hrb : rowB b = true) (ha : Rep.R M w v a) (hb : Rep.R M w u b) (Lw : Low M w) (hza : psz a ≤ 2000000) (hzb : psz b ≤ 2000000) :
  Calls Try.prog 77 #[v, u, .bool less] w (Ret fun r w' => r = .bool (rowsF less a b) ∧ Ext w w') :=
 refRows_of less a b (fun x y hx hrx hry hzy M w v u hx2 hy2 hl => refHolds_spec less _ x y (lR _) M w v u hrx hry hx2 hy2 hl (by omega) hzy) M w v u hra hrb ha hb Lw hza hzb
theorem refAsked_spec (less : Bool) (a b : Ty) (M : Nat → Prop) (w : World) (v u : Value) (ha : Rep.R M w v a) (hb : Rep.R M w u b) (Lw : Low M w) (hza : psz a ≤ 2000000) (hzb : psz b ≤ 2000000) :
  Calls Try.prog 41 #[v, u, .bool less] w (Ret fun r w' => r = .bool (askedF less a b) ∧ Ext w w') := by
 have hE := Below.refl w.heap.size w
 have hB := lR w.heap.size
 obtain ⟨kva, rfl, opa, nma, n64a, hka⟩ := tO ha
 obtain ⟨kvb, rfl, opb, nmb, n64b, hkb⟩ := tO hb
 refine cN (n := 29) Try.func41 rfl rfl rfl ?_
 refine q0 ?_
 refine lC (o_box rfl rfl rfl ?_)
 intro b3 w1 hb_b3 ew1 h3
 replace h3 : Box _ b3 25 [.int .u8 a.op, .string a.name, .int .i64 a.n, kva] := h3
 replace h3 := h3.at (nO Lw hb_b3)
 replace hE := ew1.bl hE hB
 replace ha := Rep.Y ha ew1
 replace hka := hka.Y ew1
 replace hb := Rep.Y hb ew1
 replace hkb := hkb.Y ew1
 replace Lw := Lw.Y ew1
 replace hB := ew1.z hB
 refine lC (o_box rfl rfl rfl ?_)
 intro b4 w2 hb_b4 ew2 h4
 replace h4 : Box _ b4 25 [.int .u8 b.op, .string b.name, .int .i64 b.n, kvb] := h4
 replace h4 := h4.at (nO Lw hb_b4)
 replace hE := ew2.bl hE hB
 replace ha := Rep.Y ha ew2
 replace hka := hka.Y ew2
 replace hb := Rep.Y hb ew2
 replace hkb := hkb.Y ew2
 replace h3 := h3.Y ew2
 replace Lw := Lw.Y ew2
 replace hB := ew2.z hB
 refine lP 1 tK rfl (q1 (cS (q0 ?_)))
 refine lC (oL tK (fun j v hv => h3.cell j v hv) rfl rfl rfl rfl rfl rfl ?_)
 refine lC (oK fo17 rfl rfl rfl (refRight_spec a M _ _ ha Lw hza) ?_)
 rintro _ w3 ⟨rfl, ew3⟩
 replace hE := ew3.bl hE hB
 replace ha := Rep.Y ha ew3
 replace hka := hka.Y ew3
 replace hb := Rep.Y hb ew3
 replace hkb := hkb.Y ew3
 replace h3 := h3.Y ew3
 replace h4 := h4.Y ew3
 replace Lw := Lw.Y ew3
 replace hB := ew3.z hB
 refine lP 1 tK rfl ?_
 refine l_split 9 _ rfl (fun hra => ?_) (fun hra => ?_)
 ·refine lC (oL tK (fun j v hv => h4.cell j v hv) rfl rfl rfl rfl rfl rfl ?_)
  refine lC (oK fo17 rfl rfl rfl (refRight_spec b M _ _ hb Lw hzb) ?_)
  rintro _ w4 ⟨rfl, ew4⟩
  replace hE := ew4.bl hE hB
  replace ha := Rep.Y ha ew4
  replace hka := hka.Y ew4
  replace hb := Rep.Y hb ew4
  replace hkb := hkb.Y ew4
  replace h3 := h3.Y ew4
  replace h4 := h4.Y ew4
  replace Lw := Lw.Y ew4
  replace hB := ew4.z hB
  refine lP 1 tK rfl (q1 ?_)
  refine c_if _ rfl (fun hrb => ?_) (fun hrb => ?_)
  ·have hrw := right_row hra
   refine q0 ?_
   refine lC (oL tK (fun j v hv => h3.cell j v hv) rfl rfl rfl rfl rfl rfl ?_)
   refine lC (oL tK (fun j v hv => h4.cell j v hv) rfl rfl rfl rfl rfl rfl ?_)
   refine lP 1 tK rfl ?_
   refine lC (oK fo76 rfl rfl rfl (refHolds_spec less _ a b (lR _) M _ _ _ hra hrb ha hb Lw hza hzb) ?_)
   rintro _ w5 ⟨rfl, ew5⟩
   replace hE := ew5.bl hE hB
   replace ha := Rep.Y ha ew5
   replace hka := hka.Y ew5
   replace hb := Rep.Y hb ew5
   replace hkb := hkb.Y ew5
   replace h3 := h3.Y ew5
   replace h4 := h4.Y ew5
   replace Lw := Lw.Y ew5
   replace hB := ew5.z hB
   refine lP 1 tK rfl (q1 (cR (xR (x1_ rfl rfl ?_))))
   exact ⟨by simp [askedF, *], hE⟩
  refine cK (xS (q0 ?_))
  refine lC (oL tK (fun j v hv => h3.cell j v hv) rfl rfl rfl rfl rfl rfl ?_)
  refine lC (oK fo19 rfl rfl rfl (refRow_spec a M _ _ ha Lw hza) ?_)
  rintro _ w6 ⟨rfl, ew6⟩
  replace hE := ew6.bl hE hB
  replace ha := Rep.Y ha ew6
  replace hka := hka.Y ew6
  replace hb := Rep.Y hb ew6
  replace hkb := hkb.Y ew6
  replace h3 := h3.Y ew6
  replace h4 := h4.Y ew6
  replace Lw := Lw.Y ew6
  replace hB := ew6.z hB
  refine lP 1 tK rfl ?_
  refine l_split 19 _ rfl (fun hrr => ?_) (fun hrr => ?_)
  ·refine lC (oL tK (fun j v hv => h4.cell j v hv) rfl rfl rfl rfl rfl rfl ?_)
   refine lC (oK fo19 rfl rfl rfl (refRow_spec b M _ _ hb Lw hzb) ?_)
   rintro _ w7 ⟨rfl, ew7⟩
   replace hE := ew7.bl hE hB
   replace ha := Rep.Y ha ew7
   replace hka := hka.Y ew7
   replace hb := Rep.Y hb ew7
   replace hkb := hkb.Y ew7
   replace h3 := h3.Y ew7
   replace h4 := h4.Y ew7
   replace Lw := Lw.Y ew7
   replace hB := ew7.z hB
   refine lP 2 tK rfl ?_
   refine l_split 23 _ rfl (fun hrr2 => ?_) (fun hrr2 => ?_)
   ·refine lC (oL tK (fun j v hv => h3.cell j v hv) rfl rfl rfl rfl rfl rfl ?_)
    refine lC (oL tK (fun j v hv => h4.cell j v hv) rfl rfl rfl rfl rfl rfl ?_)
    refine lP 1 tK rfl ?_
    refine lC (oK fo77 rfl rfl rfl (refRows_spec less a b M _ _ _ hrr hrr2 ha hb Lw hza hzb) ?_)
    rintro _ w8 ⟨rfl, ew8⟩
    replace hE := ew8.bl hE hB
    replace ha := Rep.Y ha ew8
    replace hka := hka.Y ew8
    replace hb := Rep.Y hb ew8
    replace hkb := hkb.Y ew8
    replace h3 := h3.Y ew8
    replace h4 := h4.Y ew8
    replace Lw := Lw.Y ew8
    replace hB := ew8.z hB
    refine lP 2 tK rfl (q1 (cR (x1_ rfl rfl ?_)))
    exact ⟨by simp [askedF, *], hE⟩
   refine lP 6 tK rfl (q1 (cR (x1_ rfl rfl ?_)))
   exact ⟨by simp [askedF, *], hE⟩
  refine lP 10 tK rfl (q1 (cR (x1_ rfl rfl ?_)))
  exact ⟨by simp [askedF, *], hE⟩
 refine lP 3 tK rfl (q1 (c_ifF rfl (cK (xS (q0 ?_)))))
 refine lC (oL tK (fun j v hv => h3.cell j v hv) rfl rfl rfl rfl rfl rfl ?_)
 refine lC (oK fo19 rfl rfl rfl (refRow_spec a M _ _ ha Lw hza) ?_)
 rintro _ w9 ⟨rfl, ew9⟩
 replace hE := ew9.bl hE hB
 replace ha := Rep.Y ha ew9
 replace hka := hka.Y ew9
 replace hb := Rep.Y hb ew9
 replace hkb := hkb.Y ew9
 replace h3 := h3.Y ew9
 replace h4 := h4.Y ew9
 replace Lw := Lw.Y ew9
 replace hB := ew9.z hB
 refine lP 1 tK rfl ?_
 refine l_split 19 _ rfl (fun hrr => ?_) (fun hrr => ?_)
 ·refine lC (oL tK (fun j v hv => h4.cell j v hv) rfl rfl rfl rfl rfl rfl ?_)
  refine lC (oK fo19 rfl rfl rfl (refRow_spec b M _ _ hb Lw hzb) ?_)
  rintro _ w10 ⟨rfl, ew10⟩
  replace hE := ew10.bl hE hB
  replace ha := Rep.Y ha ew10
  replace hka := hka.Y ew10
  replace hb := Rep.Y hb ew10
  replace hkb := hkb.Y ew10
  replace h3 := h3.Y ew10
  replace h4 := h4.Y ew10
  replace Lw := Lw.Y ew10
  replace hB := ew10.z hB
  refine lP 2 tK rfl ?_
  refine l_split 23 _ rfl (fun hrr2 => ?_) (fun hrr2 => ?_)
  ·refine lC (oL tK (fun j v hv => h3.cell j v hv) rfl rfl rfl rfl rfl rfl ?_)
   refine lC (oL tK (fun j v hv => h4.cell j v hv) rfl rfl rfl rfl rfl rfl ?_)
   refine lP 1 tK rfl ?_
   refine lC (oK fo77 rfl rfl rfl (refRows_spec less a b M _ _ _ hrr hrr2 ha hb Lw hza hzb) ?_)
   rintro _ w11 ⟨rfl, ew11⟩
   replace hE := ew11.bl hE hB
   replace ha := Rep.Y ha ew11
   replace hka := hka.Y ew11
   replace hb := Rep.Y hb ew11
   replace hkb := hkb.Y ew11
   replace h3 := h3.Y ew11
   replace h4 := h4.Y ew11
   replace Lw := Lw.Y ew11
   replace hB := ew11.z hB
   refine lP 2 tK rfl (q1 (cR (x1_ rfl rfl ?_)))
   exact ⟨by simp [askedF, *], hE⟩
  refine lP 6 tK rfl (q1 (cR (x1_ rfl rfl ?_)))
  exact ⟨by simp [askedF, *], hE⟩
 refine lP 10 tK rfl (q1 (cR (x1_ rfl rfl ?_)))
 exact ⟨by simp [askedF, *], hE⟩
end Go.Proofs.Ytpoahmeacjggfaa
namespace Rw
/-- The first place of a number in a list; -1: none. -/
def atOf (l : List Int) (n : Int) : Int := match l.findIdx? (fun x => decide (x = n)) with
  | some i => (i : Int)
  | none => -1
theorem atOf_found {l : List Int} {n : Int} {k : Nat} (hk : k < l.length) (h : l[k] = n) (hno : ∀ j, j < k → l[j]? ≠ some n) : atOf l n = (k : Int) := by
  have : l.findIdx? (fun x => decide (x = n)) = some k := by
    rw [List.findIdx?_eq_some_iff_getElem]
    refine ⟨hk, by simpa using h, fun j hj => ?_⟩
    have := hno j hj
    rw [gE (by omega)] at this
    simpa using this
  simp [atOf, this]
theorem atOf_none {l : List Int} {n : Int} {k : Nat} (hk : l.length ≤ k) (hno : ∀ j, j < k → l[j]? ≠ some n) : atOf l n = -1 := by
  have : l.findIdx? (fun x => decide (x = n)) = none := by
    rw [List.findIdx?_eq_none_iff]
    intro x hx
    obtain ⟨j, hj, rfl⟩ := List.getElem_of_mem hx
    have := hno j (by omega)
    rw [gE hj] at this
    simpa using this
  simp [atOf, this]
theorem step_no {l : List Int} {n : Int} {k : Nat} (hno : ∀ j, j < k → l[j]? ≠ some n) (hk : k < l.length) (h : ¬ l[k] = n) : ∀ j, j < k + 1 → l[j]? ≠ some n := by
  intro j hj
  by_cases e : j = k
  · subst e; rw [gE hk]; simpa using h
  · exact hno j (by omega)
theorem inOf_at {l : List Int} {n : Int} : decide ((0 : Int) ≤ atOf l n) = decide (n ∈ l) := by
  unfold atOf
  cases h : l.findIdx? (fun x => decide (x = n)) with
  | some i =>
    have h1 := h
    rw [List.findIdx?_eq_some_iff_getElem] at h1
    obtain ⟨hi, h2, _⟩ := h1
    have : n ∈ l := by
      have h3 : l[i] = n := by simpa using h2
      rw [← h3]; exact gM hi
    simp [this]
  | none =>
    rw [List.findIdx?_eq_none_iff] at h
    have : n ∉ l := fun hm => by have := h n hm; simp at this
    simp [this]
/-! ## Canonical forms are their own canonical forms -/
/-! ## Variables -/
def addV (l : List Int) (n : Int) : List Int := if n ∈ l then l else l ++ [n]
def varsTo (l : List Int) (ps : List Ty) : List Int := ps.foldl (fun l x => bif numB x.op then addV l x.n else l) l
/-- The variables of a type, by its canonical form. -/
def varsF (t : Ty) : List Int := varsTo [] (partsL (canonF t))
theorem varsTo_snoc (l : List Int) (ps : List Ty) (x : Ty) : varsTo l (ps ++ [x]) = bif numB x.op then addV (varsTo l ps) x.n else varsTo l ps := by simp [varsTo]
theorem varsTo_yes {l : List Int} {ps : List Ty} {x : Ty} (h : numB x.op = true) (hn : x.n ∉ varsTo l ps) : varsTo l (ps ++ [x]) = varsTo l ps ++ [x.n] := by rw [varsTo_snoc, h]; simp [addV, hn]
theorem varsTo_old {l : List Int} {ps : List Ty} {x : Ty} (hn : x.n ∈ varsTo l ps) : varsTo l (ps ++ [x]) = varsTo l ps := by
  rw [varsTo_snoc]
  cases numB x.op with
  | true => simp [addV, hn]
  | false => rfl
theorem varsTo_no {l : List Int} {ps : List Ty} {x : Ty} (h : numB x.op = false) : varsTo l (ps ++ [x]) = varsTo l ps := by rw [varsTo_snoc, h]; rfl
theorem addV_len (l : List Int) (n : Int) : (addV l n).length ≤ l.length + 1 := by unfold addV; split <;> simp
theorem varsTo_len (l : List Int) : ∀ ps : List Ty, (varsTo l ps).length ≤ l.length + ps.length := by
  intro ps
  induction ps generalizing l with
  | nil => simp [varsTo]
  | cons x r ih =>
    have h := ih (bif numB x.op then addV l x.n else l)
    have h2 : (bif numB x.op then addV l x.n else l).length ≤ l.length + 1 := by
      cases numB x.op with
      | true => exact addV_len l x.n
      | false => simp
    simp only [varsTo, List.foldl_cons, List.length_cons] at h ⊢
    omega
/-! ## Numbers anew -/
/-! ## A canonical form is of the same sort -/
/-! ## Without ? -/
end Rw
namespace Go.Proofs.Ytpoahmeacjggfaa
open Go Rw Go.RowKit
set_option maxRecDepth 100000
theorem each_spec (g : Nat) (caps : List Value) (B N : Nat) (I : (Nat → Prop) → List Ty → World → Prop) (hg : FnOk Try.prog g) (hx : ∀ M acc w w', I M acc w → Ext w w' → I M acc w') (hI : ∀ M acc w, I M acc w → Low M w ∧ B ≤ w.heap.size)
  (hdo : ∀ (M : Nat → Prop) acc w u x, acc.length < N → I M acc w → Rep.R M w u x → Calls Try.prog g ([u] ++ caps).toArray w (Ret fun r w' => r = .tuple #[] ∧ ∃ M', I M' (acc ++ [x]) w' ∧ Stp B M M' w w')) :
  ∀ (t : Ty) (M : Nat → Prop) (acc : List Ty) (w : World) (v : Value), acc.length + psz t ≤ N → I M acc w → Rep.R M w v t → Calls Try.prog 80 #[v, .func (.func g) #[] caps.toArray] w (Ret fun r w' => r = .tuple #[] ∧ ∃ M', I M' (acc ++ partsL t) w' ∧ Stp B M M' w w') := by
 refine Ty.ind fun t ih => ?_
 intro M acc w v hN hI0 ht
 obtain ⟨Lw, hB⟩ := hI _ _ _ hI0
 have hT : Stp B M M w w := Stp.refl Lw
 have hps := psz_eq t
 have hkl := len_psz t.kids
 obtain ⟨kv, rfl, op, nm, n64, hk⟩ := tO ht
 have hlt := hk.lt
 refine cN (n := 20) Try.func80 rfl rfl rfl ?_
 refine q0 ?_
 refine lC (o_box rfl rfl rfl ?_)
 intro b2 w1 hb_b2 ew1 h2
 replace h2 : Box _ b2 25 [.int .u8 t.op, .string t.name, .int .i64 t.n, kv] := h2
 replace h2 := h2.at (nO Lw hb_b2)
 replace hI0 := hx _ _ _ _ hI0 ew1
 replace hT := hT.then (Stp.Y ew1 Lw hB)
 replace ht := Rep.Y ht ew1
 replace hk := hk.Y ew1
 replace Lw := Lw.Y ew1
 replace hB := ew1.z hB
 refine q1 (q0 (lP 1 tK rfl ?_))
 refine lC (oL tK (fun j v hv => h2.cell j v hv) rfl rfl rfl rfl rfl rfl ?_)
 refine lC (o_dyn rfl hg rfl rfl rfl (hdo _ _ _ _ _ (by omega) hI0 ht) ?_)
 rintro _ w2 ⟨rfl, Mw2, hI0w2, sw2⟩
 replace hT := hT.then sw2
 replace ht := Rep.sp ht sw2
 replace hk := hk.sp sw2
 replace h2 := h2.sp sw2
 replace Lw := sw2.low
 replace hB := sw2.z hB
 replace hI0 := hI0w2
 refine q1 (q0 (lP 1 tK rfl ?_))
 refine lC (oD tK (h2.cell 3 _ rfl) rfl rfl rfl rfl rfl ?_)
 refine lC (o_len tK hk rfl rfl rfl rfl rfl ?_)
 refine lP 1 tK rfl (q1 (cB ?_))
 refine c_loop2 (X := Nat) (Y := Nat → Prop) (fun i M1 => [(1, .func (.func g) #[] caps.toArray), (10, kv), (11, .int .i64 (t.kids.length : Int)), (12, .int .i64 (i : Nat))]) (fun i M1 w' => i ≤ t.kids.length ∧ I M1 (acc ++ t :: (t.kids.take i).flatMap partsL) w' ∧ Sl M1 w' kv t.kids ∧ Stp B M M1 w w' ∧ Low M1 w' ∧ B ≤ w'.heap.size) (fun i M1 => t.kids.length - i) (0) (Mw2) (s4 rfl rfl rfl rfl) ?_ ?_
 ·exact ⟨Nat.zero_le _, hI0, hk, hT, Lw, hB⟩
 clear hk hI0 ht
 rintro i M1 w3 ⟨hi, hI0, hk, hT, Lw, hB⟩
 refine q0 (lP 1 tK rfl (q1 (cS ?_)))
 refine cP _ rfl (fun c1 => ?_) (fun c1 => ?_)
 ·refine cK (xS (cS (cB (q0 ?_))))
  have hik : i < t.kids.length := by omega
  have e3 := take_psz t.kids (i + 1)
  rw [show pszs (t.kids.take (i + 1)) = pszs (t.kids.take i) + psz t.kids[i] by unfold pszs; rw [take_step hik, List.length_append]; rfl] at e3
  refine lC (o_ixS tK hk (gE hik) rfl rfl rfl rfl rfl rfl rfl rfl rfl ?_)
  intro ebx eox eux hyx hX
  obtain ⟨kvx, rfl, opx, nmx, n64x, hkx⟩ := tO hyx
  replace hX : At M1 w3 ebx eox [.int .u8 t.kids[i].op, .string t.kids[i].name, .int .i64 t.kids[i].n, kvx] := hX
  refine lC (oL tK (fun j v hv => hX.cell j v hv) rfl rfl rfl rfl rfl rfl ?_)
  refine lC (o_new tK rfl rfl rfl ?_)
  intro b5 w4 qb5 ew4 hb5
  have nb5 := nO Lw qb5
  refine lC (o_st tK hb5 rfl rfl rfl rfl (Rep.one hyx) rfl rfl ?_)
  intro w5 h5 uw5 bew5
  have ew5 : Ext w3 w5 := ew4.trans (bew5 _ (lQ qb5.symm))
  replace hI0 := hx _ _ _ _ hI0 ew5
  replace hT := hT.then (Stp.Y ew5 Lw hB)
  replace hk := hk.Y ew5
  replace hyx := Rep.Y hyx ew5
  replace hkx := hkx.Y ew5
  replace hX := hX.Y ew5
  replace Lw := Lw.Y ew5
  replace hB := ew5.z hB
  replace h5 : Box w5 b5 25 [.int .u8 t.kids[i].op, .string t.kids[i].name, .int .i64 t.kids[i].n, kvx] := h5
  replace h5 := h5.at nb5
  refine q1 (cG ?_)
  refine lC (oL tK (fun j v hv => h5.cell j v hv) rfl rfl rfl rfl rfl rfl ?_)
  refine lP 1 tK rfl ?_
  have hal : (acc ++ t :: (t.kids.take i).flatMap partsL).length = acc.length + 1 + pszs (t.kids.take i) := by simp [pszs]; omega
  refine lC (oK fo80 rfl rfl rfl (ih _ (gM hik) _ _ _ _ (by omega) hI0 hyx) ?_)
  rintro _ w6 ⟨rfl, Mw6, hI0w6, sw6⟩
  replace hT := hT.then sw6
  replace hk := hk.sp sw6
  replace hyx := Rep.sp hyx sw6
  replace hkx := hkx.sp sw6
  replace hX := hX.sp sw6
  replace h5 := h5.sp sw6
  replace Lw := sw6.low
  replace hB := sw6.z hB
  replace hI0 := hI0w6
  refine q2 (xS (cG ?_))
  refine lC (o_ai rfl rfl rfl (by omega) rfl rfl ?_)
  refine lP 1 tK rfl (lN ?_)
  exact xN (i + 1) (Mw6) (s4 rfl rfl rfl (gN rfl (by omega))) ⟨by omega, by rw [take_step hik]; simpa using hI0, hk, hT, Lw, hB⟩ (by omega)
 refine c_exit (xE (xE (x_blkE ?_)))
 refine x_ret0n rfl ?_
 obtain rfl : i = t.kids.length := by omega
 rw [List.take_of_length_le (lR _), ← partsL_eq] at hI0
 exact ⟨rfl, _, hI0, hT⟩
/-- Between two parts: the variables so far. -/
def VI (B b1 b2 bm : Nat) (M : Nat → Prop) (acc : List Ty) (w : World) : Prop := ∃ v m, MB B M w b1 68 [.map (some bm)] ∧ MB B M w b2 46 [v] ∧ OM (κ := Int) (fun x : Bool => Value.bool x) B M w bm m ∧ OwnSl 3 B M w v (varsTo [] acc) ∧ (∀ n, (getK m n).getD false = decide (n ∈ varsTo [] acc)) ∧
 b1 ≠ b2 ∧ b1 ≠ bm ∧ b2 ≠ bm ∧ (∀ x, (v : Value).ownBlock = some x → x ≠ b1) ∧ (∀ x, (v : Value).ownBlock = some x → x ≠ b2) ∧ (∀ x, (v : Value).ownBlock = some x → x ≠ bm) ∧ Low M w ∧ B ≤ w.heap.size
theorem VI.Y {B b1 b2 bm : Nat} {M : Nat → Prop} {acc : List Ty} {w w' : World} (h : VI B b1 b2 bm M acc w) (e : Ext w w') : VI B b1 b2 bm M acc w' := by
 obtain ⟨v, m, h1, h2, hm, ho, hg, r1, r2, r3, r4, r5, r6, Lw, hB⟩ := h
 exact ⟨v, m, h1.Y Lw hB e, h2.Y Lw hB e, hm.Y Lw hB e, ho.Y Lw hB e, hg, r1, r2, r3, r4, r5, r6, Lw.Y e, Nat.le_trans hB e.size⟩
theorem varsDo_spec (B b1 b2 bm : Nat) (M : Nat → Prop) (acc : List Ty) (w : World) (v : Value) (t : Ty) (hN : acc.length < 2000000) (hI : VI B b1 b2 bm M acc w) (ht : Rep.R M w v t) :
  Calls Try.prog 81 #[v, .pointer (some ⟨b1, 0, none⟩), .pointer (some ⟨b2, 0, none⟩)] w (Ret fun r w' => r = .tuple #[] ∧ ∃ M', VI B b1 b2 bm M' (acc ++ [t]) w' ∧ Stp B M M' w w') := by
 obtain ⟨lv, m, h1, h2, hm, ho, hg, ne_h1_h2, ne_h1_hm, ne_h2_hm, d_ho_h1, d_ho_h2, d_ho_hm, Lw, hB⟩ := hI
 have hT : Stp B M M w w := Stp.refl Lw
 have hvl := varsTo_len [] acc
 simp only [List.length_nil, Nat.zero_add] at hvl
 obtain ⟨kv, rfl, op, nm, n64, hk⟩ := tO ht
 refine cN (n := 27) Try.func81 rfl rfl rfl ?_
 refine q0 ?_
 refine lC (o_box rfl rfl rfl ?_)
 intro b3 w1 hb_b3 ew1 h3
 replace h3 : Box _ b3 25 [.int .u8 t.op, .string t.name, .int .i64 t.n, kv] := h3
 replace h3 := h3.at (nO Lw hb_b3)
 replace hT := hT.then (Stp.Y ew1 Lw hB)
 replace h1 := h1.Y Lw hB ew1
 replace h2 := h2.Y Lw hB ew1
 replace hm := hm.Y Lw hB ew1
 replace ho := ho.Y Lw hB ew1
 replace ht := Rep.Y ht ew1
 replace hk := hk.Y ew1
 replace Lw := Lw.Y ew1
 replace hB := ew1.z hB
 refine q1 (q0 (lP 1 tK rfl ?_))
 refine lC (oD tK (h3.cell 0 _ rfl) rfl rfl rfl rfl rfl ?_)
 refine lP 2 tK rfl ?_
 refine lS 7 _ rfl (fun c1 => ?_) (fun c1 => ?_)
 ·refine lP 5 tK rfl ?_
  refine lC (oD tK (h1.cell 0 _ rfl) rfl rfl rfl rfl rfl ?_)
  refine lP 1 tK rfl ?_
  refine lC (oD tK (h3.cell 2 _ rfl) rfl rfl rfl rfl rfl ?_)
  refine lC (o_look (z := false) tK hm.map (k := t.n) rfl rfl rfl rfl ⟨_, Try.underlying3, rfl⟩ rfl rfl rfl rfl ?_)
  refine lP 2 tK rfl (q1 ?_)
  refine c_ifB _ rfl (fun c2 => ?_) (fun c2 => ?_)
  ·refine q0 ?_
   refine lC (oD tK (h1.cell 0 _ rfl) rfl rfl rfl rfl rfl ?_)
   refine lP 1 tK rfl ?_
   refine lC (oD tK (h3.cell 2 _ rfl) rfl rfl rfl rfl rfl ?_)
   refine lC (o_mupd tK hm.map (k := t.n) (v := true) rfl rfl rfl rfl rfl ⟨_, Try.underlying3, rfl⟩ rfl ?_)
   intro w2 hw2 qw2 bew2
   have uw2 : UpdB _ _ _ := ⟨qw2, bew2⟩
   have sw2 := uw2.sp hm.inM Lw hm.ge
   have frw2 := qw2.2
   replace hT := hT.then sw2
   replace h1 := h1.sp sw2 (frw2 b1 h1.lt ne_h1_hm)
   replace h2 := h2.sp sw2 (frw2 b2 h2.lt ne_h2_hm)
   replace ho := ho.sp sw2 (fun x hx => frw2 x (ho.lt x hx).2 (d_ho_hm x hx))
   replace ht := Rep.sp ht sw2
   replace hk := hk.sp sw2
   replace h3 := h3.sp sw2
   replace Lw := sw2.low
   replace hB := sw2.z hB
   replace hm : OM _ _ _ w2 _ (putK m t.n true) := ⟨hw2, hm.inM, hm.ge⟩
   refine q1 (cG ?_)
   refine lC (oD tK (h2.cell 0 _ rfl) rfl rfl rfl rfl rfl ?_)
   refine lP 1 tK rfl ?_
   refine lC (oD tK (h3.cell 2 _ rfl) rfl rfl rfl rfl rfl ?_)
   refine lC (o_bs tK rfl rfl rfl rfl rfl rfl rfl (sz1 rfl) rfl rfl rfl ?_)
   intro bw3 w3 qbw3 ew3 hbw3
   have nbw3 := nO Lw qbw3
   replace hT := hT.then (Stp.Y ew3 Lw hB)
   replace h1 := h1.Y Lw hB ew3
   replace h2 := h2.Y Lw hB ew3
   replace hm := hm.Y Lw hB ew3
   replace ho := ho.Y Lw hB ew3
   replace ht := Rep.Y ht ew3
   replace hk := hk.Y ew3
   replace h3 := h3.Y ew3
   replace Lw := Lw.Y ew3
   replace hB := ew3.z hB
   refine lC (o_app1 tK ho hbw3 nbw3 ⟨rfl, n64⟩ Lw hB rfl rfl rfl rfl rfl rfl rfl (by omega) (by show (_ + _) * 8 ≤ _; omega) rfl rfl ?_)
   intro vw4 w4 Mw4 hw4 sw4 frw4 blw4
   have zd_ho_h1 := d_ho_h1
   replace d_ho_h1 : ∀ x, (vw4 : Value).ownBlock = some x → x ≠ b1 := fun x hx => (blw4 x hx).elim (d_ho_h1 x) (fun h e => by have := h1.lt; omega)
   have zd_ho_h2 := d_ho_h2
   replace d_ho_h2 : ∀ x, (vw4 : Value).ownBlock = some x → x ≠ b2 := fun x hx => (blw4 x hx).elim (d_ho_h2 x) (fun h e => by have := h2.lt; omega)
   have zd_ho_hm := d_ho_hm
   replace d_ho_hm : ∀ x, (vw4 : Value).ownBlock = some x → x ≠ bm := fun x hx => (blw4 x hx).elim (d_ho_hm x) (fun h e => by have := hm.lt; omega)
   replace hT := hT.then sw4
   replace h1 := h1.sp sw4 (frw4 b1 h1.lt (fun e => zd_ho_h1 _ e.symm rfl))
   replace h2 := h2.sp sw4 (frw4 b2 h2.lt (fun e => zd_ho_h2 _ e.symm rfl))
   replace hm := hm.sp sw4 (frw4 bm hm.lt (fun e => zd_ho_hm _ e.symm rfl))
   replace ht := Rep.sp ht sw4
   replace hk := hk.sp sw4
   replace h3 := h3.sp sw4
   replace Lw := sw4.low
   replace hB := sw4.z hB
   replace ho := hw4
   clear hw4
   obtain ⟨av6, cv6, rfl, _⟩ := ho.val
   refine lC (o_st tK h2.box rfl rfl rfl rfl (by simp [Value.cells, Value.oneCell']) rfl rfl ?_)
   intro w5 hw5 qw5 bew5
   have uw5 : UpdB _ _ _ := ⟨qw5, bew5⟩
   have sw5 := uw5.sp h2.inM Lw h2.ge
   have frw5 := qw5.2
   replace hT := hT.then sw5
   replace h1 := h1.sp sw5 (frw5 b1 h1.lt ne_h1_h2)
   replace hm := hm.sp sw5 (frw5 bm hm.lt ne_h2_hm.symm)
   replace ho := ho.sp sw5 (fun x hx => frw5 x (ho.lt x hx).2 (d_ho_h2 x hx))
   replace ht := Rep.sp ht sw5
   replace hk := hk.sp sw5
   replace h3 := h3.sp sw5
   replace Lw := sw5.low
   replace hB := sw5.z hB
   replace h2 : MB B _ w5 b2 _ [(.slice av6 (varsTo [] acc ++ [t.n]).length cv6)] := ⟨hw5, h2.inM, h2.ge⟩
   refine lN ?_
   refine x_ret0n rfl ?_
   have hnm : numB t.op = true := by simp [numB, *]
   have hni : t.n ∉ varsTo [] acc := by
    intro h
    have h2 := hg t.n
    rw [dT h] at h2
    simp_all
   refine ⟨rfl, _, ⟨_, _, h1, h2, hm, by rw [varsTo_yes hnm hni]; exact ho, fun n => ?_, ne_h1_h2, ne_h1_hm, ne_h2_hm, d_ho_h1, d_ho_h2, d_ho_hm, Lw, hB⟩, hT⟩
   rw [getK_put, varsTo_yes hnm hni]
   by_cases e : n = t.n
   ·subst e; simp
   ·rw [if_neg e, hg n]; simp [e]
  refine cK ?_
  refine x_ret0n rfl ?_
  have hvs : varsTo [] (acc ++ [t]) = varsTo [] acc := by
   cases hnm : numB t.op with
   | false => exact varsTo_no hnm
   | true =>
    refine varsTo_old ?_
    have h2 := hg t.n
    unfold numB at hnm
    simp_all
  refine ⟨rfl, _, ⟨_, _, h1, h2, hm, by rw [hvs]; exact ho, fun n => by rw [hvs]; exact hg n, ne_h1_h2, ne_h1_hm, ne_h2_hm, d_ho_h1, d_ho_h2, d_ho_hm, Lw, hB⟩, hT⟩
 refine lP 1 tK rfl ?_
 refine lC (oD tK (h3.cell 0 _ rfl) rfl rfl rfl rfl rfl ?_)
 refine lP 3 tK rfl ?_
 refine lS 12 _ rfl (fun c3 => ?_) (fun c3 => ?_)
 ·refine lC (oD tK (h1.cell 0 _ rfl) rfl rfl rfl rfl rfl ?_)
  refine lP 1 tK rfl ?_
  refine lC (oD tK (h3.cell 2 _ rfl) rfl rfl rfl rfl rfl ?_)
  refine lC (o_look (z := false) tK hm.map (k := t.n) rfl rfl rfl rfl ⟨_, Try.underlying3, rfl⟩ rfl rfl rfl rfl ?_)
  refine lP 2 tK rfl (q1 ?_)
  refine c_ifB _ rfl (fun c4 => ?_) (fun c4 => ?_)
  ·refine q0 ?_
   refine lC (oD tK (h1.cell 0 _ rfl) rfl rfl rfl rfl rfl ?_)
   refine lP 1 tK rfl ?_
   refine lC (oD tK (h3.cell 2 _ rfl) rfl rfl rfl rfl rfl ?_)
   refine lC (o_mupd tK hm.map (k := t.n) (v := true) rfl rfl rfl rfl rfl ⟨_, Try.underlying3, rfl⟩ rfl ?_)
   intro w6 hw6 qw6 bew6
   have uw6 : UpdB _ _ _ := ⟨qw6, bew6⟩
   have sw6 := uw6.sp hm.inM Lw hm.ge
   have frw6 := qw6.2
   replace hT := hT.then sw6
   replace h1 := h1.sp sw6 (frw6 b1 h1.lt ne_h1_hm)
   replace h2 := h2.sp sw6 (frw6 b2 h2.lt ne_h2_hm)
   replace ho := ho.sp sw6 (fun x hx => frw6 x (ho.lt x hx).2 (d_ho_hm x hx))
   replace ht := Rep.sp ht sw6
   replace hk := hk.sp sw6
   replace h3 := h3.sp sw6
   replace Lw := sw6.low
   replace hB := sw6.z hB
   replace hm : OM _ _ _ w6 _ (putK m t.n true) := ⟨hw6, hm.inM, hm.ge⟩
   refine q1 (cG ?_)
   refine lC (oD tK (h2.cell 0 _ rfl) rfl rfl rfl rfl rfl ?_)
   refine lP 1 tK rfl ?_
   refine lC (oD tK (h3.cell 2 _ rfl) rfl rfl rfl rfl rfl ?_)
   refine lC (o_bs tK rfl rfl rfl rfl rfl rfl rfl (sz1 rfl) rfl rfl rfl ?_)
   intro bw7 w7 qbw7 ew7 hbw7
   have nbw7 := nO Lw qbw7
   replace hT := hT.then (Stp.Y ew7 Lw hB)
   replace h1 := h1.Y Lw hB ew7
   replace h2 := h2.Y Lw hB ew7
   replace hm := hm.Y Lw hB ew7
   replace ho := ho.Y Lw hB ew7
   replace ht := Rep.Y ht ew7
   replace hk := hk.Y ew7
   replace h3 := h3.Y ew7
   replace Lw := Lw.Y ew7
   replace hB := ew7.z hB
   refine lC (o_app1 tK ho hbw7 nbw7 ⟨rfl, n64⟩ Lw hB rfl rfl rfl rfl rfl rfl rfl (by omega) (by show (_ + _) * 8 ≤ _; omega) rfl rfl ?_)
   intro vw8 w8 Mw8 hw8 sw8 frw8 blw8
   have zd_ho_h1 := d_ho_h1
   replace d_ho_h1 : ∀ x, (vw8 : Value).ownBlock = some x → x ≠ b1 := fun x hx => (blw8 x hx).elim (d_ho_h1 x) (fun h e => by have := h1.lt; omega)
   have zd_ho_h2 := d_ho_h2
   replace d_ho_h2 : ∀ x, (vw8 : Value).ownBlock = some x → x ≠ b2 := fun x hx => (blw8 x hx).elim (d_ho_h2 x) (fun h e => by have := h2.lt; omega)
   have zd_ho_hm := d_ho_hm
   replace d_ho_hm : ∀ x, (vw8 : Value).ownBlock = some x → x ≠ bm := fun x hx => (blw8 x hx).elim (d_ho_hm x) (fun h e => by have := hm.lt; omega)
   replace hT := hT.then sw8
   replace h1 := h1.sp sw8 (frw8 b1 h1.lt (fun e => zd_ho_h1 _ e.symm rfl))
   replace h2 := h2.sp sw8 (frw8 b2 h2.lt (fun e => zd_ho_h2 _ e.symm rfl))
   replace hm := hm.sp sw8 (frw8 bm hm.lt (fun e => zd_ho_hm _ e.symm rfl))
   replace ht := Rep.sp ht sw8
   replace hk := hk.sp sw8
   replace h3 := h3.sp sw8
   replace Lw := sw8.low
   replace hB := sw8.z hB
   replace ho := hw8
   clear hw8
   obtain ⟨av6, cv6, rfl, _⟩ := ho.val
   refine lC (o_st tK h2.box rfl rfl rfl rfl (by simp [Value.cells, Value.oneCell']) rfl rfl ?_)
   intro w9 hw9 qw9 bew9
   have uw9 : UpdB _ _ _ := ⟨qw9, bew9⟩
   have sw9 := uw9.sp h2.inM Lw h2.ge
   have frw9 := qw9.2
   replace hT := hT.then sw9
   replace h1 := h1.sp sw9 (frw9 b1 h1.lt ne_h1_h2)
   replace hm := hm.sp sw9 (frw9 bm hm.lt ne_h2_hm.symm)
   replace ho := ho.sp sw9 (fun x hx => frw9 x (ho.lt x hx).2 (d_ho_h2 x hx))
   replace ht := Rep.sp ht sw9
   replace hk := hk.sp sw9
   replace h3 := h3.sp sw9
   replace Lw := sw9.low
   replace hB := sw9.z hB
   replace h2 : MB B _ w9 b2 _ [(.slice av6 (varsTo [] acc ++ [t.n]).length cv6)] := ⟨hw9, h2.inM, h2.ge⟩
   refine lN ?_
   refine x_ret0n rfl ?_
   have hnm : numB t.op = true := by simp [numB, *]
   have hni : t.n ∉ varsTo [] acc := by
    intro h
    have h2 := hg t.n
    rw [dT h] at h2
    simp_all
   refine ⟨rfl, _, ⟨_, _, h1, h2, hm, by rw [varsTo_yes hnm hni]; exact ho, fun n => ?_, ne_h1_h2, ne_h1_hm, ne_h2_hm, d_ho_h1, d_ho_h2, d_ho_hm, Lw, hB⟩, hT⟩
   rw [getK_put, varsTo_yes hnm hni]
   by_cases e : n = t.n
   ·subst e; simp
   ·rw [if_neg e, hg n]; simp [e]
  refine cK ?_
  refine x_ret0n rfl ?_
  have hvs : varsTo [] (acc ++ [t]) = varsTo [] acc := by
   cases hnm : numB t.op with
   | false => exact varsTo_no hnm
   | true =>
    refine varsTo_old ?_
    have h2 := hg t.n
    unfold numB at hnm
    simp_all
  refine ⟨rfl, _, ⟨_, _, h1, h2, hm, by rw [hvs]; exact ho, fun n => by rw [hvs]; exact hg n, ne_h1_h2, ne_h1_hm, ne_h2_hm, d_ho_h1, d_ho_h2, d_ho_hm, Lw, hB⟩, hT⟩
 refine lP 6 tK rfl (q1 (c_ifF rfl (cK ?_)))
 refine x_ret0n rfl ?_
 have hvs : varsTo [] (acc ++ [t]) = varsTo [] acc := by
  cases hnm : numB t.op with
  | false => exact varsTo_no hnm
  | true =>
   refine varsTo_old ?_
   have h2 := hg t.n
   unfold numB at hnm
   simp_all
 refine ⟨rfl, _, ⟨_, _, h1, h2, hm, by rw [hvs]; exact ho, fun n => by rw [hvs]; exact hg n, ne_h1_h2, ne_h1_hm, ne_h2_hm, d_ho_h1, d_ho_h2, d_ho_hm, Lw, hB⟩, hT⟩
theorem kVars_spec (t : Ty) (M : Nat → Prop) (w : World) (v : Value) (ht : Rep.R M w v t) (hlow0 : Low M w) (hz : psz t ≤ 2000000) :
  Calls Try.prog 45 #[v] w (Ret fun r w' => Sl M w' r (bif rightB t || rowB t then varsF t else []) ∧ Ext w w') := by
 have Lw := hlow0
 have hB := lR w.heap.size
 have hE := Below.refl w.heap.size w
 have hsub : ∀ b, M b → M b := fun _ h => h
 obtain ⟨kv, rfl, op, nm, n64, hk⟩ := tO ht
 refine cN (n := 14) Try.func45 rfl rfl rfl ?_
 refine q0 ?_
 refine lC (o_box rfl rfl rfl ?_)
 intro b1 w1 hb_b1 ew1 h1
 replace h1 : Box _ b1 25 [.int .u8 t.op, .string t.name, .int .i64 t.n, kv] := h1
 replace h1 := h1.at (nO Lw hb_b1)
 replace hE := ew1.bl hE hB
 replace ht := Rep.Y ht ew1
 replace hk := hk.Y ew1
 replace Lw := Lw.Y ew1
 replace hB := ew1.z hB
 refine lP 1 tK rfl (q1 (cS (q0 ?_)))
 refine lC (oL tK (fun j v hv => h1.cell j v hv) rfl rfl rfl rfl rfl rfl ?_)
 refine lC (oK fo70 rfl rfl rfl (either_specB t _ _ _ ht Lw) ?_)
 rintro _ w2 ⟨rfl, ew2⟩
 replace hE := ew2.bl hE hB
 replace ht := Rep.Y ht ew2
 replace hk := hk.Y ew2
 replace h1 := h1.Y ew2
 replace Lw := Lw.Y ew2
 replace hB := ew2.z hB
 refine lP 1 tK rfl (q1 ?_)
 refine c_ifB _ rfl (fun hr => ?_) (fun hr => ?_)
 ·refine q0 (lP 1 tK rfl (q1 (cR (xR (x1_ rfl rfl ?_)))))
  exact ⟨by rw [show (rightB t || rowB t) = false from hr]; exact sl_nil, hE⟩
 refine cK (xS (q0 ?_))
 refine lC (o_new tK rfl rfl rfl ?_)
 intro b3 w3 qb3 ew3 hb3
 have sw3 := Stp.add ew3 Lw hB (lQ qb3.symm) hb3.lt
 have h3 : MB w.heap.size (Rw.Add M b3) w3 b3 46 [.slice none 0 0] := MB.mk' hb3 qb3 hB
 replace hE := hE.trans sw3.below
 replace ht := Rep.sp ht sw3
 replace hk := hk.sp sw3
 replace h1 := h1.sp sw3
 replace hsub := sw3.sb hsub
 replace Lw := sw3.low
 replace hB := sw3.z hB
 refine q1 (q0 ?_)
 refine lC (o_mkmap (κ := Int) (ν := Bool) (va := (fun x : Bool => Value.bool x)) rfl rfl ?_)
 intro bm w4 qbm ew4 ltbm hbm
 have ne_h3_hm : b3 ≠ bm := by have := h3.lt; omega
 have sw4 := Stp.add ew4 Lw hB (lQ qbm.symm) ltbm
 have hm : OM (κ := Int) (fun x : Bool => Value.bool x) w.heap.size (Rw.Add (Rw.Add M b3) bm) w4 bm [] := OM.mk' hbm qbm hB
 replace h3 := h3.sp sw4 (ew4.block b3 h3.lt)
 replace hE := hE.trans sw4.below
 replace ht := Rep.sp ht sw4
 replace hk := hk.sp sw4
 replace h1 := h1.sp sw4
 replace hsub := sw4.sb hsub
 replace Lw := sw4.low
 replace hB := sw4.z hB
 refine lC (o_new tK rfl rfl rfl ?_)
 intro b4 w5 qb4 ew5 hb4
 have ne_h3_h4 : b3 ≠ b4 := by have := h3.lt; omega
 have ne_hm_h4 : bm ≠ b4 := by have := hm.lt; omega
 have sw5 := Stp.add ew5 Lw hB (lQ qb4.symm) hb4.lt
 have h4 : MB w.heap.size (Rw.Add (Rw.Add (Rw.Add M b3) bm) b4) w5 b4 68 [.map none] := MB.mk' hb4 qb4 hB
 replace h3 := h3.sp sw5 (ew5.block b3 h3.lt)
 replace hm := hm.sp sw5 (ew5.block bm hm.lt)
 replace hE := hE.trans sw5.below
 replace ht := Rep.sp ht sw5
 replace hk := hk.sp sw5
 replace h1 := h1.sp sw5
 replace hsub := sw5.sb hsub
 replace Lw := sw5.low
 replace hB := sw5.z hB
 refine lC (o_st tK h4.box rfl rfl rfl rfl (by intro u hu; simp [Value.cells] at hu; subst hu; rfl) rfl rfl ?_)
 intro w6 hw6 qw6 bew6
 have uw6 : UpdB _ _ _ := ⟨qw6, bew6⟩
 have sw6 := uw6.sp h4.inM Lw h4.ge
 have frw6 := qw6.2
 replace h3 := h3.sp sw6 (frw6 b3 h3.lt ne_h3_h4)
 replace hm := hm.sp sw6 (frw6 bm hm.lt ne_hm_h4)
 replace hE := hE.trans sw6.below
 replace ht := Rep.sp ht sw6
 replace hk := hk.sp sw6
 replace h1 := h1.sp sw6
 replace hsub := sw6.sb hsub
 replace Lw := sw6.low
 replace hB := sw6.z hB
 replace h4 : MB w.heap.size _ w6 b4 _ [.map (some bm)] := ⟨hw6, h4.inM, h4.ge⟩
 refine q1 (q0 ?_)
 refine lC (oL tK (fun j v hv => h1.cell j v hv) rfl rfl rfl rfl rfl rfl ?_)
 refine lC (oK fo73 rfl rfl rfl (canon_all _ t _ _ _ _ (lR _) (Classical.choose_spec (shape_either hr)) ht Lw hz) ?_)
 rintro vc w7 ⟨hc, ew7⟩
 replace h3 := h3.Y Lw hB ew7
 replace hm := hm.Y Lw hB ew7
 replace h4 := h4.Y Lw hB ew7
 replace hE := ew7.bl hE hB
 replace ht := Rep.Y ht ew7
 replace hk := hk.Y ew7
 replace h1 := h1.Y ew7
 replace Lw := Lw.Y ew7
 replace hB := ew7.z hB
 refine lP 1 tK rfl ?_
 have hpc := psz_canon _ t (lR _)
 have hvl0 := varsTo_len [] (partsL (canonF t))
 have hvl1 : (partsL (canonF t)).length = psz (canonF t) := rfl
 simp only [List.length_nil, Nat.zero_add] at hvl0
 have hV : VI w.heap.size b4 b3 bm (Rw.Add (Rw.Add (Rw.Add M b3) bm) b4) [] w7 := ⟨_, _, h4, h3, hm, own_nil, fun n => by simp [getK, varsTo], ne_h3_h4.symm, ne_hm_h4.symm, ne_h3_hm, fun x hx => by simp [Value.ownBlock] at hx, fun x hx => by simp [Value.ownBlock] at hx, fun x hx => by simp [Value.ownBlock] at hx, Lw, hB⟩
 refine lC (oK fo80 rfl rfl rfl (each_spec 81 [.pointer (some ⟨b4, 0, none⟩), .pointer (some ⟨b3, 0, none⟩)] w.heap.size 2000000 (VI w.heap.size b4 b3 bm) fo81 (fun _ _ _ _ h e => h.Y e) (fun _ _ _ h => by obtain ⟨v, m, h1, h2, hm, ho, hg, r1, r2, r3, r4, r5, r6, Lw, hB⟩ := h; exact ⟨Lw, hB⟩) (fun M acc w u x hN hI hu => varsDo_spec _ _ _ _ M acc w u x hN hI hu) (canonF t) _ [] _ _ (by simp only [List.length_nil]; omega) hV hc) ?_)
 rintro _ w8 ⟨rfl, Mw8, hV2, sw8⟩
 replace hE := hE.trans sw8.below
 replace ht := Rep.sp ht sw8
 replace hk := hk.sp sw8
 replace h1 := h1.sp sw8
 replace hc := Rep.sp hc sw8
 replace hsub := sw8.sb hsub
 replace Lw := sw8.low
 replace hB := sw8.z hB
 obtain ⟨lv, m2, h4, h3, hm, ho, _, _, _, _, _, _, _, _, _⟩ := hV2
 rw [List.nil_append] at ho
 refine q1 (q0 ?_)
 refine lC (oD tK (h3.cell 0 _ rfl) rfl rfl rfl rfl rfl ?_)
 refine lP 1 tK rfl (q1 (cR (x1_ rfl rfl ?_)))
 refine ⟨?_, hE⟩
 rw [show (rightB t || rowB t) = true from hr]
 exact ho.sl (by omega) hlow0 hsub
theorem kClosed_spec (t : Ty) (M : Nat → Prop) (w : World) (v : Value) (ht : Rep.R M w v t) (Lw : Low M w) (hz : psz t ≤ 2000000) :
  Calls Try.prog 46 #[v] w (Ret fun r w' => r = .bool ((rightB t || rowB t) && decide (varsF t = [])) ∧ Ext w w') := by
 have hE := Below.refl w.heap.size w
 have hB := lR w.heap.size
 obtain ⟨kv, rfl, op, nm, n64, hk⟩ := tO ht
 refine cN (n := 11) Try.func46 rfl rfl rfl ?_
 refine q0 ?_
 refine lC (o_box rfl rfl rfl ?_)
 intro b1 w1 hb_b1 ew1 h1
 replace h1 : Box _ b1 25 [.int .u8 t.op, .string t.name, .int .i64 t.n, kv] := h1
 replace h1 := h1.at (nO Lw hb_b1)
 replace hE := ew1.bl hE hB
 replace ht := Rep.Y ht ew1
 replace hk := hk.Y ew1
 replace Lw := Lw.Y ew1
 replace hB := ew1.z hB
 refine lP 1 tK rfl (q1 (q0 ?_))
 refine lC (oL tK (fun j v hv => h1.cell j v hv) rfl rfl rfl rfl rfl rfl ?_)
 refine lC (oK fo70 rfl rfl rfl (either_specB t _ _ _ ht Lw) ?_)
 rintro _ w2 ⟨rfl, ew2⟩
 replace hE := ew2.bl hE hB
 replace ht := Rep.Y ht ew2
 replace hk := hk.Y ew2
 replace h1 := h1.Y ew2
 replace Lw := Lw.Y ew2
 replace hB := ew2.z hB
 refine lP 1 tK rfl ?_
 refine l_split 5 _ rfl (fun hr => ?_) (fun hr => ?_)
 ·refine lC (oL tK (fun j v hv => h1.cell j v hv) rfl rfl rfl rfl rfl rfl ?_)
  refine lC (oK fo45 rfl rfl rfl (kVars_spec t _ _ _ ht Lw hz) ?_)
  rintro vhv w3 ⟨hv, ew3⟩
  replace hE := ew3.bl hE hB
  replace ht := Rep.Y ht ew3
  replace hk := hk.Y ew3
  replace h1 := h1.Y ew3
  replace Lw := Lw.Y ew3
  replace hB := ew3.z hB
  refine lC (o_len tK hv rfl rfl rfl rfl rfl ?_)
  refine lP 3 tK rfl (q1 (cR (x1_ rfl rfl ?_)))
  refine ⟨?_, hE⟩
  rw [show (rightB t || rowB t) = true from hr]
  simp only [cond_true, Bool.true_and]
  congr 1
  cases varsF t <;> simp <;> omega
 refine lP 6 tK rfl (q1 (cR (x1_ rfl rfl ?_)))
 exact ⟨by rw [show (rightB t || rowB t) = false from hr]; rfl, hE⟩
end Go.Proofs.Ytpoahmeacjggfaa
namespace Rw
open Go Go.RowKit
theorem mid_get {cs sub : List Value} {k j : Nat} {v : Value} (hs : (cs.drop k).take sub.length = sub) (hv : sub[j]? = some v) : cs[k + j]? = some v := by
  have hj := (List.getElem?_eq_some_iff.1 hv).1
  rw [← hs, List.getElem?_take_of_lt hj, List.getElem?_drop] at hv
  exact hv
theorem At.mid {M : Nat → Prop} {w : World} {b off : Nat} {cs sub : List Value} (h : At M w b off cs) (k : Nat) (hs : (cs.drop k).take sub.length = sub) (j : Nat) (v : Value) (hv : sub[j]? = some v) : w.cell? ⟨b, off + k + j, none⟩ = some v := by
  have := h.cell (k + j) v (mid_get hs hv)
  rwa [← Nat.add_assoc] at this
theorem Box.mid {w : World} {b t : Nat} {cs sub : List Value} (h : Box w b t cs) (k : Nat) (hs : (cs.drop k).take sub.length = sub) (j : Nat) (v : Value) (hv : sub[j]? = some v) : w.cell? ⟨b, 0 + k + j, none⟩ = some v := by
  have := h.cell (k + j) v (mid_get hs hv)
  rwa [← Nat.add_assoc] at this
/-- An expression: an op, a name, an argument's name, a number, whether it has an annotation, the annotation, kids. -/
inductive Tm where
  | mk (op : Int) (name arg : ByteArray) (n : Int) (has : Bool) (ann : Ty) (kids : List Tm)
namespace Tm
def op : Tm → Int | mk o _ _ _ _ _ _ => o
def name : Tm → ByteArray | mk _ s _ _ _ _ _ => s
def arg : Tm → ByteArray | mk _ _ s _ _ _ _ => s
def n : Tm → Int | mk _ _ _ n _ _ _ => n
def has : Tm → Bool | mk _ _ _ _ b _ _ => b
def ann : Tm → Ty | mk _ _ _ _ _ a _ => a
def kids : Tm → List Tm | mk _ _ _ _ _ _ l => l
end Tm
theorem tm_eta (t : Tm) : t = .mk t.op t.name t.arg t.n t.has t.ann t.kids := by cases t; rfl
theorem Tm.ext' : ∀ {a b : Tm}, a.op = b.op → a.name = b.name → a.arg = b.arg → a.n = b.n → a.has = b.has → a.ann = b.ann → a.kids = b.kids → a = b
  | .mk _ _ _ _ _ _ _, .mk _ _ _ _ _ _ _, h1, h2, h3, h4, h5, h6, h7 => by
    simp only [Tm.op, Tm.name, Tm.arg, Tm.n, Tm.has, Tm.ann, Tm.kids] at h1 h2 h3 h4 h5 h6 h7
    subst h1; subst h2; subst h3; subst h4; subst h5; subst h6; subst h7; rfl
theorem Tm.ind {p : Tm → Prop} (h : ∀ t, (∀ k ∈ t.kids, p k) → p t) (t : Tm) : p t := by
  generalize e : sizeOf t = n
  induction n using Nat.strongRecOn generalizing t with
  | ind n ih =>
    refine h t fun k hk => ih (sizeOf k) ?_ k rfl
    cases t with
    | mk o s g m b a l =>
      have h1 : sizeOf k < sizeOf l := List.sizeOf_lt_of_mem hk
      rw [← e, Tm.mk.sizeOf_spec]
      omega
/-- The value reads as the expression. -/
inductive TmR (M : Nat → Prop) (w : World) : Tm → Value → Prop
  | mk {op n : Int} {name arg : ByteArray} {has : Bool} {ann : Ty} {kids : List Tm} {a : Option Addr} {cap : Nat} {akv : Value} (b off : Nat) (u : Nat → Value) (hop : 0 ≤ op ∧ op ≤ 255) (hs : name.size < 140737488355328) (hg : arg.size < 140737488355328) (hn : I64 n)
      (hann : TyR M w ann (.agg #[.int .u8 ann.op, .string ann.name, .int .i64 ann.n, akv])) (hl : kids.length < 140737488355328) (hc : kids.length ≤ cap)
      (ha : kids = [] ∨ a = some ⟨b, off, none⟩) (hu : ∀ (i : Nat) (x : Tm), kids[i]? = some x → TmR M w x (u i)) (hA : ∀ (i : Nat) (x : Tm), kids[i]? = some x → At M w b (off + i * 10) (u i).cells.toList) :
      TmR M w (.mk op name arg n has ann kids) (.agg #[.int .u8 op, .string name, .string arg, .int .i64 n, .bool has, .int .u8 ann.op, .string ann.name, .int .i64 ann.n, akv, .slice a kids.length cap])
theorem TmR.map {M M' : Nat → Prop} {w w' : World} (hat : ∀ {b off : Nat} {cs : List Value}, At M w b off cs → At M' w' b off cs) : ∀ (t : Tm) (v : Value), TmR M w t v → TmR M' w' t v := by
  intro t v h
  induction h with
  | mk b off u hop hs hg hn hann hl hc ha hu hA ih => exact .mk b off u hop hs hg hn (hann.map hat _ _) hl hc ha ih (fun i x hx => hat (hA i x hx))
instance : Rep Tm where
  sz := 10
  R := fun M w v t => TmR M w t v
  pos := by decide
  size := by
    intro M w v x h
    cases h; rfl
  one := by
    intro M w v x h u hu
    cases h with
    | mk b off u' hop hs hg hn hann =>
      have h4 : ∀ y ∈ (Value.agg #[.int .u8 _, .string _, .int .i64 _, _]).cells.toList, y.oneCell' = true := Rep.one (α := Ty) (M := M) (w := w) hann
      simp [Value.cells] at hu h4
      rcases hu with rfl | rfl | rfl | rfl | rfl | rfl | rfl | rfl | rfl | rfl <;> first | rfl | exact h4.2.2.2
  upd := fun h e => TmR.map (fun hA => hA.upd e) _ _ h
  wk := fun h e => TmR.map (fun hA => hA.wk e) _ _ h
theorem tm_open {M : Nat → Prop} {w : World} {v : Value} {t : Tm} (h : Rep.R M w v t) :
    ∃ akv kv, v = .agg #[.int .u8 t.op, .string t.name, .string t.arg, .int .i64 t.n, .bool t.has, .int .u8 t.ann.op, .string t.ann.name, .int .i64 t.ann.n, akv, kv] ∧ (0 ≤ t.op ∧ t.op ≤ 255) ∧ t.name.size < 140737488355328 ∧ t.arg.size < 140737488355328 ∧ I64 t.n ∧
      Rep.R M w (.agg #[.int .u8 t.ann.op, .string t.ann.name, .int .i64 t.ann.n, akv]) t.ann ∧ Sl M w kv t.kids := by
  have h' : TmR M w t v := h
  cases h' with
  | mk b off u hop hs hg hn hann hl hc ha hu hA =>
    refine ⟨_, _, rfl, hop, hs, hg, hn, hann, _, _, rfl, hl, hc, ?_⟩
    rcases ha with ha | ha
    · exact .inl ha
    · exact .inr ⟨b, off, ha, fun i x hx => ⟨u i, hu i x hx, hA i x hx⟩⟩
theorem tm_mk {M : Nat → Prop} {w : World} {akv kv : Value} {op n : Int} {name arg : ByteArray} {has : Bool} {ann : Ty} {kids : List Tm} (h1 : 0 ≤ op ∧ op ≤ 255) (h2 : name.size < 140737488355328) (h2g : arg.size < 140737488355328) (h3 : I64 n)
    (ha : Rep.R M w (.agg #[.int .u8 ann.op, .string ann.name, .int .i64 ann.n, akv]) ann) (hk : Sl M w kv kids) :
    Rep.R M w (.agg #[.int .u8 op, .string name, .string arg, .int .i64 n, .bool has, .int .u8 ann.op, .string ann.name, .int .i64 ann.n, akv, kv]) (Tm.mk op name arg n has ann kids) := by
  show TmR M w _ _
  obtain ⟨a, cap, rfl, h4, h5, h6⟩ := hk
  rcases h6 with h6 | ⟨b, off, haa, h6⟩
  · subst h6
    exact .mk 0 0 (fun _ => .nilFunc) h1 h2 h2g h3 ha h4 h5 (.inl rfl) (fun i x hx => by simp at hx) (fun i x hx => by simp at hx)
  · have h7 : ∀ i : Nat, ∃ u : Value, ∀ x : Tm, kids[i]? = some x → Rep.R M w u x ∧ At M w b (off + i * 10) u.cells.toList := by
      intro i
      cases hi : kids[i]? with
      | none => exact ⟨.nilFunc, fun x hx => by cases hx⟩
      | some y =>
        obtain ⟨u, hu, hA⟩ := h6 i y hi
        exact ⟨u, fun x hx => by cases hx; exact ⟨hu, hA⟩⟩
    obtain ⟨u, hu⟩ := Classical.axiomOfChoice h7
    exact .mk b off u h1 h2 h2g h3 ha h4 h5 (.inr haa) (fun i x hx => (hu i x hx).1) (fun i x hx => (hu i x hx).2)
/-! ## Nodes -/
def nodesL : Tm → List Tm
  | .mk o s g n b a l => .mk o s g n b a l :: l.flatMap nodesL
theorem nodesL_eq (t : Tm) : nodesL t = t :: t.kids.flatMap nodesL := by
  cases t; rw [nodesL]; rfl
def nsz (t : Tm) : Nat := (nodesL t).length
def nszs (l : List Tm) : Nat := (l.flatMap nodesL).length
theorem nsz_eq (t : Tm) : nsz t = nszs t.kids + 1 := by unfold nsz nszs; rw [nodesL_eq]; simp
theorem nszs_cons (t : Tm) (l : List Tm) : nszs (t :: l) = nsz t + nszs l := by simp [nszs, nsz]
theorem nszs_append (l r : List Tm) : nszs (l ++ r) = nszs l + nszs r := by simp [nszs]
theorem nsz_mem {t : Tm} : ∀ {l : List Tm}, t ∈ l → nsz t ≤ nszs l
  | x :: l, h => by
    rw [nszs_cons]
    rcases List.mem_cons.1 h with rfl | h
    · omega
    · have := nsz_mem h; omega
theorem nsz_get {l : List Tm} {i : Nat} (h : i < l.length) : nsz l[i] ≤ nszs l := nsz_mem (gM h)
theorem nsz_pos (t : Tm) : 0 < nsz t := by rw [nsz_eq]; omega
theorem len_nsz : ∀ l : List Tm, l.length ≤ nszs l
  | [] => Nat.zero_le _
  | t :: l => by have := len_nsz l; have := nsz_pos t; rw [nszs_cons, List.length_cons]; omega
theorem ntake_step {l : List Tm} {i : Nat} (h : i < l.length) : (l.take (i + 1)).flatMap nodesL = (l.take i).flatMap nodesL ++ nodesL l[i] := by
  rw [List.take_succ_eq_append_getElem h, List.flatMap_append]; simp
theorem take_nsz (l : List Tm) (i : Nat) : nszs (l.take i) ≤ nszs l := by
  have h := nszs_append (l.take i) (l.drop i)
  rw [List.take_append_drop] at h
  omega
theorem nszs_take {l : List Tm} {i : Nat} (hi : i < l.length) : nszs (l.take (i + 1)) = nszs (l.take i) + nsz l[i] := by
  rw [List.take_succ_eq_append_getElem hi, nszs_append, nszs_cons]; rfl
/-- Parts of annotations. -/
def asz (t : Tm) : Nat := ((nodesL t).map fun x => psz x.ann).sum
/-- Its annotations are small. -/
def AnnS (t : Tm) : Prop := ∀ x ∈ nodesL t, psz x.ann ≤ 2000000
theorem AnnS.self {t : Tm} (h : AnnS t) : psz t.ann ≤ 2000000 := h t (by rw [nodesL_eq]; exact List.mem_cons_self)
theorem AnnS.kid {t k : Tm} (h : AnnS t) (hk : k ∈ t.kids) : AnnS k := fun x hx => h x (by rw [nodesL_eq]; exact List.mem_cons_of_mem _ (List.mem_flatMap.2 ⟨k, hk, hx⟩))
/-! ## Right, as the program has it -/
/-- Of an op: is there a name, an argument's name; how many kids (-1: a case's); an annotation (1 perhaps, 2 always); and whether there is such an op. -/
def shp (op : Int) : Bool × Bool × Int × Int × Bool :=
  if op = 32 then (true, false, 0, 0, true) else if op = 33 ∨ op = 34 ∨ op = 41 then (false, false, 0, 0, true) else if op = 35 then (false, true, 1, 1, true) else if op = 36 then (true, true, 1, 1, true)
  else if op = 37 then (false, false, 2, 0, true) else if op = 38 ∨ op = 42 ∨ op = 45 then (true, false, 2, 0, true) else if op = 39 then (false, false, 3, 0, true) else if op = 40 then (true, false, 2, 0, true)
  else if op = 43 ∨ op = 44 ∨ op = 46 ∨ op = 47 then (true, false, 1, 0, true) else if op = 48 then (false, false, -1, 0, true) else if op = 49 then (true, true, 1, 0, true) else if op = 50 then (false, true, 1, 0, true)
  else if op = 51 then (false, false, 1, 2, true) else (false, false, 0, 0, false)
def namedB (s : ByteArray) (should : Bool) : Bool := (decide (s = ⟨#[]⟩) && !should) || (should && isWordB s)
def blankB (t : Ty) : Bool := decide (t.op = 0) && (decide (t.name = ⟨#[]⟩) && (decide (t.n = 0) && decide (t.kids = [])))
def signB (s : ByteArray) : Bool := decide (s = ⟨#[43]⟩) || (decide (s = ⟨#[45]⟩) || (decide (s = ⟨#[42]⟩) || (decide (s = ⟨#[47]⟩) || (decide (s = ⟨#[37]⟩) || (decide (s = ⟨#[60]⟩) || decide (s = ⟨#[61, 61]⟩))))))
def numberB (op n : Int) : Bool := if op = 33 then decide (0 ≤ n) else if op = 34 then decide (n = 0) || decide (n = 1) else decide (n = 0)
def notedB (has : Bool) (a : Ty) (an : Int) : Bool := bif has then decide (0 < an) && (rightB a && decide (varsF a = [])) else decide (an < 2) && blankB a
def armB (op : Int) (last : Bool) : Bool := decide (op = 49) || (decide (op = 50) && last)
def armsB (op : Int) : Bool := decide (op = 49) || decide (op = 50)
def headT (t : Tm) (arms : Bool) : Bool := (shp t.op).2.2.2.2 && ((arms == armsB t.op) && (numberB t.op t.n && (notedB t.has t.ann (shp t.op).2.2.2.1 && (namedB t.arg (shp t.op).2.1 &&
  ((bif decide (t.op = 40) then signB t.name else namedB t.name (shp t.op).1) && (bif decide (0 ≤ (shp t.op).2.2.1) then decide ((t.kids.length : Int) = (shp t.op).2.2.1) else !decide (t.kids = [])))))))
def innerB (op : Int) (i : Nat) : Bool := decide (op = 48) && decide (0 < (i : Int))
def kidsT (op : Int) : Nat → List (Int × (Bool → Bool)) → Bool
  | _, [] => true
  | i, (o, g) :: r => (!innerB op i || armB o r.isEmpty) && (g (innerB op i) && kidsT op (i + 1) r)
/-- Is it an expression (or, where it may be, an arm)? -/
def rightT : Tm → Bool → Bool
  | .mk op name arg n has ann kids => fun arms => headT (.mk op name arg n has ann kids) arms && kidsT op 0 (kids.map fun k => (k.op, rightT k))
def kidL (l : List Tm) : List (Int × (Bool → Bool)) := l.map fun k => (k.op, rightT k)
theorem rightT_eq (t : Tm) (arms : Bool) : rightT t arms = (headT t arms && kidsT t.op 0 (kidL t.kids)) := by cases t; rw [rightT]; rfl
theorem kidsT_step {op : Int} {l : List Tm} {i : Nat} (hi : i < l.length) : kidsT op i (kidL (l.drop i)) = ((!innerB op i || armB l[i].op (decide (i + 1 = l.length))) && (rightT l[i] (innerB op i) && kidsT op (i + 1) (kidL (l.drop (i + 1))))) := by
  rw [List.drop_eq_getElem_cons hi]
  show kidsT op i ((l[i].op, rightT l[i]) :: kidL (l.drop (i + 1))) = _
  rw [kidsT]
  have e : (kidL (l.drop (i + 1))).isEmpty = decide (i + 1 = l.length) := by
    rw [Bool.eq_iff_iff, List.isEmpty_iff, decide_eq_true_eq]
    unfold kidL
    rw [List.map_eq_nil_iff, List.drop_eq_nil_iff]
    omega
  rw [e]
theorem kidsT_end {op : Int} {l : List Tm} {i : Nat} (hi : l.length ≤ i) : kidsT op i (kidL (l.drop i)) = true := by
  rw [List.drop_eq_nil_of_le hi]; rfl
/-! ## .. and as the document has it -/
def partsT : List ByteArray := [⟨#[110]⟩, ⟨#[105]⟩, ⟨#[98]⟩, ⟨#[97, 116, 101]⟩, ⟨#[110, 97, 116, 101]⟩, ⟨#[101, 101]⟩, ⟨#[110, 101, 101]⟩, ⟨#[101, 101, 101]⟩, ⟨#[111, 101, 101]⟩, ⟨#[46]⟩, ⟨#[110, 101, 101]⟩, ⟨#[110, 101]⟩, ⟨#[110, 101]⟩, ⟨#[110, 101, 101]⟩, ⟨#[110, 101]⟩, ⟨#[110, 101]⟩, ⟨#[99]⟩, ⟨#[110, 97, 101]⟩, ⟨#[97, 101]⟩, ⟨#[84, 101]⟩]
def partsS (op : Int) : ByteArray := if op < 32 ∨ 52 ≤ op then ⟨#[]⟩ else (partsT[(op - 32).toNat]?).getD ⟨#[]⟩
def hasB (s : ByteArray) (c : UInt8) : Bool := s.data.toList.any fun x => decide (x = c)
def countE (s : ByteArray) : Nat := (s.data.toList.filter fun x => decide (x = 101)).length
def partsB (t : Tm) (p : ByteArray) : Bool := (hasB p 111 == signB t.name) && ((hasB p 111 || ((hasB p 110 == isWordB t.name) && (hasB p 110 || decide (t.name = ⟨#[]⟩)))) && (((hasB p 97 == isWordB t.arg) && (hasB p 97 || decide (t.arg = ⟨#[]⟩))) &&
  ((decide (0 ≤ t.n) && (!decide (0 < t.n) || (hasB p 105 || (hasB p 98 && decide (t.n = 1))))) && (bif t.has then (hasB p 84 || hasB p 116) && (rightB t.ann && decide (varsF t.ann = [])) else !hasB p 84 && blankB t.ann))))
def armsL : List (Int × (Bool → Bool)) → Bool
  | [] => true
  | (o, g) :: r => g true && (!(decide (o = 50) && !r.isEmpty) && armsL r)
def caseL : List (Int × (Bool → Bool)) → Bool
  | [] => false
  | (_, g) :: r => g false && armsL r
def allL (l : List (Int × (Bool → Bool))) : Bool := l.all fun x => x.2 false
def refT : Tm → Bool → Bool
  | .mk op name arg n has ann kids => fun arm => !decide (partsS op = ⟨#[]⟩) && ((arm == armsB op) && (partsB (.mk op name arg n has ann kids) (partsS op) &&
    (bif decide (partsS op = ⟨#[99]⟩) then caseL (kids.map fun k => (k.op, refT k)) else decide (kids.length = countE (partsS op)) && allL (kids.map fun k => (k.op, refT k)))))
def refL (l : List Tm) : List (Int × (Bool → Bool)) := l.map fun k => (k.op, refT k)
theorem refT_eq (t : Tm) (arm : Bool) : refT t arm = (!decide (partsS t.op = ⟨#[]⟩) && ((arm == armsB t.op) && (partsB t (partsS t.op) &&
    (bif decide (partsS t.op = ⟨#[99]⟩) then caseL (refL t.kids) else decide (t.kids.length = countE (partsS t.op)) && allL (refL t.kids))))) := by cases t; rw [refT]; rfl
/-! ## They are one -/
theorem op_cases {op : Int} (h : ¬ (op < 32 ∨ 52 ≤ op)) : op = 32 ∨ op = 33 ∨ op = 34 ∨ op = 35 ∨ op = 36 ∨ op = 37 ∨ op = 38 ∨ op = 39 ∨ op = 40 ∨ op = 41 ∨ op = 42 ∨ op = 43 ∨ op = 44 ∨ op = 45 ∨ op = 46 ∨ op = 47 ∨ op = 48 ∨ op = 49 ∨ op = 50 ∨ op = 51 := by omega
theorem word_not_sign {s : ByteArray} (h : isWordB s = true) : signB s = false ∧ s ≠ ⟨#[]⟩ := by
  have key : ∀ x : ByteArray, isWordB x = false → s ≠ x := fun x hx e => by subst e; rw [h] at hx; cases hx
  have k1 := key ⟨#[43]⟩ (by decide)
  have k2 := key ⟨#[45]⟩ (by decide)
  have k3 := key ⟨#[42]⟩ (by decide)
  have k4 := key ⟨#[47]⟩ (by decide)
  have k5 := key ⟨#[37]⟩ (by decide)
  have k6 := key ⟨#[60]⟩ (by decide)
  have k7 := key ⟨#[61, 61]⟩ (by decide)
  exact ⟨by unfold signB; simp [k1, k2, k3, k4, k5, k6, k7], key ⟨#[]⟩ (by decide)⟩
/-- What the two say of a node of an op, but for its kids. -/
def nodeB (t : Tm) : Bool := numberB t.op t.n && (notedB t.has t.ann (shp t.op).2.2.2.1 && (namedB t.arg (shp t.op).2.1 && (bif decide (t.op = 40) then signB t.name else namedB t.name (shp t.op).1)))
theorem name_law (s : ByteArray) (nm : Bool) : ((false == signB s) && (false || ((nm == isWordB s) && (nm || decide (s = ⟨#[]⟩))))) = namedB s nm := by
  unfold namedB
  cases hw : isWordB s with
  | true =>
    obtain ⟨h1, h2⟩ := word_not_sign hw
    rw [h1, dF h2]
    cases nm <;> rfl
  | false =>
    by_cases he : s = ⟨#[]⟩
    · subst he; cases nm <;> decide
    · rw [dF he]; cases nm <;> simp
theorem arg_law (s : ByteArray) (ar : Bool) : ((ar == isWordB s) && (ar || decide (s = ⟨#[]⟩))) = namedB s ar := by
  unfold namedB
  cases hw : isWordB s with
  | true =>
    obtain ⟨h1, h2⟩ := word_not_sign hw
    rw [dF h2]
    cases ar <;> rfl
  | false =>
    by_cases he : s = ⟨#[]⟩
    · subst he; cases ar <;> rfl
    · rw [dF he]; cases ar <;> simp
theorem sign_law (s : ByteArray) : ((true == signB s) && (true || ((false == isWordB s) && (false || decide (s = ⟨#[]⟩))))) = signB s := by cases signB s <;> rfl
theorem num_law (n : Int) : (decide (0 ≤ n) && (!decide (0 < n) || (false || (false && decide (n = 1))))) = decide (n = 0) := by
  by_cases h : n = 0
  · subst h; rfl
  · rw [dF h]
    by_cases h0 : 0 ≤ n
    · rw [dT (show 0 < n by omega)]; simp
    · rw [dF h0]; rfl
theorem num_law_i (n : Int) : (decide (0 ≤ n) && (!decide (0 < n) || (true || (false && decide (n = 1))))) = decide (0 ≤ n) := by simp
theorem num_law_b (n : Int) : (decide (0 ≤ n) && (!decide (0 < n) || (false || (true && decide (n = 1))))) = (decide (n = 0) || decide (n = 1)) := by
  rw [Bool.false_or, Bool.true_and, Bool.eq_iff_iff]
  simp only [Bool.and_eq_true, Bool.or_eq_true, decide_eq_true_eq, Bool.not_eq_true', decide_eq_false_iff_not]
  omega
theorem partsB_of {t : Tm} {p : ByteArray} {o n a i b T u : Bool} (h1 : hasB p 111 = o) (h2 : hasB p 110 = n) (h3 : hasB p 97 = a) (h4 : hasB p 105 = i) (h5 : hasB p 98 = b) (h6 : hasB p 84 = T) (h7 : hasB p 116 = u) :
    partsB t p = ((o == signB t.name) && ((o || ((n == isWordB t.name) && (n || decide (t.name = ⟨#[]⟩)))) && (((a == isWordB t.arg) && (a || decide (t.arg = ⟨#[]⟩))) &&
      ((decide (0 ≤ t.n) && (!decide (0 < t.n) || (i || (b && decide (t.n = 1))))) && (bif t.has then (T || u) && (rightB t.ann && decide (varsF t.ann = [])) else !T && blankB t.ann))))) := by
  unfold partsB; rw [h1, h2, h3, h4, h5, h6, h7]
theorem node_asm {A B C D E N E' C' AB' : Bool} (h1 : (A && B) = AB') (h2 : C = C') (h3 : D = N) (h4 : E = E') : (A && (B && (C && (D && E)))) = (N && (E' && (C' && AB'))) := by
  subst h1; subst h2; subst h3; subst h4
  cases A <;> cases B <;> cases C <;> cases D <;> cases E <;> rfl
theorem parts_node {t : Tm} (h : ¬ (t.op < 32 ∨ 52 ≤ t.op)) : partsB t (partsS t.op) = nodeB t := by
  have key : ∀ (o : Int), t.op = o → partsB t (partsS o) = nodeB t → partsB t (partsS t.op) = nodeB t := fun o e h => by rw [e]; exact h
  have hann : ∀ (hT ht : Bool) (an : Int), (an = 0 ∧ hT = false ∧ ht = false) ∨ (an = 1 ∧ hT = false ∧ ht = true) ∨ (an = 2 ∧ hT = true ∧ ht = false) →
      (bif t.has then (hT || ht) && (rightB t.ann && decide (varsF t.ann = [])) else !hT && blankB t.ann) = notedB t.has t.ann an := by
    intro hT ht an h
    unfold notedB
    rcases h with ⟨rfl, rfl, rfl⟩ | ⟨rfl, rfl, rfl⟩ | ⟨rfl, rfl, rfl⟩ <;> cases t.has <;> simp
  rcases op_cases h with e | e | e | e | e | e | e | e | e | e | e | e | e | e | e | e | e | e | e | e <;> rw [e] <;> unfold nodeB <;> rw [e]
  · exact (partsB_of (p := partsS 32) (o := false) (n := true) (a := false) (i := false) (b := false) (T := false) (u := false) (by decide) (by decide) (by decide) (by decide) (by decide) (by decide) (by decide)).trans (node_asm (name_law _ true) (arg_law _ false) (num_law _) (hann false false 0 (.inl ⟨rfl, rfl, rfl⟩)))
  · exact (partsB_of (p := partsS 33) (o := false) (n := false) (a := false) (i := true) (b := false) (T := false) (u := false) (by decide) (by decide) (by decide) (by decide) (by decide) (by decide) (by decide)).trans (node_asm (name_law _ false) (arg_law _ false) (num_law_i _) (hann false false 0 (.inl ⟨rfl, rfl, rfl⟩)))
  · exact (partsB_of (p := partsS 34) (o := false) (n := false) (a := false) (i := false) (b := true) (T := false) (u := false) (by decide) (by decide) (by decide) (by decide) (by decide) (by decide) (by decide)).trans (node_asm (name_law _ false) (arg_law _ false) (num_law_b _) (hann false false 0 (.inl ⟨rfl, rfl, rfl⟩)))
  · exact (partsB_of (p := partsS 35) (o := false) (n := false) (a := true) (i := false) (b := false) (T := false) (u := true) (by decide) (by decide) (by decide) (by decide) (by decide) (by decide) (by decide)).trans (node_asm (name_law _ false) (arg_law _ true) (num_law _) (hann false true 1 (.inr (.inl ⟨rfl, rfl, rfl⟩))))
  · exact (partsB_of (p := partsS 36) (o := false) (n := true) (a := true) (i := false) (b := false) (T := false) (u := true) (by decide) (by decide) (by decide) (by decide) (by decide) (by decide) (by decide)).trans (node_asm (name_law _ true) (arg_law _ true) (num_law _) (hann false true 1 (.inr (.inl ⟨rfl, rfl, rfl⟩))))
  · exact (partsB_of (p := partsS 37) (o := false) (n := false) (a := false) (i := false) (b := false) (T := false) (u := false) (by decide) (by decide) (by decide) (by decide) (by decide) (by decide) (by decide)).trans (node_asm (name_law _ false) (arg_law _ false) (num_law _) (hann false false 0 (.inl ⟨rfl, rfl, rfl⟩)))
  · exact (partsB_of (p := partsS 38) (o := false) (n := true) (a := false) (i := false) (b := false) (T := false) (u := false) (by decide) (by decide) (by decide) (by decide) (by decide) (by decide) (by decide)).trans (node_asm (name_law _ true) (arg_law _ false) (num_law _) (hann false false 0 (.inl ⟨rfl, rfl, rfl⟩)))
  · exact (partsB_of (p := partsS 39) (o := false) (n := false) (a := false) (i := false) (b := false) (T := false) (u := false) (by decide) (by decide) (by decide) (by decide) (by decide) (by decide) (by decide)).trans (node_asm (name_law _ false) (arg_law _ false) (num_law _) (hann false false 0 (.inl ⟨rfl, rfl, rfl⟩)))
  · exact (partsB_of (p := partsS 40) (o := true) (n := false) (a := false) (i := false) (b := false) (T := false) (u := false) (by decide) (by decide) (by decide) (by decide) (by decide) (by decide) (by decide)).trans (node_asm (sign_law _) (arg_law _ false) (num_law _) (hann false false 0 (.inl ⟨rfl, rfl, rfl⟩)))
  · exact (partsB_of (p := partsS 41) (o := false) (n := false) (a := false) (i := false) (b := false) (T := false) (u := false) (by decide) (by decide) (by decide) (by decide) (by decide) (by decide) (by decide)).trans (node_asm (name_law _ false) (arg_law _ false) (num_law _) (hann false false 0 (.inl ⟨rfl, rfl, rfl⟩)))
  · exact (partsB_of (p := partsS 42) (o := false) (n := true) (a := false) (i := false) (b := false) (T := false) (u := false) (by decide) (by decide) (by decide) (by decide) (by decide) (by decide) (by decide)).trans (node_asm (name_law _ true) (arg_law _ false) (num_law _) (hann false false 0 (.inl ⟨rfl, rfl, rfl⟩)))
  · exact (partsB_of (p := partsS 43) (o := false) (n := true) (a := false) (i := false) (b := false) (T := false) (u := false) (by decide) (by decide) (by decide) (by decide) (by decide) (by decide) (by decide)).trans (node_asm (name_law _ true) (arg_law _ false) (num_law _) (hann false false 0 (.inl ⟨rfl, rfl, rfl⟩)))
  · exact (partsB_of (p := partsS 44) (o := false) (n := true) (a := false) (i := false) (b := false) (T := false) (u := false) (by decide) (by decide) (by decide) (by decide) (by decide) (by decide) (by decide)).trans (node_asm (name_law _ true) (arg_law _ false) (num_law _) (hann false false 0 (.inl ⟨rfl, rfl, rfl⟩)))
  · exact (partsB_of (p := partsS 45) (o := false) (n := true) (a := false) (i := false) (b := false) (T := false) (u := false) (by decide) (by decide) (by decide) (by decide) (by decide) (by decide) (by decide)).trans (node_asm (name_law _ true) (arg_law _ false) (num_law _) (hann false false 0 (.inl ⟨rfl, rfl, rfl⟩)))
  · exact (partsB_of (p := partsS 46) (o := false) (n := true) (a := false) (i := false) (b := false) (T := false) (u := false) (by decide) (by decide) (by decide) (by decide) (by decide) (by decide) (by decide)).trans (node_asm (name_law _ true) (arg_law _ false) (num_law _) (hann false false 0 (.inl ⟨rfl, rfl, rfl⟩)))
  · exact (partsB_of (p := partsS 47) (o := false) (n := true) (a := false) (i := false) (b := false) (T := false) (u := false) (by decide) (by decide) (by decide) (by decide) (by decide) (by decide) (by decide)).trans (node_asm (name_law _ true) (arg_law _ false) (num_law _) (hann false false 0 (.inl ⟨rfl, rfl, rfl⟩)))
  · exact (partsB_of (p := partsS 48) (o := false) (n := false) (a := false) (i := false) (b := false) (T := false) (u := false) (by decide) (by decide) (by decide) (by decide) (by decide) (by decide) (by decide)).trans (node_asm (name_law _ false) (arg_law _ false) (num_law _) (hann false false 0 (.inl ⟨rfl, rfl, rfl⟩)))
  · exact (partsB_of (p := partsS 49) (o := false) (n := true) (a := true) (i := false) (b := false) (T := false) (u := false) (by decide) (by decide) (by decide) (by decide) (by decide) (by decide) (by decide)).trans (node_asm (name_law _ true) (arg_law _ true) (num_law _) (hann false false 0 (.inl ⟨rfl, rfl, rfl⟩)))
  · exact (partsB_of (p := partsS 50) (o := false) (n := false) (a := true) (i := false) (b := false) (T := false) (u := false) (by decide) (by decide) (by decide) (by decide) (by decide) (by decide) (by decide)).trans (node_asm (name_law _ false) (arg_law _ true) (num_law _) (hann false false 0 (.inl ⟨rfl, rfl, rfl⟩)))
  · exact (partsB_of (p := partsS 51) (o := false) (n := false) (a := false) (i := false) (b := false) (T := true) (u := false) (by decide) (by decide) (by decide) (by decide) (by decide) (by decide) (by decide)).trans (node_asm (name_law _ false) (arg_law _ false) (num_law _) (hann true false 2 (.inr (.inr ⟨rfl, rfl, rfl⟩))))
end Rw
