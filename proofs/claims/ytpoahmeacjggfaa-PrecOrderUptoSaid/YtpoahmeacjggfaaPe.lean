/- Walks: types loosened by bytes. Printed by wip/walks/prec4.py. -/
import Derived.Test.YtpoahmeacjggfaaWp
import Derived.Test.YtpoahmeacjggfaaSlh
import Derived.Test.YtpoahmeacjggfaaPlainB
namespace Go.Proofs.Ytpoahmeacjggfaa
open Go Rw Go.RowKit
set_option maxRecDepth 100000

/-- odd: is the next byte? -/
theorem odd_spec (M : Nat → Prop) (w : World) (B bl : Nat) (bv : Value) (b : List UInt8) (hl : MB B M w bl 87 [bv]) (hb : Sl M w bv b) (hlow : Low M w) (hB : B ≤ w.heap.size) :
    Calls Try.prog 111 #[.pointer (some ⟨bl, 0, none⟩)] w (Ret fun r w' => r = .bool (oddH b) ∧ ∃ bv', MB B M w' bl 87 [bv'] ∧ Sl M w' bv' (b.drop 1) ∧ UpdB bl w w') := by
  have hU := UpdB.refl bl w
  refine c_enter (n := 27) Try.func111 rfl rfl rfl ?_
  refine q0 (l_p 1 tbOk rfl (q1 (c_seq (q0 (l_p 3 tbOk rfl ?_)))))
  refine l_cons (o_ld tbOk (hl.cell 0 _ rfl) rfl rfl rfl rfl rfl ?_)
  refine l_cons (o_len tbOk hb rfl rfl rfl rfl rfl ?_)
  refine l_p 1 tbOk rfl (q1 ?_)
  refine c_ifP _ rfl (fun hc => ?_) (fun hc => ?_)
  · refine q0 (l_p 1 tbOk rfl (q1 (c_ret (x_seqR (x_ret1 rfl rfl ?_)))))
    exact ⟨by rw [odd_nil (by omega)], _, hl, by rw [List.drop_eq_nil_of_le (by omega)]; rwa [List.eq_nil_of_length_eq_zero (show b.length = 0 by omega)] at hb, hU⟩
  have h0 : 0 < b.length := by omega
  refine c_skip (x_seq (q0 (l_p 3 tbOk rfl ?_)))
  refine l_cons (o_ld tbOk (hl.cell 0 _ rfl) rfl rfl rfl rfl rfl ?_)
  refine l_cons (o_ixS tbOk hb (List.getElem?_eq_getElem h0) rfl rfl rfl rfl rfl rfl rfl rfl rfl ?_)
  intro eb eo eu hr hat
  replace hr : eu = .int .u8 (b[0]).toNat := hr
  subst hr
  refine l_cons (o_ld tbOk (hat.cell 0 _ rfl) rfl rfl rfl rfl rfl ?_)
  refine l_p 1 tbOk rfl (q1 (q0 (l_p 4 tbOk rfl ?_)))
  refine l_cons (o_ld tbOk (hl.cell 0 _ rfl) rfl rfl rfl rfl rfl ?_)
  refine l_cons (o_slt tbOk hb rfl rfl rfl (j := 1) (by omega) rfl rfl rfl rfl rfl rfl ?_)
  intro bv2 hb2
  obtain ⟨ab, cb, e0, _⟩ := id hb2
  subst e0
  refine l_p 2 tbOk rfl ?_
  refine l_cons (o_st tbOk hl.box rfl rfl rfl rfl (by intro u hu; simp [Value.cells] at hu; subst hu; rfl) rfl rfl ?_)
  intro w1 hw1 qw1 bew1
  have uw1 : UpdB _ _ _ := ⟨qw1, bew1⟩
  have sw1 := uw1.stp hl.inM hlow hl.ge
  have frw1 := qw1.2
  replace hU := hU.trans uw1
  replace hb := hb.stp sw1
  replace hb2 := hb2.stp sw1
  replace hlow := sw1.low
  replace hB := Nat.le_trans hB sw1.upd.1
  replace hl : MB B _ w1 bl _ [.slice ab (b.drop 1).length cb] := ⟨hw1, hl.inM, hl.ge⟩
  refine q1 (q0 (l_p 1 tbOk rfl ?_))
  refine l_cons (o_odd rfl rfl rfl rfl ?_)
  refine l_p 2 tbOk rfl (q1 (c_ret (x_ret1 rfl rfl ?_)))
  exact ⟨by rw [odd_head (List.getElem?_eq_getElem h0)], _, hl, hb2, hU⟩

/-- skip: as many bytes as there are. -/
theorem skip_spec (M : Nat → Prop) (w : World) (B bl : Nat) (bv : Value) (b : List UInt8) (hl : MB B M w bl 87 [bv]) (hb : Sl M w bv b) (hlow : Low M w) (hB : B ≤ w.heap.size) (n : Nat) :
    Calls Try.prog 112 #[.pointer (some ⟨bl, 0, none⟩), .int .i64 (n : Int)] w (Ret fun r w' => r = .tuple #[] ∧ ∃ bv', MB B M w' bl 87 [bv'] ∧ Sl M w' bv' (b.drop n) ∧ UpdB bl w w') := by
  have hU := UpdB.refl bl w
  refine c_enter (n := 19) Try.func112 rfl rfl rfl ?_
  refine a_beg Ext rfl ?_
  intro w1 ew1
  replace hU := hU.trans (UpdB.ext ew1 hl.lt)
  replace hl := hl.ext hlow hB ew1
  replace hb := hb.ext ew1
  replace hlow := hlow.ext ew1
  replace hB := Nat.le_trans hB ew1.size
  have hS : Ext w1 w1 := ext_refl _
  have D_hl := hl.box
  have D_hb := hb
  refine a_p 0 tbOk rfl rfl rfl rfl (by kernel_rfl) (fun _ _ _ h => h) hS ?_
  refine a_p 1 tbOk rfl rfl rfl rfl (by kernel_rfl) (fun _ _ _ h => h) hS ?_
  refine a_p 2 tbOk rfl rfl rfl rfl (by kernel_rfl) (fun _ _ _ h => h) hS ?_
  refine a_p 3 tbOk rfl rfl rfl rfl (by kernel_rfl) (fun _ _ _ h => h) hS ?_
  refine a_ld 4 tbOk (fun _ hs => (D_hl.ext hs).cell 0 _ rfl) rfl rfl rfl rfl rfl rfl (by kernel_rfl) (fun _ _ _ h => h) hS ?_
  refine a_p 5 tbOk rfl rfl rfl rfl (by kernel_rfl) (fun _ _ _ h => h) hS ?_
  refine a_p 6 tbOk rfl rfl rfl rfl (by kernel_rfl) (fun _ _ _ h => h) hS ?_
  refine a_p 7 tbOk rfl rfl rfl rfl (by kernel_rfl) (fun _ _ _ h => h) hS ?_
  refine a_p 8 tbOk rfl rfl rfl rfl (by kernel_rfl) (fun _ _ _ h => h) hS ?_
  refine a_ld 9 tbOk (fun _ hs => (D_hl.ext hs).cell 0 _ rfl) rfl rfl rfl rfl rfl rfl (by kernel_rfl) (fun _ _ _ h => h) hS ?_
  refine a_len 10 tbOk hb rfl rfl rfl rfl rfl rfl (by kernel_rfl) (fun _ _ _ h => h) hS ?_
  refine a_p 11 tbOk rfl rfl rfl rfl (by kernel_rfl) (fun _ _ _ h => h) hS ?_
  refine a_one 12 rfl (by kernel_rfl) (o_slt tbOk hb rfl rfl (j := min n b.length) (by split <;> omega) (by omega) rfl rfl rfl rfl rfl rfl ?_)
  intro bv2 hb2
  replace hb2 : Sl M w1 bv2 (b.drop n) := by
    by_cases h : n ≤ b.length
    · rwa [Nat.min_eq_left h] at hb2
    · rw [Nat.min_eq_right (by omega)] at hb2
      rwa [List.drop_eq_nil_of_le (show b.length ≤ n by omega), ← List.drop_eq_nil_of_le (Nat.le_refl b.length)]
  obtain ⟨ab, cb, e0, _⟩ := id hb2
  subst e0
  refine ⟨hS, ?_⟩
  refine a_p 13 tbOk rfl rfl rfl rfl (by kernel_rfl) (fun _ _ _ h => h) hS ?_
  refine a_p 14 tbOk rfl rfl rfl rfl (by kernel_rfl) (fun _ _ _ h => h) hS ?_
  refine a_barS Ext 15 rfl (by kernel_rfl) (by kernel_rfl) (o_st tbOk hl.box rfl rfl rfl rfl (by intro u hu; simp [Value.cells] at hu; subst hu; rfl) rfl rfl ?_)
  intro w2 hw2 qw2 bew2
  have uw2 : UpdB _ _ _ := ⟨qw2, bew2⟩
  have sw2 := uw2.stp hl.inM hlow hl.ge
  have frw2 := qw2.2
  replace hU := hU.trans uw2
  replace hb := hb.stp sw2
  replace hb2 := hb2.stp sw2
  replace hlow := sw2.low
  replace hB := Nat.le_trans hB sw2.upd.1
  replace hS : Ext w2 w2 := ext_refl _
  replace hl : MB B _ w2 bl _ [.slice ab (b.drop n).length cb] := ⟨hw2, hl.inM, hl.ge⟩
  have D_hl := hl.box
  have D_hb := hb
  have D_hb2 := hb2
  refine a_end (by kernel_rfl) ?_
  refine x_ret0n rfl ?_
  exact ⟨rfl, _, hl, hb2, hU⟩

/-- loosen: in place. -/
theorem loosen_own : ∀ (t : Ty) (b : List UInt8) (M : Nat → Prop) (w : World) (B : Nat) (v bv : Value) (F : Nat → Prop) (bl : Nat), OTy 25 B w t v F → (∀ c, F c → M c) → MB B M w bl 87 [bv] → ¬ F bl → Sl M w bv b → Low M w → B ≤ w.heap.size → psz t ≤ 2000000 → Calls Try.prog 85 #[.pointer (some ⟨bl, 0, none⟩), v] w (Ret fun r w' => ∃ M' F' bv', OTy 25 B w' (loosF t b) r F' ∧ (∀ c, F' c → M' c ∧ (F c ∨ w.heap.size ≤ c)) ∧ MB B M' w' bl 87 [bv'] ∧ Sl M' w' bv' (b.drop (psz t)) ∧ Stp B M M' w w' ∧ Kept w w' (Out (Rw.Add F bl) w)) := by
  refine Ty.ind fun t ih => ?_
  intro b M w B v bv F bl ht hF hl hbl hb hlow hB hsz
  have hps := psz_eq t
  have hkl := len_psz t.kids
  have hrt := ht.rep (M := NoM) (fun _ _ h => h)
  have hlt := hb.lt
  have hT : Stp B M M w w := Stp.refl hlow
  have hfr : Kept w w (Out (Rw.Add F bl) w) := Kept.refl (fun x hx => hx.1)
  obtain ⟨kv, us, H, rfl, op, nm, n64, hkn, hr, hO, hH⟩ := oty_open ht
  have hkF := hr.inM
  replace hr := hr.keepV (M' := M) (fun b hb => hF b (hr.inM b hb)) (fun _ _ _ _ _ => rfl)
  have hF1 : ∀ c, H c → M c := fun c hc => hF c (hH c hc).1
  have hFn : ∀ c, H c → F c ∨ w.heap.size ≤ c := fun c hc => .inl (hH c hc).1
  have hul := hO.len
  have dd_hr_hO : ∀ x y, kv.ownBlock = some x → H y → x ≠ y := fun x y hx hy e => (hH y hy).2 (e ▸ hx)
  have dd_hr_hfr : ∀ x y, kv.ownBlock = some x → Out (Rw.Add F bl) w y → x ≠ y := fun x y hx hy e => hy.2 (.inl (e ▸ hkF x hx))
  have d_hr_hl : ∀ x, kv.ownBlock = some x → x ≠ bl := fun x hx e => hbl (e ▸ hkF x hx)
  have d_hO_hl : ∀ x, H x → x ≠ bl := fun x hx e => hbl (e ▸ (hH x hx).1)
  have d_hfr_hl : ∀ x, Out (Rw.Add F bl) w x → x ≠ bl := fun x hx e => hx.2 (.inr e)
  have lbl0 := hl.lt
  refine c_enter (n := 36) Try.func85 rfl rfl rfl ?_
  refine q0 ?_
  refine l_cons (o_box rfl rfl rfl ?_)
  intro b3 w1 hb_b3 ew1 h3
  replace h3 : Box _ b3 25 [.int .u8 t.op, .string t.name, .int .i64 t.n, kv] := h3
  replace h3 := h3.at (nM_of hlow hb_b3)
  replace hT := hT.then (Stp.ext ew1 hlow hB)
  replace hr := hr.ext hlow hB ew1
  replace hO := hO.ext hlow hB ew1
  replace hfr := hfr.ext hlow hB ew1
  replace hl := hl.ext hlow hB ew1
  replace hb := hb.ext ew1
  replace hlow := hlow.ext ew1
  replace hB := Nat.le_trans hB ew1.size
  refine l_cons (o_new tbOk rfl rfl rfl ?_)
  intro b4 w2 qb4 ew2 hb4
  have d_hr_h4 : ∀ x, (kv : Value).ownBlock = some x → x ≠ b4 := fun x hx => by have := (hr.lt x hx).2; omega
  have d_hO_h4 : ∀ x, H x → x ≠ b4 := fun x hx => by have := (hO.lt x hx).2; omega
  have d_hfr_h4 : ∀ x, (Out (Rw.Add F bl) w) x → x ≠ b4 := fun x hx => by have := (hfr.lt x hx).2; omega
  have ne_hl_h4 : bl ≠ b4 := by have := hl.lt; omega
  have sw2 := Stp.add ew2 hlow hB (Nat.le_of_eq qb4.symm) hb4.lt
  have h4 : MB B (Rw.Add M b4) w2 b4 25 [.int .u8 0, .string ⟨#[]⟩, .int .i64 0, .slice none 0 0] := MB.mk' hb4 qb4 hB
  replace hT := hT.then sw2
  replace hr := hr.stp sw2 (fun x hx => ew2.block x (hr.lt x hx).2)
  replace hO := hO.stp sw2 (fun x hx => ew2.block x (hO.lt x hx).2)
  replace hfr := hfr.stp sw2 (fun x hx => ew2.block x (hfr.lt x hx).2)
  replace hl := hl.stp sw2 (ew2.block bl hl.lt)
  replace hb := hb.stp sw2
  replace h3 := h3.stp sw2
  replace hF1 := fun b h => sw2.sub b (hF1 b h)
  replace hlow := sw2.low
  replace hB := Nat.le_trans hB sw2.upd.1
  refine q1 (c_seq (q0 (l_p 1 tbOk rfl ?_)))
  refine l_cons (o_call fo111 rfl rfl rfl (odd_spec _ _ B bl bv b hl hb hlow hB) ?_)
  rintro _ w3 ⟨rfl, bvw3, hlw3, hbw3, uw3⟩
  have sw3 := uw3.stp hl.inM hlow hl.ge
  have frw3 := uw3.upd.2
  replace hT := hT.then sw3
  replace hr := hr.stp sw3 (fun x hx => frw3 x (hr.lt x hx).2 (d_hr_hl x hx))
  replace hO := hO.stp sw3 (fun x hx => frw3 x (hO.lt x hx).2 (d_hO_hl x hx))
  replace hfr := hfr.stp sw3 (fun x hx => frw3 x (hfr.lt x hx).2 (d_hfr_hl x hx))
  replace h4 := h4.stp sw3 (frw3 b4 h4.lt ne_hl_h4.symm)
  replace h3 := h3.stp sw3
  replace hF1 := fun b h => sw3.sub b (hF1 b h)
  replace hlow := sw3.low
  replace hB := Nat.le_trans hB sw3.upd.1
  replace hl := hlw3
  replace hb := hbw3
  refine q1 ?_
  refine c_if _ rfl (fun hod => ?_) (fun hod => ?_)
  · refine q0 (l_p 1 tbOk rfl ?_)
    refine l_cons (o_lds tbOk (fun j v hv => h3.cell j v hv) rfl rfl rfl rfl rfl rfl ?_)
    have hty : Rep.R NoM w3 (.agg #[.int .u8 t.op, .string t.name, .int .i64 t.n, kv]) t := by
      have h := ty_mk (M := NoM) op nm n64 (hO.sl hr hkn (fun _ _ h => h) (fun _ _ h => h))
      rwa [← ty_eta] at h
    refine l_cons (o_call fo20 rfl rfl rfl (size_spec t NoM _ _ hty (low_noM _) hsz) ?_)
    rintro _ w4 ⟨rfl, ew4⟩
    replace hT := hT.then (Stp.ext ew4 hlow hB)
    replace hr := hr.ext hlow hB ew4
    replace hO := hO.ext hlow hB ew4
    replace hfr := hfr.ext hlow hB ew4
    replace hl := hl.ext hlow hB ew4
    replace h4 := h4.ext hlow hB ew4
    replace hb := hb.ext ew4
    replace h3 := h3.ext ew4
    replace hlow := hlow.ext ew4
    replace hB := Nat.le_trans hB ew4.size
    refine l_cons (o_ar rfl rfl rfl (z := ((psz t - 1 : Nat) : Int)) (by rw [IntWalk.i64_in _ (by omega)]; have := psz_pos t; omega) rfl rfl ?_)
    refine l_cons (o_call fo112 rfl rfl rfl (skip_spec _ _ B bl bvw3 (b.drop 1) hl hb hlow hB (psz t - 1)) ?_)
    rintro _ w5 ⟨rfl, bvw5, hlw5, hbw5, uw5⟩
    have sw5 := uw5.stp hl.inM hlow hl.ge
    have frw5 := uw5.upd.2
    replace hT := hT.then sw5
    replace hr := hr.stp sw5 (fun x hx => frw5 x (hr.lt x hx).2 (d_hr_hl x hx))
    replace hO := hO.stp sw5 (fun x hx => frw5 x (hO.lt x hx).2 (d_hO_hl x hx))
    replace hfr := hfr.stp sw5 (fun x hx => frw5 x (hfr.lt x hx).2 (d_hfr_hl x hx))
    replace h4 := h4.stp sw5 (frw5 b4 h4.lt ne_hl_h4.symm)
    replace h3 := h3.stp sw5
    replace hF1 := fun b h => sw5.sub b (hF1 b h)
    replace hlow := sw5.low
    replace hB := Nat.le_trans hB sw5.upd.1
    replace hl := hlw5
    replace hb := hbw5
    refine q1 (c_seq (q0 (l_p 1 tbOk rfl ?_)))
    refine l_cons (o_ld tbOk (h3.cell 0 _ rfl) rfl rfl rfl rfl rfl ?_)
    refine l_p 1 tbOk rfl (q1 ?_)
    refine c_ifP _ rfl (fun c2 => ?_) (fun c2 => ?_)
    · refine q0 ?_
      refine l_cons (o_build (cells := [.int .u8 9, .string ⟨#[]⟩, .int .i64 0, .slice none 0 0]) (css := [[.int .u8 9]]) bd25 rfl rfl rfl rfl rfl ?_)
      refine l_cons (o_st tbOk h4.box rfl rfl rfl rfl (by intro u hu; simp [Value.cells] at hu; rcases hu with rfl | rfl | rfl | rfl <;> rfl) rfl rfl ?_)
      intro w6 hw6 qw6 bew6
      have uw6 : UpdB _ _ _ := ⟨qw6, bew6⟩
      have sw6 := uw6.stp h4.inM hlow h4.ge
      have frw6 := qw6.2
      replace hT := hT.then sw6
      replace hr := hr.stp sw6 (fun x hx => frw6 x (hr.lt x hx).2 (d_hr_h4 x hx))
      replace hO := hO.stp sw6 (fun x hx => frw6 x (hO.lt x hx).2 (d_hO_h4 x hx))
      replace hfr := hfr.stp sw6 (fun x hx => frw6 x (hfr.lt x hx).2 (d_hfr_h4 x hx))
      replace hl := hl.stp sw6 (frw6 bl hl.lt ne_hl_h4)
      replace hb := hb.stp sw6
      replace h3 := h3.stp sw6
      replace hF1 := fun b h => sw6.sub b (hF1 b h)
      replace hlow := sw6.low
      replace hB := Nat.le_trans hB sw6.upd.1
      replace h4 : MB B _ w6 b4 _ [.int .u8 9, .string ⟨#[]⟩, .int .i64 0, .slice none 0 0] := ⟨hw6, h4.inM, h4.ge⟩
      refine q1 (c_ret (x_seqR (x_seqR ?_)))
      refine x_ret1s tbOk (fun j v hv => h4.cell j v hv) rfl rfl rfl rfl rfl ?_
      have hdr : (b.drop 1).drop (psz t - 1) = b.drop (psz t) := by rw [List.drop_drop]; congr 1; have := psz_pos t; omega
      rw [hdr] at hb
      refine ⟨_, NoM, _, ?_, fun _ h => h.elim, hl, hb, hT, hfr⟩
      rw [loos_odd hod, leafF, if_pos (by omega)]
      exact oty_leafB (by decide) (by decide) ⟨by decide, by decide⟩
    refine c_skip (x_seq (q0 ?_))
    refine l_cons (o_call fo35 rfl rfl rfl (dyn_val _ _ hlow) ?_)
    rintro _ w7 ⟨rfl, ew7⟩
    replace hT := hT.then (Stp.ext ew7 hlow hB)
    replace hr := hr.ext hlow hB ew7
    replace hO := hO.ext hlow hB ew7
    replace hfr := hfr.ext hlow hB ew7
    replace hl := hl.ext hlow hB ew7
    replace h4 := h4.ext hlow hB ew7
    replace hb := hb.ext ew7
    replace h3 := h3.ext ew7
    replace hlow := hlow.ext ew7
    replace hB := Nat.le_trans hB ew7.size
    refine l_cons (o_st tbOk h4.box rfl rfl rfl rfl (by intro u hu; simp [Value.cells] at hu; rcases hu with rfl | rfl | rfl | rfl <;> rfl) rfl rfl ?_)
    intro w8 hw8 qw8 bew8
    have uw8 : UpdB _ _ _ := ⟨qw8, bew8⟩
    have sw8 := uw8.stp h4.inM hlow h4.ge
    have frw8 := qw8.2
    replace hT := hT.then sw8
    replace hr := hr.stp sw8 (fun x hx => frw8 x (hr.lt x hx).2 (d_hr_h4 x hx))
    replace hO := hO.stp sw8 (fun x hx => frw8 x (hO.lt x hx).2 (d_hO_h4 x hx))
    replace hfr := hfr.stp sw8 (fun x hx => frw8 x (hfr.lt x hx).2 (d_hfr_h4 x hx))
    replace hl := hl.stp sw8 (frw8 bl hl.lt ne_hl_h4)
    replace hb := hb.stp sw8
    replace h3 := h3.stp sw8
    replace hF1 := fun b h => sw8.sub b (hF1 b h)
    replace hlow := sw8.low
    replace hB := Nat.le_trans hB sw8.upd.1
    replace h4 : MB B _ w8 b4 _ [.int .u8 3, .string ⟨#[]⟩, .int .i64 0, .slice none 0 0] := ⟨hw8, h4.inM, h4.ge⟩
    refine q1 (c_ret (x_seqR ?_))
    refine x_ret1s tbOk (fun j v hv => h4.cell j v hv) rfl rfl rfl rfl rfl ?_
    have hdr : (b.drop 1).drop (psz t - 1) = b.drop (psz t) := by rw [List.drop_drop]; congr 1; have := psz_pos t; omega
    rw [hdr] at hb
    refine ⟨_, NoM, _, ?_, fun _ h => h.elim, hl, hb, hT, hfr⟩
    rw [loos_odd hod, leafF, if_neg (by omega)]
    exact oty_leafB (by decide) (by decide) ⟨by decide, by decide⟩
  refine c_skip (x_seq (c_seq (q0 (l_p 1 tbOk rfl ?_))))
  refine l_cons (o_ld tbOk (h3.cell 3 _ rfl) rfl rfl rfl rfl rfl ?_)
  refine l_cons (o_lenO tbOk hr rfl rfl rfl rfl rfl ?_)
  refine l_p 1 tbOk rfl (q1 (c_blk ?_))
  have htl : (loosK t.kids (b.drop 1)).length = t.kids.length := loosK_len _ _
  refine c_loop5 (X := Nat) (Y := List (VN 3)) (Z := Nat → Prop) (U := Nat → Prop) (V := Value) (fun i us M1 F1 bv => [(0, .pointer (some ⟨bl, 0, none⟩)), (3, .pointer (some ⟨b3, 0, none⟩)), (4, .pointer (some ⟨b4, 0, none⟩)), (20, kv), (21, .int .i64 (t.kids.length : Int)), (22, .int .i64 (i : Nat))]) (fun i us M1 F1 bv w' => i ≤ t.kids.length ∧ OwnSl 25 B M1 w' kv us ∧ OTs 25 B w' us (upTo (loosK t.kids (b.drop 1)) t.kids i) F1 ∧ (∀ c, F1 c → M1 c) ∧ (∀ c, F1 c → F c ∨ w.heap.size ≤ c) ∧ Kept w w' (Out (Rw.Add F bl) w) ∧ Stp B M M1 w w' ∧ Low M1 w' ∧ B ≤ w'.heap.size ∧ MB B M1 w' bl 87 [bv] ∧ Sl M1 w' bv (b.drop (1 + pszs (t.kids.take i))) ∧ MB B M1 w' b4 25 [.int .u8 0, .string ⟨#[]⟩, .int .i64 0, .slice none 0 0] ∧ At M1 w' b3 0 [.int .u8 t.op, .string t.name, .int .i64 t.n, kv] ∧ (∀ x y, (kv : Value).ownBlock = some x → F1 y → x ≠ y) ∧ (∀ x y, (kv : Value).ownBlock = some x → (Out (Rw.Add F bl) w) y → x ≠ y) ∧ (∀ x, (kv : Value).ownBlock = some x → x ≠ bl) ∧ (∀ x, F1 x → x ≠ bl) ∧ (∀ x, (Out (Rw.Add F bl) w) x → x ≠ bl) ∧ (∀ x, (kv : Value).ownBlock = some x → x ≠ b4) ∧ (∀ x, F1 x → x ≠ b4) ∧ (∀ x, (Out (Rw.Add F bl) w) x → x ≠ b4)) (fun i us M1 F1 bv => t.kids.length - i) (0) (us) ((Rw.Add M b4)) (H) (bvw3) (s6 rfl rfl rfl rfl (get_num rfl (by omega)) rfl) ?_ ?_
  · refine ⟨Nat.zero_le _, ?_⟩
    rw [upTo_zero]
    exact ⟨hr, hO, hF1, hFn, hfr, hT, hlow, hB, hl, (by simpa [pszs] using hb), h4, h3, dd_hr_hO, dd_hr_hfr, d_hr_hl, d_hO_hl, d_hfr_hl, d_hr_h4, d_hO_h4, d_hfr_h4⟩
  clear hF1 hFn hfr hT dd_hr_hO dd_hr_hfr d_hr_hl d_hO_hl d_hfr_hl d_hr_h4 d_hO_h4 d_hfr_h4 hul
  rintro i us M1 F1 bv w9 ⟨hi, hr, hO, hF1, hFn, hfr, hT, hlow, hB, hl, hb, h4, h3, dd_hr_hO, dd_hr_hfr, d_hr_hl, d_hO_hl, d_hfr_hl, d_hr_h4, d_hO_h4, d_hfr_h4⟩
  have hul := hO.len
  rw [upTo_len htl] at hul
  refine q0 (l_p 1 tbOk rfl (q1 (c_seq ?_)))
  refine c_ifP _ rfl (fun c3 => ?_) (fun c3 => ?_)
  · refine c_skip (x_seq (c_seq (c_blk (q0 (l_p 1 tbOk rfl ?_)))))
    have hik : i < t.kids.length := by omega
    obtain ⟨⟨uv⟩, G, hui, hx, hGF, hOh⟩ := hO.take (upTo_get htl hik)
    refine l_cons (o_ixO tbOk hr hui rfl rfl rfl rfl rfl rfl rfl rfl rfl ?_)
    intro ebx eux hobx hRx hatx
    obtain ⟨e0, _⟩ := hRx
    replace e0 : eux = uv := e0
    subst e0
    obtain ⟨kvx, usx, Hx, rfl, opx, nmx, n64x, hknx, hrx, hOx, hHx⟩ := oty_open hx
    replace hatx : OAt _ _ _ [.int .u8 t.kids[i].op, .string t.kids[i].name, .int .i64 t.kids[i].n, kvx] := hatx
    refine l_cons (o_lds tbOk (fun j v hv => hatx.cell j v hv) rfl rfl rfl rfl rfl rfl ?_)
    refine l_cons (o_new tbOk rfl rfl rfl ?_)
    intro b6 w10 qb6 ew10 hb6
    have nb6 := nM_of hlow qb6
    refine l_p 1 tbOk rfl ?_
    refine l_cons (o_st tbOk hb6 rfl rfl rfl rfl hx.one rfl rfl ?_)
    intro w11 h6 uw11 bew11
    have ew11 : Ext w9 w11 := ew10.trans (bew11 _ (Nat.le_of_eq qb6.symm))
    replace hT := hT.then (Stp.ext ew11 hlow hB)
    replace hr := hr.ext hlow hB ew11
    replace hfr := hfr.ext hlow hB ew11
    replace hl := hl.ext hlow hB ew11
    replace h4 := h4.ext hlow hB ew11
    replace hOh := hOh.ext hlow hB ew11
    replace hx := hx.ext hlow hB ew11
    replace hb := hb.ext ew11
    replace h3 := h3.ext ew11
    replace hlow := hlow.ext ew11
    replace hB := Nat.le_trans hB ew11.size
    replace h6 : Box w11 b6 25 [.int .u8 t.kids[i].op, .string t.kids[i].name, .int .i64 t.kids[i].n, kvx] := h6
    replace h6 := h6.at nb6
    refine q1 ?_
    refine a_beg (Sof B M1) rfl ?_
    intro w12 ew12
    replace hT := hT.then (Stp.ext ew12 hlow hB)
    replace hr := hr.ext hlow hB ew12
    replace hfr := hfr.ext hlow hB ew12
    replace hl := hl.ext hlow hB ew12
    replace h4 := h4.ext hlow hB ew12
    replace hOh := hOh.ext hlow hB ew12
    replace hx := hx.ext hlow hB ew12
    replace hb := hb.ext ew12
    replace h3 := h3.ext ew12
    replace h6 := h6.ext ew12
    replace hlow := hlow.ext ew12
    replace hB := Nat.le_trans hB ew12.size
    have hS : Stp B M1 M1 w12 w12 := Stp.refl hlow
    have D_hl := hl.box
    have D_hb := hb
    have D_h4 := h4.box
    have D_h3 := h3
    have D_h6 := h6
    refine a_p 0 tbOk rfl rfl rfl rfl (by kernel_rfl) (fun _ _ _ h => h) ⟨_, hS⟩ ?_
    refine a_ld 1 tbOk (fun _ hs => (D_h3.so hs).cell 3 _ rfl) rfl rfl rfl rfl rfl rfl (by kernel_rfl) (fun _ _ _ h => h) ⟨_, hS⟩ ?_
    refine a_p 2 tbOk rfl rfl rfl rfl (by kernel_rfl) (fun _ _ _ h => h) ⟨_, hS⟩ ?_
    refine a_p 3 tbOk rfl rfl rfl rfl (by kernel_rfl) (fun _ _ _ h => h) ⟨_, hS⟩ ?_
    refine a_lds 4 tbOk (fun _ hs j v hv => (D_h6.so hs).cell j v hv) rfl rfl rfl rfl rfl rfl rfl (by kernel_rfl) (fun _ _ _ h => h) ⟨_, hS⟩ ?_
    have l_h4 := h4.lt
    have l_hl := hl.lt
    have hsz0 := hT.upd.1
    have lH := hOh.lt
    have lr := hr.lt
    refine a_one 5 rfl (by kernel_rfl) (o_call fo85 rfl rfl rfl (ih _ (List.getElem_mem hik) (b.drop (1 + pszs (t.kids.take i))) _ _ B _ bv G bl hx (fun c hc => hF1 c (hGF c hc)) hl (fun g => d_hO_hl _ (hGF _ g) rfl) hb hlow hB (by have := psz_get hik; omega)) ?_)
    rintro vq w13 ⟨Mw13, Fw13, bvw13, hq, hq2, hlw13, hbw13, sw13, kw13⟩
    have frw13 : ∀ x, x < w12.heap.size → ¬ (G x ∨ x = bl) → w13.heap[x]? = w12.heap[x]? := fun x hx hg => kw13.blk x ⟨hx, hg⟩
    replace hT := hT.then sw13
    replace hS := hS.then sw13
    replace hr := hr.stp sw13 (fun x hx => frw13 x (hr.lt x hx).2 (fun g => g.elim (fun g => dd_hr_hO x x hx (hGF x g) rfl) (d_hr_hl x hx)))
    replace hfr := hfr.stp sw13 (fun x hx => frw13 x (hfr.lt x hx).2 (fun g => g.elim (fun g => (hFn x (hGF x g)).elim (fun h => hx.2 (.inl h)) (fun h => by have := hx.1; have := hfr.size; omega)) (fun e => hx.2 (.inr e))))
    replace h4 := h4.stp sw13 (frw13 b4 h4.lt (fun g => g.elim (fun g => d_hO_h4 _ (hGF _ g) rfl) (ne_hl_h4.symm)))
    replace hOh := hOh.stp sw13 (fun c hc hn => frw13 c (hOh.lt c hc).2 (fun g => g.elim hn (d_hO_hl c hc)))
    replace h3 := h3.stp sw13
    replace h6 := h6.stp sw13
    replace hF1 := fun b h => sw13.sub b (hF1 b h)
    replace hlow := sw13.low
    replace hB := Nat.le_trans hB sw13.upd.1
    refine ⟨⟨_, hS⟩, ?_⟩
    replace hl := hlw13
    replace hb := hbw13
    have hO := hOh.put hq (fun c hc => (hq2 c hc).2.elim .inl (fun h => .inr (fun hf => by have := (lH c hf).2; omega)))
    replace hF1 : ∀ c, F1 c ∨ Fw13 c → Mw13 c := fun c h => h.elim (hF1 c) (fun h => (hq2 c h).1)
    replace dd_hr_hO : ∀ x y, kv.ownBlock = some x → (F1 y ∨ Fw13 y) → x ≠ y := fun x y hx hy => hy.elim (dd_hr_hO x y hx) (fun h => (hq2 y h).2.elim (fun g => dd_hr_hO x y hx (hGF y g)) (fun h => by have := (lr x hx).2; omega))
    replace d_hO_h4 : ∀ x, (F1 x ∨ Fw13 x) → x ≠ b4 := fun x hx => hx.elim (d_hO_h4 x) (fun h => (hq2 x h).2.elim (fun g => d_hO_h4 x (hGF x g)) (fun h => by have := l_h4; omega))
    replace d_hO_hl : ∀ x, (F1 x ∨ Fw13 x) → x ≠ bl := fun x hx => hx.elim (d_hO_hl x) (fun h => (hq2 x h).2.elim (fun g => d_hO_hl x (hGF x g)) (fun h => by have := l_hl; omega))
    replace hFn : ∀ c, (F1 c ∨ Fw13 c) → F c ∨ w.heap.size ≤ c := fun c hc => hc.elim (hFn c) (fun h => (hq2 c h).2.elim (fun g => hFn c (hGF c g)) (fun h => .inr (by have := hsz0; omega)))
    refine a_ixO 6 tbOk hr hui rfl rfl rfl rfl rfl rfl rfl rfl rfl rfl (by kernel_rfl) (fun _ _ _ _ h => h) ⟨_, hS⟩ ?_
    intro ebz euz hobz hRz hatz
    refine a_one 7 rfl (by kernel_rfl) (o_stO tbOk hr hobz (by omega) hq.vn hlow rfl rfl rfl rfl rfl rfl ?_)
    intro w14 hw14 sw14 frw14
    replace hT := hT.then sw14
    replace hS := hS.then sw14
    replace hfr := hfr.stp sw14 (fun x hx => frw14 x (hfr.lt x hx).2 (fun e => dd_hr_hfr _ x hobz hx e.symm))
    replace hl := hl.stp sw14 (frw14 bl hl.lt (fun e => d_hr_hl _ hobz e.symm))
    replace h4 := h4.stp sw14 (frw14 b4 h4.lt (fun e => d_hr_h4 _ hobz e.symm))
    replace hO := hO.stp sw14 (fun x hx => frw14 x (hO.lt x hx).2 (fun e => dd_hr_hO _ x hobz hx e.symm))
    replace hb := hb.stp sw14
    replace h3 := h3.stp sw14
    replace h6 := h6.stp sw14
    replace hF1 := fun b h => sw14.sub b (hF1 b h)
    replace hlow := sw14.low
    replace hB := Nat.le_trans hB sw14.upd.1
    refine ⟨⟨_, hS⟩, ?_⟩
    replace hr := hw14
    clear hw14
    refine a_end (by kernel_rfl) ?_
    refine x_blk (x_seq (c_reg ?_))
    refine l_cons (o_ar rfl rfl rfl (IntWalk.i64_in _ (by omega)) rfl rfl ?_)
    refine l_p 1 tbOk rfl (l_nil ?_)
    exact x_round5 (i + 1) (us.set i ⟨vq⟩) (Mw13) ((fun c => F1 c ∨ Fw13 c)) (bvw13) (s6 rfl rfl rfl rfl rfl rfl) ⟨by omega, hr, by rw [← upTo_set htl hik, loosK_at hik, List.drop_drop]; exact hO, hF1, hFn, hfr, hT, hlow, hB, hl, by rw [pszs_take hik, ← Nat.add_assoc, ← List.drop_drop]; exact hb, h4, h3, dd_hr_hO, dd_hr_hfr, d_hr_hl, d_hO_hl, d_hfr_hl, d_hr_h4, d_hO_h4, d_hfr_h4⟩ (by omega)
  refine c_exit (x_seqE (x_seqE (x_blkE (x_seq (q0 ?_)))))
  refine l_cons (o_lds tbOk (fun j v hv => h3.cell j v hv) rfl rfl rfl rfl rfl rfl ?_)
  refine l_cons (o_st tbOk h4.box rfl rfl rfl rfl (own_ones hr) rfl rfl ?_)
  intro w15 hw15 qw15 bew15
  have uw15 : UpdB _ _ _ := ⟨qw15, bew15⟩
  have sw15 := uw15.stp h4.inM hlow h4.ge
  have frw15 := qw15.2
  replace hT := hT.then sw15
  replace hr := hr.stp sw15 (fun x hx => frw15 x (hr.lt x hx).2 (d_hr_h4 x hx))
  replace hO := hO.stp sw15 (fun x hx => frw15 x (hO.lt x hx).2 (d_hO_h4 x hx))
  replace hfr := hfr.stp sw15 (fun x hx => frw15 x (hfr.lt x hx).2 (d_hfr_h4 x hx))
  replace hl := hl.stp sw15 (frw15 bl hl.lt ne_hl_h4)
  replace hb := hb.stp sw15
  replace h3 := h3.stp sw15
  replace hF1 := fun b h => sw15.sub b (hF1 b h)
  replace hlow := sw15.low
  replace hB := Nat.le_trans hB sw15.upd.1
  replace h4 : MB B _ w15 b4 _ [.int .u8 t.op, .string t.name, .int .i64 t.n, kv] := ⟨hw15, h4.inM, h4.ge⟩
  refine q1 (c_ret ?_)
  refine x_ret1s tbOk (fun j v hv => h4.cell j v hv) rfl rfl rfl rfl rfl ?_
  obtain rfl : i = t.kids.length := by omega
  rw [upTo_all htl (Nat.le_refl _)] at hO
  refine ⟨_, fun c => kv.ownBlock = some c ∨ F1 c, _, ?_, fun c hc => hc.elim (fun h => ⟨hr.inM c h, .inl (hkF c h)⟩) (fun h => ⟨hF1 c h, hFn c h⟩), hl, by rw [psz_eq, Nat.add_comm, ← List.take_of_length_le (Nat.le_refl t.kids.length)]; exact hb, hT, hfr⟩
  rw [loos_even hod]
  exact oty_mk op nm n64 (by rw [htl]; exact hkn) (fun c hc => hc.elim (hr.lt c) (hO.lt c)) (hr.keepV (fun b hb => .inl hb) (fun _ _ _ _ _ => rfl)) hO (fun c hc => ⟨.inr hc, fun e => dd_hr_hO c c e hc rfl⟩)

/-- Loosen: a type loosened by bytes. -/
theorem Loosen_own (t : Ty) (b : List UInt8) (M : Nat → Prop) (w : World) (v u : Value) (ht : Rep.R M w v t) (hb : Sl M w u b) (hlow0 : Low M w) (hz : psz t ≤ 2000000) :
    Calls Try.prog 54 #[v, u] w (Ret fun r w' => OTy 25 w.heap.size w' (LoosF t b) r (Plus NoM w w') ∧ Ext w w') := by
  have hlow := hlow0
  have hB : w.heap.size ≤ w.heap.size := Nat.le_refl _
  have hE : Below w.heap.size w w := Below.refl _ _
  have hsub : ∀ b, M b → M b := fun _ h => h
  obtain ⟨kv, rfl, op, nm, n64, hk⟩ := ty_open ht
  have hpc := psz_canon _ t (Nat.le_refl _)
  obtain ⟨ab, cb, rfl, _⟩ := id hb
  refine c_enter (n := 20) Try.func54 rfl rfl rfl ?_
  refine q0 ?_
  refine l_cons (o_box rfl rfl rfl ?_)
  intro b2 w1 hb_b2 ew1 h2
  replace h2 : Box _ b2 25 [.int .u8 t.op, .string t.name, .int .i64 t.n, kv] := h2
  replace h2 := h2.at (nM_of hlow hb_b2)
  replace hE := hE.trans (Below.mono ew1 hB)
  replace ht := Rep.ext ht ew1
  replace hk := hk.ext ew1
  replace hb := hb.ext ew1
  replace hlow := hlow.ext ew1
  replace hB := Nat.le_trans hB ew1.size
  refine l_cons (o_new tbOk rfl rfl rfl ?_)
  intro b4 w2 qb4 ew2 hb4
  have sw2 := Stp.add ew2 hlow hB (Nat.le_of_eq qb4.symm) hb4.lt
  have h4 : MB w.heap.size (Rw.Add M b4) w2 b4 25 [.int .u8 0, .string ⟨#[]⟩, .int .i64 0, .slice none 0 0] := MB.mk' hb4 qb4 hB
  replace hE := hE.trans sw2.below
  replace ht := Rep.stp ht sw2
  replace hk := hk.stp sw2
  replace hb := hb.stp sw2
  replace h2 := h2.stp sw2
  replace hsub := fun b h => sw2.sub b (hsub b h)
  replace hlow := sw2.low
  replace hB := Nat.le_trans hB sw2.upd.1
  refine q1 (c_seq (q0 ?_))
  refine l_cons (o_lds tbOk (fun j v hv => h2.cell j v hv) rfl rfl rfl rfl rfl rfl ?_)
  refine l_cons (o_call fo16 rfl rfl rfl (kRight_specB t _ _ _ ht hlow) ?_)
  rintro _ w3 ⟨rfl, ew3⟩
  replace h4 := h4.ext hlow hB ew3
  replace hE := hE.trans (Below.mono ew3 hB)
  replace ht := Rep.ext ht ew3
  replace hk := hk.ext ew3
  replace hb := hb.ext ew3
  replace h2 := h2.ext ew3
  replace hlow := hlow.ext ew3
  replace hB := Nat.le_trans hB ew3.size
  refine l_p 2 tbOk rfl ?_
  refine l_splitB 9 _ rfl (fun c1 => ?_) (fun c1 => ?_)
  · refine l_cons (o_lds tbOk (fun j v hv => h2.cell j v hv) rfl rfl rfl rfl rfl rfl ?_)
    refine l_cons (o_call fo18 rfl rfl rfl (kRow_specB t _ _ _ ht hlow) ?_)
    rintro _ w4 ⟨rfl, ew4⟩
    replace h4 := h4.ext hlow hB ew4
    replace hE := hE.trans (Below.mono ew4 hB)
    replace ht := Rep.ext ht ew4
    replace hk := hk.ext ew4
    replace hb := hb.ext ew4
    replace h2 := h2.ext ew4
    replace hlow := hlow.ext ew4
    replace hB := Nat.le_trans hB ew4.size
    refine l_p 2 tbOk rfl (q1 ?_)
    refine c_ifB _ rfl (fun c2 => ?_) (fun c2 => ?_)
    · refine q0 ?_
      refine l_cons (o_build (cells := [.int .u8 0, .string ⟨#[]⟩, .int .i64 0, .slice none 0 0]) (css := []) bd25 rfl rfl rfl rfl rfl ?_)
      refine l_cons (o_st tbOk h4.box rfl rfl rfl rfl (by intro u hu; simp [Value.cells] at hu; rcases hu with rfl | rfl | rfl | rfl <;> rfl) rfl rfl ?_)
      intro w5 hw5 qw5 bew5
      have uw5 : UpdB _ _ _ := ⟨qw5, bew5⟩
      have sw5 := uw5.stp h4.inM hlow h4.ge
      have frw5 := qw5.2
      replace hE := hE.trans sw5.below
      replace ht := Rep.stp ht sw5
      replace hk := hk.stp sw5
      replace hb := hb.stp sw5
      replace h2 := h2.stp sw5
      replace hsub := fun b h => sw5.sub b (hsub b h)
      replace hlow := sw5.low
      replace hB := Nat.le_trans hB sw5.upd.1
      replace h4 : MB w.heap.size _ w5 b4 _ [.int .u8 0, .string ⟨#[]⟩, .int .i64 0, .slice none 0 0] := ⟨hw5, h4.inM, h4.ge⟩
      refine q1 (c_ret (x_seqR ?_))
      have hro : (rightB t || rowB t) = false := by simp [c1, c2]
      refine x_ret1s tbOk (fun j v hv => h4.cell j v hv) rfl rfl rfl rfl rfl ?_
      unfold LoosF
      rw [hro]
      exact ⟨oty_leaf (by decide) (by decide) ⟨by decide, by decide⟩, hE⟩
    refine c_skip (x_seq (q0 (l_p 1 tbOk rfl ?_)))
    have hro : (rightB t || rowB t) = true := by simp [c1, c2]
    refine l_cons (o_build (cells := [.slice ab b.length cb]) bd87 rfl rfl rfl rfl rfl ?_)
    refine l_cons (o_new tbOk rfl rfl rfl ?_)
    intro bl w6 qbl ew6 hbl
    have ne_h4_hl : b4 ≠ bl := by have := h4.lt; omega
    have sw6 := Stp.add ew6 hlow hB (Nat.le_of_eq qbl.symm) hbl.lt
    have hl : MB w.heap.size (Rw.Add (Rw.Add M b4) bl) w6 bl 87 [.slice none 0 0] := MB.mk' hbl qbl hB
    replace h4 := h4.stp sw6 (ew6.block b4 h4.lt)
    replace hE := hE.trans sw6.below
    replace ht := Rep.stp ht sw6
    replace hk := hk.stp sw6
    replace hb := hb.stp sw6
    replace h2 := h2.stp sw6
    replace hsub := fun b h => sw6.sub b (hsub b h)
    replace hlow := sw6.low
    replace hB := Nat.le_trans hB sw6.upd.1
    refine l_cons (o_st tbOk hl.box rfl rfl rfl rfl (by intro u hu; simp [Value.cells] at hu; subst hu; rfl) rfl rfl ?_)
    intro w7 hw7 qw7 bew7
    have uw7 : UpdB _ _ _ := ⟨qw7, bew7⟩
    have sw7 := uw7.stp hl.inM hlow hl.ge
    have frw7 := qw7.2
    replace h4 := h4.stp sw7 (frw7 b4 h4.lt ne_h4_hl)
    replace hE := hE.trans sw7.below
    replace ht := Rep.stp ht sw7
    replace hk := hk.stp sw7
    replace hb := hb.stp sw7
    replace h2 := h2.stp sw7
    replace hsub := fun b h => sw7.sub b (hsub b h)
    replace hlow := sw7.low
    replace hB := Nat.le_trans hB sw7.upd.1
    replace hl : MB w.heap.size _ w7 bl _ [.slice ab b.length cb] := ⟨hw7, hl.inM, hl.ge⟩
    refine q1 (q0 ?_)
    refine l_cons (o_lds tbOk (fun j v hv => h2.cell j v hv) rfl rfl rfl rfl rfl rfl ?_)
    have l_h4 := h4.lt
    have l_hl := hl.lt
    refine l_cons (o_call fo43 rfl rfl rfl (Canon_own t _ _ _ ht hlow hz) ?_)
    rintro vc w8 ⟨hc, ew8⟩
    replace hc := hc.ge hB
    have hGl : ∀ c, Plus NoM w7 w8 c → w7.heap.size ≤ c ∧ c < w8.heap.size := fun c h => h.elim (fun h => h.elim) id
    generalize Plus NoM w7 w8 = G at hc hGl
    have sw8 := (Stp.ext ew8 hlow hB).more hGl
    replace h4 := h4.stp sw8 (ew8.block b4 h4.lt)
    replace hl := hl.stp sw8 (ew8.block bl hl.lt)
    replace hE := hE.trans sw8.below
    replace ht := Rep.stp ht sw8
    replace hk := hk.stp sw8
    replace hb := hb.stp sw8
    replace h2 := h2.stp sw8
    replace hsub := fun b h => sw8.sub b (hsub b h)
    replace hlow := sw8.low
    replace hB := Nat.le_trans hB sw8.upd.1
    have d_hc_h4 : ∀ x, G x → x ≠ b4 := fun x hx => by have := (hGl x hx).1; omega
    have d_hc_hl : ∀ x, G x → x ≠ bl := fun x hx => by have := (hGl x hx).1; omega
    rw [hro] at hc
    replace hc : OTy _ _ _ (canonF t) _ _ := hc
    have l2_h4 := h4.lt
    refine l_cons (o_call fo85 rfl rfl rfl (loosen_own (canonF t) b _ _ w.heap.size _ _ G bl hc (fun c hc => .inr hc) hl (fun g => d_hc_hl _ g rfl) hb hlow hB (by omega)) ?_)
    rintro vq w9 ⟨Mw9, Fw9, bvw9, hq, hq2, hlw9, hbw9, sw9, kw9⟩
    replace h4 := h4.stp sw9 (kw9.blk b4 ⟨h4.lt, fun g => g.elim (fun g => d_hc_h4 _ g rfl) (ne_h4_hl)⟩)
    replace hE := hE.trans sw9.below
    replace ht := Rep.stp ht sw9
    replace hk := hk.stp sw9
    replace h2 := h2.stp sw9
    replace hsub := fun b h => sw9.sub b (hsub b h)
    replace hlow := sw9.low
    replace hB := Nat.le_trans hB sw9.upd.1
    have d_hq_h4 : ∀ x, Fw9 x → x ≠ b4 := fun x hx => (hq2 x hx).2.elim (d_hc_h4 x) (fun h => by omega)
    obtain ⟨kvq, usq, Hq, rfl, opq, nmq, n64q, hknq, hrq, hOq, hHq⟩ := oty_open hq
    refine l_cons (o_st tbOk h4.box rfl rfl rfl rfl hq.one rfl rfl ?_)
    intro w10 hw10 qw10 bew10
    have uw10 : UpdB _ _ _ := ⟨qw10, bew10⟩
    have sw10 := uw10.stp h4.inM hlow h4.ge
    have frw10 := qw10.2
    replace hq := hq.stp sw10 (fun x hx => frw10 x (hq.lt x hx).2 (d_hq_h4 x hx))
    replace hE := hE.trans sw10.below
    replace ht := Rep.stp ht sw10
    replace hk := hk.stp sw10
    replace h2 := h2.stp sw10
    replace hsub := fun b h => sw10.sub b (hsub b h)
    replace hlow := sw10.low
    replace hB := Nat.le_trans hB sw10.upd.1
    replace h4 : MB w.heap.size _ w10 b4 _ [.int .u8 (loosF (canonF t) b).op, .string (loosF (canonF t) b).name, .int .i64 (loosF (canonF t) b).n, kvq] := ⟨hw10, h4.inM, h4.ge⟩
    refine q1 (c_ret ?_)
    refine x_ret1s tbOk (fun j v hv => h4.cell j v hv) rfl rfl rfl rfl rfl ?_
    unfold LoosF
    rw [hro]
    exact ⟨hq.mono (fun c h => .inr (hq.lt c h)) (fun c h => h.elim (fun h => h.elim) id), hE⟩
  refine l_p 4 tbOk rfl (q1 (c_ifF rfl (c_skip (x_seq (q0 (l_p 1 tbOk rfl ?_))))))
  have hro : (rightB t || rowB t) = true := by simp [c1]
  refine l_cons (o_build (cells := [.slice ab b.length cb]) bd87 rfl rfl rfl rfl rfl ?_)
  refine l_cons (o_new tbOk rfl rfl rfl ?_)
  intro bl w11 qbl ew11 hbl
  have ne_h4_hl : b4 ≠ bl := by have := h4.lt; omega
  have sw11 := Stp.add ew11 hlow hB (Nat.le_of_eq qbl.symm) hbl.lt
  have hl : MB w.heap.size (Rw.Add (Rw.Add M b4) bl) w11 bl 87 [.slice none 0 0] := MB.mk' hbl qbl hB
  replace h4 := h4.stp sw11 (ew11.block b4 h4.lt)
  replace hE := hE.trans sw11.below
  replace ht := Rep.stp ht sw11
  replace hk := hk.stp sw11
  replace hb := hb.stp sw11
  replace h2 := h2.stp sw11
  replace hsub := fun b h => sw11.sub b (hsub b h)
  replace hlow := sw11.low
  replace hB := Nat.le_trans hB sw11.upd.1
  refine l_cons (o_st tbOk hl.box rfl rfl rfl rfl (by intro u hu; simp [Value.cells] at hu; subst hu; rfl) rfl rfl ?_)
  intro w12 hw12 qw12 bew12
  have uw12 : UpdB _ _ _ := ⟨qw12, bew12⟩
  have sw12 := uw12.stp hl.inM hlow hl.ge
  have frw12 := qw12.2
  replace h4 := h4.stp sw12 (frw12 b4 h4.lt ne_h4_hl)
  replace hE := hE.trans sw12.below
  replace ht := Rep.stp ht sw12
  replace hk := hk.stp sw12
  replace hb := hb.stp sw12
  replace h2 := h2.stp sw12
  replace hsub := fun b h => sw12.sub b (hsub b h)
  replace hlow := sw12.low
  replace hB := Nat.le_trans hB sw12.upd.1
  replace hl : MB w.heap.size _ w12 bl _ [.slice ab b.length cb] := ⟨hw12, hl.inM, hl.ge⟩
  refine q1 (q0 ?_)
  refine l_cons (o_lds tbOk (fun j v hv => h2.cell j v hv) rfl rfl rfl rfl rfl rfl ?_)
  have l_h4 := h4.lt
  have l_hl := hl.lt
  refine l_cons (o_call fo43 rfl rfl rfl (Canon_own t _ _ _ ht hlow hz) ?_)
  rintro vc w13 ⟨hc, ew13⟩
  replace hc := hc.ge hB
  have hGl : ∀ c, Plus NoM w12 w13 c → w12.heap.size ≤ c ∧ c < w13.heap.size := fun c h => h.elim (fun h => h.elim) id
  generalize Plus NoM w12 w13 = G at hc hGl
  have sw13 := (Stp.ext ew13 hlow hB).more hGl
  replace h4 := h4.stp sw13 (ew13.block b4 h4.lt)
  replace hl := hl.stp sw13 (ew13.block bl hl.lt)
  replace hE := hE.trans sw13.below
  replace ht := Rep.stp ht sw13
  replace hk := hk.stp sw13
  replace hb := hb.stp sw13
  replace h2 := h2.stp sw13
  replace hsub := fun b h => sw13.sub b (hsub b h)
  replace hlow := sw13.low
  replace hB := Nat.le_trans hB sw13.upd.1
  have d_hc_h4 : ∀ x, G x → x ≠ b4 := fun x hx => by have := (hGl x hx).1; omega
  have d_hc_hl : ∀ x, G x → x ≠ bl := fun x hx => by have := (hGl x hx).1; omega
  rw [hro] at hc
  replace hc : OTy _ _ _ (canonF t) _ _ := hc
  have l2_h4 := h4.lt
  refine l_cons (o_call fo85 rfl rfl rfl (loosen_own (canonF t) b _ _ w.heap.size _ _ G bl hc (fun c hc => .inr hc) hl (fun g => d_hc_hl _ g rfl) hb hlow hB (by omega)) ?_)
  rintro vq w14 ⟨Mw14, Fw14, bvw14, hq, hq2, hlw14, hbw14, sw14, kw14⟩
  replace h4 := h4.stp sw14 (kw14.blk b4 ⟨h4.lt, fun g => g.elim (fun g => d_hc_h4 _ g rfl) (ne_h4_hl)⟩)
  replace hE := hE.trans sw14.below
  replace ht := Rep.stp ht sw14
  replace hk := hk.stp sw14
  replace h2 := h2.stp sw14
  replace hsub := fun b h => sw14.sub b (hsub b h)
  replace hlow := sw14.low
  replace hB := Nat.le_trans hB sw14.upd.1
  have d_hq_h4 : ∀ x, Fw14 x → x ≠ b4 := fun x hx => (hq2 x hx).2.elim (d_hc_h4 x) (fun h => by omega)
  obtain ⟨kvq, usq, Hq, rfl, opq, nmq, n64q, hknq, hrq, hOq, hHq⟩ := oty_open hq
  refine l_cons (o_st tbOk h4.box rfl rfl rfl rfl hq.one rfl rfl ?_)
  intro w15 hw15 qw15 bew15
  have uw15 : UpdB _ _ _ := ⟨qw15, bew15⟩
  have sw15 := uw15.stp h4.inM hlow h4.ge
  have frw15 := qw15.2
  replace hq := hq.stp sw15 (fun x hx => frw15 x (hq.lt x hx).2 (d_hq_h4 x hx))
  replace hE := hE.trans sw15.below
  replace ht := Rep.stp ht sw15
  replace hk := hk.stp sw15
  replace h2 := h2.stp sw15
  replace hsub := fun b h => sw15.sub b (hsub b h)
  replace hlow := sw15.low
  replace hB := Nat.le_trans hB sw15.upd.1
  replace h4 : MB w.heap.size _ w15 b4 _ [.int .u8 (loosF (canonF t) b).op, .string (loosF (canonF t) b).name, .int .i64 (loosF (canonF t) b).n, kvq] := ⟨hw15, h4.inM, h4.ge⟩
  refine q1 (c_ret ?_)
  refine x_ret1s tbOk (fun j v hv => h4.cell j v hv) rfl rfl rfl rfl rfl ?_
  unfold LoosF
  rw [hro]
  exact ⟨hq.mono (fun c h => .inr (hq.lt c h)) (fun c h => h.elim (fun h => h.elim) id), hE⟩

end Go.Proofs.Ytpoahmeacjggfaa
