/- Walks: types loosened by bytes. Printed by wip/walks/prec4.py. -/
import Derived.Test.YtpoahmeacjggfaaWo
import Derived.Test.YtpoahmeacjggfaaSlh
import Derived.Test.YtpoahmeacjggfaaPlainB
namespace Go.Proofs.Ytpoahmeacjggfaa
open Go Rw Go.RowKit
set_option maxRecDepth 100000

/-- odd: is the next byte? -/
theorem odd_spec (M : Nat → Prop) (w : World) (B bl : Nat) (bv : Value) (b : List UInt8) (hl : MB B M w bl 87 [bv]) (hb : Sl M w bv b) (hlow : Low M w) (hB : B ≤ w.heap.size) :
    Calls Try.prog 111 #[.pointer (some ⟨bl, 0, none⟩)] w (Ret fun r w' => r = .bool (oddH b) ∧ ∃ bv', MB B M w' bl 87 [bv'] ∧ Sl M w' bv' (b.drop 1) ∧ UpdB bl w w') := by
  have hU := UpdB.refl bl w
  refine c_enter (n := 27) Try.func111 rfl rfl rfl ?_
  refine q0 (l_p 1 tbOk rfl (q1 (c_seq (q0 (l_p 3 tbOk rfl ?_)))))
  refine l_cons (o_ld tbOk (hl.cell 0 _ rfl) rfl rfl rfl rfl rfl ?_)
  refine l_cons (o_len tbOk hb rfl rfl rfl rfl rfl ?_)
  refine l_p 1 tbOk rfl (q1 ?_)
  refine c_ifP _ rfl (fun hc => ?_) (fun hc => ?_)
  · refine q0 (l_p 1 tbOk rfl (q1 (c_ret (x_seqR (x_ret1 rfl rfl ?_)))))
    exact ⟨by rw [odd_nil (by omega)], _, hl, by rw [List.drop_eq_nil_of_le (by omega)]; rwa [List.eq_nil_of_length_eq_zero (show b.length = 0 by omega)] at hb, hU⟩
  have h0 : 0 < b.length := by omega
  refine c_skip (x_seq (q0 (l_p 3 tbOk rfl ?_)))
  refine l_cons (o_ld tbOk (hl.cell 0 _ rfl) rfl rfl rfl rfl rfl ?_)
  refine l_cons (o_ixS tbOk hb (List.getElem?_eq_getElem h0) rfl rfl rfl rfl rfl rfl rfl rfl rfl ?_)
  intro eb eo eu hr hat
  replace hr : eu = .int .u8 (b[0]).toNat := hr
  subst hr
  refine l_cons (o_ld tbOk (hat.cell 0 _ rfl) rfl rfl rfl rfl rfl ?_)
  refine l_p 1 tbOk rfl (q1 (q0 (l_p 4 tbOk rfl ?_)))
  refine l_cons (o_ld tbOk (hl.cell 0 _ rfl) rfl rfl rfl rfl rfl ?_)
  refine l_cons (o_slt tbOk hb rfl rfl rfl (j := 1) (by omega) rfl rfl rfl rfl rfl rfl ?_)
  intro bv2 hb2
  obtain ⟨ab, cb, e0, _⟩ := id hb2
  subst e0
  refine l_p 2 tbOk rfl ?_
  refine l_cons (o_st tbOk hl.box rfl rfl rfl rfl (by intro u hu; simp [Value.cells] at hu; subst hu; rfl) rfl rfl ?_)
  intro w1 hw1 qw1 bew1
  have uw1 : UpdB _ _ _ := ⟨qw1, bew1⟩
  have sw1 := uw1.stp hl.inM hlow hl.ge
  have frw1 := qw1.2
  replace hU := hU.trans uw1
  replace hb := hb.stp sw1
  replace hb2 := hb2.stp sw1
  replace hlow := sw1.low
  replace hB := Nat.le_trans hB sw1.upd.1
  replace hl : MB B _ w1 bl _ [.slice ab (b.drop 1).length cb] := ⟨hw1, hl.inM, hl.ge⟩
  refine q1 (q0 (l_p 1 tbOk rfl ?_))
  refine l_cons (o_odd rfl rfl rfl rfl ?_)
  refine l_p 2 tbOk rfl (q1 (c_ret (x_ret1 rfl rfl ?_)))
  exact ⟨by rw [odd_head (List.getElem?_eq_getElem h0)], _, hl, hb2, hU⟩

/-- skip: as many bytes as there are. -/
theorem skip_spec (M : Nat → Prop) (w : World) (B bl : Nat) (bv : Value) (b : List UInt8) (hl : MB B M w bl 87 [bv]) (hb : Sl M w bv b) (hlow : Low M w) (hB : B ≤ w.heap.size) (n : Nat) :
    Calls Try.prog 112 #[.pointer (some ⟨bl, 0, none⟩), .int .i64 (n : Int)] w (Ret fun r w' => r = .tuple #[] ∧ ∃ bv', MB B M w' bl 87 [bv'] ∧ Sl M w' bv' (b.drop n) ∧ UpdB bl w w') := by
  have hU := UpdB.refl bl w
  refine c_enter (n := 19) Try.func112 rfl rfl rfl ?_
  refine a_beg Ext rfl ?_
  intro w1 ew1
  replace hU := hU.trans (UpdB.ext ew1 hl.lt)
  replace hl := hl.ext hlow hB ew1
  replace hb := hb.ext ew1
  replace hlow := hlow.ext ew1
  replace hB := Nat.le_trans hB ew1.size
  have hS : Ext w1 w1 := ext_refl _
  have D_hl := hl.box
  have D_hb := hb
  refine a_p 0 tbOk rfl rfl rfl rfl (by kernel_rfl) (fun _ _ _ h => h) hS ?_
  refine a_p 1 tbOk rfl rfl rfl rfl (by kernel_rfl) (fun _ _ _ h => h) hS ?_
  refine a_p 2 tbOk rfl rfl rfl rfl (by kernel_rfl) (fun _ _ _ h => h) hS ?_
  refine a_p 3 tbOk rfl rfl rfl rfl (by kernel_rfl) (fun _ _ _ h => h) hS ?_
  refine a_ld 4 tbOk (fun _ hs => (D_hl.ext hs).cell 0 _ rfl) rfl rfl rfl rfl rfl rfl (by kernel_rfl) (fun _ _ _ h => h) hS ?_
  refine a_p 5 tbOk rfl rfl rfl rfl (by kernel_rfl) (fun _ _ _ h => h) hS ?_
  refine a_p 6 tbOk rfl rfl rfl rfl (by kernel_rfl) (fun _ _ _ h => h) hS ?_
  refine a_p 7 tbOk rfl rfl rfl rfl (by kernel_rfl) (fun _ _ _ h => h) hS ?_
  refine a_p 8 tbOk rfl rfl rfl rfl (by kernel_rfl) (fun _ _ _ h => h) hS ?_
  refine a_ld 9 tbOk (fun _ hs => (D_hl.ext hs).cell 0 _ rfl) rfl rfl rfl rfl rfl rfl (by kernel_rfl) (fun _ _ _ h => h) hS ?_
  refine a_len 10 tbOk hb rfl rfl rfl rfl rfl rfl (by kernel_rfl) (fun _ _ _ h => h) hS ?_
  refine a_p 11 tbOk rfl rfl rfl rfl (by kernel_rfl) (fun _ _ _ h => h) hS ?_
  refine a_one 12 rfl (by kernel_rfl) (o_slt tbOk hb rfl rfl (j := min n b.length) (by split <;> omega) (by omega) rfl rfl rfl rfl rfl rfl ?_)
  intro bv2 hb2
  replace hb2 : Sl M w1 bv2 (b.drop n) := by
    by_cases h : n ≤ b.length
    · rwa [Nat.min_eq_left h] at hb2
    · rw [Nat.min_eq_right (by omega)] at hb2
      rwa [List.drop_eq_nil_of_le (show b.length ≤ n by omega), ← List.drop_eq_nil_of_le (Nat.le_refl b.length)]
  obtain ⟨ab, cb, e0, _⟩ := id hb2
  subst e0
  refine ⟨hS, ?_⟩
  refine a_p 13 tbOk rfl rfl rfl rfl (by kernel_rfl) (fun _ _ _ h => h) hS ?_
  refine a_p 14 tbOk rfl rfl rfl rfl (by kernel_rfl) (fun _ _ _ h => h) hS ?_
  refine a_barS Ext 15 rfl (by kernel_rfl) (by kernel_rfl) (o_st tbOk hl.box rfl rfl rfl rfl (by intro u hu; simp [Value.cells] at hu; subst hu; rfl) rfl rfl ?_)
  intro w2 hw2 qw2 bew2
  have uw2 : UpdB _ _ _ := ⟨qw2, bew2⟩
  have sw2 := uw2.stp hl.inM hlow hl.ge
  have frw2 := qw2.2
  replace hU := hU.trans uw2
  replace hb := hb.stp sw2
  replace hb2 := hb2.stp sw2
  replace hlow := sw2.low
  replace hB := Nat.le_trans hB sw2.upd.1
  replace hS : Ext w2 w2 := ext_refl _
  replace hl : MB B _ w2 bl _ [.slice ab (b.drop n).length cb] := ⟨hw2, hl.inM, hl.ge⟩
  have D_hl := hl.box
  have D_hb := hb
  have D_hb2 := hb2
  refine a_end (by kernel_rfl) ?_
  refine x_ret0n rfl ?_
  exact ⟨rfl, _, hl, hb2, hU⟩

/-- loosen: in place. -/
theorem loosen_own : ∀ (t : Ty) (b : List UInt8) (M : Nat → Prop) (w : World) (B : Nat) (v bv : Value) (F : Nat → Prop) (bl : Nat), OTy 25 B w t v F → (∀ c, F c → M c) → MB B M w bl 87 [bv] → ¬ F bl → Sl M w bv b → Low M w → B ≤ w.heap.size → psz t ≤ 2000000 → Calls Try.prog 85 #[.pointer (some ⟨bl, 0, none⟩), v] w (Ret fun r w' => ∃ M' F' bv', OTy 25 B w' (loosF t b) r F' ∧ (∀ c, F' c → M' c ∧ (F c ∨ w.heap.size ≤ c)) ∧ MB B M' w' bl 87 [bv'] ∧ Sl M' w' bv' (b.drop (psz t)) ∧ Stp B M M' w w' ∧ Kept w w' (Out (Rw.Add F bl) w)) := by
  refine Ty.ind fun t ih => ?_
  intro b M w B v bv F bl ht hF hl hbl hb hlow hB hsz
  have hps := psz_eq t
  have hkl := len_psz t.kids
  have hrt := ht.rep (M := NoM) (fun _ _ h => h)
  have hlt := hb.lt
  have hT : Stp B M M w w := Stp.refl hlow
  have hfr : Kept w w (Out (Rw.Add F bl) w) := Kept.refl (fun x hx => hx.1)
  obtain ⟨kv, us, H, rfl, op, nm, n64, hkn, hr, hO, hH⟩ := oty_open ht
  have hkF := hr.inM
  replace hr := hr.keepV (M' := M) (fun b hb => hF b (hr.inM b hb)) (fun _ _ _ _ _ => rfl)
  have hF1 : ∀ c, H c → M c := fun c hc => hF c (hH c hc).1
  have hFn : ∀ c, H c → F c ∨ w.heap.size ≤ c := fun c hc => .inl (hH c hc).1
  have hul := hO.len
  have dd_hr_hO : ∀ x y, kv.ownBlock = some x → H y → x ≠ y := fun x y hx hy e => (hH y hy).2 (e ▸ hx)
  have dd_hr_hfr : ∀ x y, kv.ownBlock = some x → Out (Rw.Add F bl) w y → x ≠ y := fun x y hx hy e => hy.2 (.inl (e ▸ hkF x hx))
  have d_hr_hl : ∀ x, kv.ownBlock = some x → x ≠ bl := fun x hx e => hbl (e ▸ hkF x hx)
  have d_hO_hl : ∀ x, H x → x ≠ bl := fun x hx e => hbl (e ▸ (hH x hx).1)
  have d_hfr_hl : ∀ x, Out (Rw.Add F bl) w x → x ≠ bl := fun x hx e => hx.2 (.inr e)
  have lbl0 := hl.lt
  refine c_enter (n := 36) Try.func85 rfl rfl rfl ?_
  refine q0 ?_
  refine l_cons (o_box rfl rfl rfl ?_)
  intro b3 w1 hb_b3 ew1 h3
  replace h3 : Box _ b3 25 [.int .u8 t.op, .string t.name, .int .i64 t.n, kv] := h3
  replace h3 := h3.at (nM_of hlow hb_b3)
  replace hT := hT.then (Stp.ext ew1 hlow hB)
  replace hr := hr.ext hlow hB ew1
  replace hO := hO.ext hlow hB ew1
  replace hfr := hfr.ext hlow hB ew1
  replace hl := hl.ext hlow hB ew1
  replace hb := hb.ext ew1
  replace hlow := hlow.ext ew1
  replace hB := Nat.le_trans hB ew1.size
  refine l_cons (o_new tbOk rfl rfl rfl ?_)
  intro b4 w2 qb4 ew2 hb4
  have d_hr_h4 : ∀ x, (kv : Value).ownBlock = some x → x ≠ b4 := fun x hx => by have := (hr.lt x hx).2; omega
  have d_hO_h4 : ∀ x, H x → x ≠ b4 := fun x hx => by have := (hO.lt x hx).2; omega
  have d_hfr_h4 : ∀ x, (Out (Rw.Add F bl) w) x → x ≠ b4 := fun x hx => by have := (hfr.lt x hx).2; omega
  have ne_hl_h4 : bl ≠ b4 := by have := hl.lt; omega
  have sw2 := Stp.add ew2 hlow hB (Nat.le_of_eq qb4.symm) hb4.lt
  have h4 : MB B (Rw.Add M b4) w2 b4 25 [.int .u8 0, .string ⟨#[]⟩, .int .i64 0, .slice none 0 0] := MB.mk' hb4 qb4 hB
  replace hT := hT.then sw2
  replace hr := hr.stp sw2 (fun x hx => ew2.block x (hr.lt x hx).2)
  replace hO := hO.stp sw2 (fun x hx => ew2.block x (hO.lt x hx).2)
  replace hfr := hfr.stp sw2 (fun x hx => ew2.block x (hfr.lt x hx).2)
  replace hl := hl.stp sw2 (ew2.block bl hl.lt)
  replace hb := hb.stp sw2
  replace h3 := h3.stp sw2
  replace hF1 := fun b h => sw2.sub b (hF1 b h)
  replace hlow := sw2.low
  replace hB := Nat.le_trans hB sw2.upd.1
  refine q1 (c_seq (q0 (l_p 1 tbOk rfl ?_)))
  refine l_cons (o_call fo111 rfl rfl rfl (odd_spec _ _ B bl bv b hl hb hlow hB) ?_)
  rintro _ w3 ⟨rfl, bvw3, hlw3, hbw3, uw3⟩
  have sw3 := uw3.stp hl.inM hlow hl.ge
  have frw3 := uw3.upd.2
  replace hT := hT.then sw3
  replace hr := hr.stp sw3 (fun x hx => frw3 x (hr.lt x hx).2 (d_hr_hl x hx))
  replace hO := hO.stp sw3 (fun x hx => frw3 x (hO.lt x hx).2 (d_hO_hl x hx))
  replace hfr := hfr.stp sw3 (fun x hx => frw3 x (hfr.lt x hx).2 (d_hfr_hl x hx))
  replace h4 := h4.stp sw3 (frw3 b4 h4.lt ne_hl_h4.symm)
  replace h3 := h3.stp sw3
  replace hF1 := fun b h => sw3.sub b (hF1 b h)
  replace hlow := sw3.low
  replace hB := Nat.le_trans hB sw3.upd.1
  replace hl := hlw3
  replace hb := hbw3
  refine q1 ?_
  refine c_if _ rfl (fun hod => ?_) (fun hod => ?_)
  · refine q0 (l_p 1 tbOk rfl ?_)
    refine l_cons (o_lds tbOk (fun j v hv => h3.cell j v hv) rfl rfl rfl rfl rfl rfl ?_)
    have hty : Rep.R NoM w3 (.agg #[.int .u8 t.op, .string t.name, .int .i64 t.n, kv]) t := by
      have h := ty_mk (M := NoM) op nm n64 (hO.sl hr hkn (fun _ _ h => h) (fun _ _ h => h))
      rwa [← ty_eta] at h
    refine l_cons (o_call fo20 rfl rfl rfl (size_spec t NoM _ _ hty (low_noM _) hsz) ?_)
    rintro _ w4 ⟨rfl, ew4⟩
    replace hT := hT.then (Stp.ext ew4 hlow hB)
    replace hr := hr.ext hlow hB ew4
    replace hO := hO.ext hlow hB ew4
    replace hfr := hfr.ext hlow hB ew4
    replace hl := hl.ext hlow hB ew4
    replace h4 := h4.ext hlow hB ew4
    replace hb := hb.ext ew4
    replace h3 := h3.ext ew4
    replace hlow := hlow.ext ew4
    replace hB := Nat.le_trans hB ew4.size
    refine l_cons (o_ar rfl rfl rfl (z := ((psz t - 1 : Nat) : Int)) (by rw [IntWalk.i64_in _ (by omega)]; have := psz_pos t; omega) rfl rfl ?_)
    refine l_cons (o_call fo112 rfl rfl rfl (skip_spec _ _ B bl bvw3 (b.drop 1) hl hb hlow hB (psz t - 1)) ?_)
    rintro _ w5 ⟨rfl, bvw5, hlw5, hbw5, uw5⟩
    have sw5 := uw5.stp hl.inM hlow hl.ge
    have frw5 := uw5.upd.2
    replace hT := hT.then sw5
    replace hr := hr.stp sw5 (fun x hx => frw5 x (hr.lt x hx).2 (d_hr_hl x hx))
    replace hO := hO.stp sw5 (fun x hx => frw5 x (hO.lt x hx).2 (d_hO_hl x hx))
    replace hfr := hfr.stp sw5 (fun x hx => frw5 x (hfr.lt x hx).2 (d_hfr_hl x hx))
    replace h4 := h4.stp sw5 (frw5 b4 h4.lt ne_hl_h4.symm)
    replace h3 := h3.stp sw5
    replace hF1 := fun b h => sw5.sub b (hF1 b h)
    replace hlow := sw5.low
    replace hB := Nat.le_trans hB sw5.upd.1
    replace hl := hlw5
    replace hb := hbw5
    refine q1 (c_seq (q0 (l_p 1 tbOk rfl ?_)))
    refine l_cons (o_ld tbOk (h3.cell 0 _ rfl) rfl rfl rfl rfl rfl ?_)
    refine l_p 1 tbOk rfl (q1 ?_)
    refine c_ifP _ rfl (fun c2 => ?_) (fun c2 => ?_)
    · refine q0 ?_
      refine l_cons (o_build (cells := [.int .u8 9, .string ⟨#[]⟩, .int .i64 0, .slice none 0 0]) (css := [[.int .u8 9]]) bd25 rfl rfl rfl rfl rfl ?_)
      refine l_cons (o_st tbOk h4.box rfl rfl rfl rfl (by intro u hu; simp [Value.cells] at hu; rcases hu with rfl | rfl | rfl | rfl <;> rfl) rfl rfl ?_)
      intro w6 hw6 qw6 bew6
      have uw6 : UpdB _ _ _ := ⟨qw6, bew6⟩
      have sw6 := uw6.stp h4.inM hlow h4.ge
      have frw6 := qw6.2
      replace hT := hT.then sw6
      replace hr := hr.stp sw6 (fun x hx => frw6 x (hr.lt x hx).2 (d_hr_h4 x hx))
      replace hO := hO.stp sw6 (fun x hx => frw6 x (hO.lt x hx).2 (d_hO_h4 x hx))
      replace hfr := hfr.stp sw6 (fun x hx => frw6 x (hfr.lt x hx).2 (d_hfr_h4 x hx))
      replace hl := hl.stp sw6 (frw6 bl hl.lt ne_hl_h4)
      replace hb := hb.stp sw6
      replace h3 := h3.stp sw6
      replace hF1 := fun b h => sw6.sub b (hF1 b h)
      replace hlow := sw6.low
      replace hB := Nat.le_trans hB sw6.upd.1
      replace h4 : MB B _ w6 b4 _ [.int .u8 9, .string ⟨#[]⟩, .int .i64 0, .slice none 0 0] := ⟨hw6, h4.inM, h4.ge⟩
      refine q1 (c_ret (x_seqR (x_seqR ?_)))
      refine x_ret1s tbOk (fun j v hv => h4.cell j v hv) rfl rfl rfl rfl rfl ?_
      have hdr : (b.drop 1).drop (psz t - 1) = b.drop (psz t) := by rw [List.drop_drop]; congr 1; have := psz_pos t; omega
      rw [hdr] at hb
      refine ⟨_, NoM, _, ?_, fun _ h => h.elim, hl, hb, hT, hfr⟩
      rw [loos_odd hod, leafF, if_pos (by omega)]
      exact oty_leafB (by decide) (by decide) ⟨by decide, by decide⟩
    refine c_skip (x_seq (q0 ?_))
    refine l_cons (o_call fo35 rfl rfl rfl (dyn_val _ _ hlow) ?_)
    rintro _ w7 ⟨rfl, ew7⟩
    replace hT := hT.then (Stp.ext ew7 hlow hB)
    replace hr := hr.ext hlow hB ew7
    replace hO := hO.ext hlow hB ew7
    replace hfr := hfr.ext hlow hB ew7
    replace hl := hl.ext hlow hB ew7
    replace h4 := h4.ext hlow hB ew7
    replace hb := hb.ext ew7
    replace h3 := h3.ext ew7
    replace hlow := hlow.ext ew7
    replace hB := Nat.le_trans hB ew7.size
    refine l_cons (o_st tbOk h4.box rfl rfl rfl rfl (by intro u hu; simp [Value.cells] at hu; rcases hu with rfl | rfl | rfl | rfl <;> rfl) rfl rfl ?_)
    intro w8 hw8 qw8 bew8
    have uw8 : UpdB _ _ _ := ⟨qw8, bew8⟩
    have sw8 := uw8.stp h4.inM hlow h4.ge
    have frw8 := qw8.2
    replace hT := hT.then sw8
    replace hr := hr.stp sw8 (fun x hx => frw8 x (hr.lt x hx).2 (d_hr_h4 x hx))
    replace hO := hO.stp sw8 (fun x hx => frw8 x (hO.lt x hx).2 (d_hO_h4 x hx))
    replace hfr := hfr.stp sw8 (fun x hx => frw8 x (hfr.lt x hx).2 (d_hfr_h4 x hx))
    replace hl := hl.stp sw8 (frw8 bl hl.lt ne_hl_h4)
    replace hb := hb.stp sw8
    replace h3 := h3.stp sw8
    replace hF1 := fun b h => sw8.sub b (hF1 b h)
    replace hlow := sw8.low
    replace hB := Nat.le_trans hB sw8.upd.1
    replace h4 : MB B _ w8 b4 _ [.int .u8 3, .string ⟨#[]⟩, .int .i64 0, .slice none 0 0] := ⟨hw8, h4.inM, h4.ge⟩
    refine q1 (c_ret (x_seqR ?_))
    refine x_ret1s tbOk (fun j v hv => h4.cell j v hv) rfl rfl rfl rfl rfl ?_
    have hdr : (b.drop 1).drop (psz t - 1) = b.drop (psz t) := by rw [List.drop_drop]; congr 1; have := psz_pos t; omega
    rw [hdr] at hb
    refine ⟨_, NoM, _, ?_, fun _ h => h.elim, hl, hb, hT, hfr⟩
    rw [loos_odd hod, leafF, if_neg (by omega)]
    exact oty_leafB (by decide) (by decide) ⟨by decide, by decide⟩
  refine c_skip (x_seq (c_seq (q0 (l_p 1 tbOk rfl ?_))))
  refine l_cons (o_ld tbOk (h3.cell 3 _ rfl) rfl rfl rfl rfl rfl ?_)
  refine l_cons (o_lenO tbOk hr rfl rfl rfl rfl rfl ?_)
  refine l_p 1 tbOk rfl (q1 (c_blk ?_))
  have htl : (loosK t.kids (b.drop 1)).length = t.kids.length := loosK_len _ _
  refine c_loop5 (X := Nat) (Y := List (VN 3)) (Z := Nat → Prop) (U := Nat → Prop) (V := Value) (fun i us M1 F1 bv => [(0, .pointer (some ⟨bl, 0, none⟩)), (3, .pointer (some ⟨b3, 0, none⟩)), (4, .pointer (some ⟨b4, 0, none⟩)), (20, kv), (21, .int .i64 (t.kids.length : Int)), (22, .int .i64 (i : Nat))]) (fun i us M1 F1 bv w' => i ≤ t.kids.length ∧ OwnSl 25 B M1 w' kv us ∧ OTs 25 B w' us (upTo (loosK t.kids (b.drop 1)) t.kids i) F1 ∧ (∀ c, F1 c → M1 c) ∧ (∀ c, F1 c → F c ∨ w.heap.size ≤ c) ∧ Kept w w' (Out (Rw.Add F bl) w) ∧ Stp B M M1 w w' ∧ Low M1 w' ∧ B ≤ w'.heap.size ∧ MB B M1 w' bl 87 [bv] ∧ Sl M1 w' bv (b.drop (1 + pszs (t.kids.take i))) ∧ MB B M1 w' b4 25 [.int .u8 0, .string ⟨#[]⟩, .int .i64 0, .slice none 0 0] ∧ At M1 w' b3 0 [.int .u8 t.op, .string t.name, .int .i64 t.n, kv] ∧ (∀ x y, (kv : Value).ownBlock = some x → F1 y → x ≠ y) ∧ (∀ x y, (kv : Value).ownBlock = some x → (Out (Rw.Add F bl) w) y → x ≠ y) ∧ (∀ x, (kv : Value).ownBlock = some x → x ≠ bl) ∧ (∀ x, F1 x → x ≠ bl) ∧ (∀ x, (Out (Rw.Add F bl) w) x → x ≠ bl) ∧ (∀ x, (kv : Value).ownBlock = some x → x ≠ b4) ∧ (∀ x, F1 x → x ≠ b4) ∧ (∀ x, (Out (Rw.Add F bl) w) x → x ≠ b4)) (fun i us M1 F1 bv => t.kids.length - i) (0) (us) ((Rw.Add M b4)) (H) (bvw3) (s6 rfl rfl rfl rfl (get_num rfl (by omega)) rfl) ?_ ?_
  · refine ⟨Nat.zero_le _, ?_⟩
    rw [upTo_zero]
    exact ⟨hr, hO, hF1, hFn, hfr, hT, hlow, hB, hl, (by simpa [pszs] using hb), h4, h3, dd_hr_hO, dd_hr_hfr, d_hr_hl, d_hO_hl, d_hfr_hl, d_hr_h4, d_hO_h4, d_hfr_h4⟩
  clear hF1 hFn hfr hT dd_hr_hO dd_hr_hfr d_hr_hl d_hO_hl d_hfr_hl d_hr_h4 d_hO_h4 d_hfr_h4 hul
  rintro i us M1 F1 bv w9 ⟨hi, hr, hO, hF1, hFn, hfr, hT, hlow, hB, hl, hb, h4, h3, dd_hr_hO, dd_hr_hfr, d_hr_hl, d_hO_hl, d_hfr_hl, d_hr_h4, d_hO_h4, d_hfr_h4⟩
  have hul := hO.len
  rw [upTo_len htl] at hul
  refine q0 (l_p 1 tbOk rfl (q1 (c_seq ?_)))
  refine c_ifP _ rfl (fun c3 => ?_) (fun c3 => ?_)
  · refine c_skip (x_seq (c_seq (c_blk (q0 (l_p 1 tbOk rfl ?_)))))
    have hik : i < t.kids.length := by omega
    obtain ⟨⟨uv⟩, G, hui, hx, hGF, hOh⟩ := hO.take (upTo_get htl hik)
    refine l_cons (o_ixO tbOk hr hui rfl rfl rfl rfl rfl rfl rfl rfl rfl ?_)
    intro ebx eux hobx hRx hatx
    obtain ⟨e0, _⟩ := hRx
    replace e0 : eux = uv := e0
    subst e0
    obtain ⟨kvx, usx, Hx, rfl, opx, nmx, n64x, hknx, hrx, hOx, hHx⟩ := oty_open hx
    replace hatx : OAt _ _ _ [.int .u8 t.kids[i].op, .string t.kids[i].name, .int .i64 t.kids[i].n, kvx] := hatx
    refine l_cons (o_lds tbOk (fun j v hv => hatx.cell j v hv) rfl rfl rfl rfl rfl rfl ?_)
    refine l_cons (o_new tbOk rfl rfl rfl ?_)
    intro b6 w10 qb6 ew10 hb6
    have nb6 := nM_of hlow qb6
    refine l_p 1 tbOk rfl ?_
    refine l_cons (o_st tbOk hb6 rfl rfl rfl rfl hx.one rfl rfl ?_)
    intro w11 h6 uw11 bew11
    have ew11 : Ext w9 w11 := ew10.trans (bew11 _ (Nat.le_of_eq qb6.symm))
    replace hT := hT.then (Stp.ext ew11 hlow hB)
    replace hr := hr.ext hlow hB ew11
    replace hfr := hfr.ext hlow hB ew11
    replace hl := hl.ext hlow hB ew11
    replace h4 := h4.ext hlow hB ew11
    replace hOh := hOh.ext hlow hB ew11
    replace hx := hx.ext hlow hB ew11
    replace hb := hb.ext ew11
    replace h3 := h3.ext ew11
    replace hlow := hlow.ext ew11
    replace hB := Nat.le_trans hB ew11.size
    replace h6 : Box w11 b6 25 [.int .u8 t.kids[i].op, .string t.kids[i].name, .int .i64 t.kids[i].n, kvx] := h6
    replace h6 := h6.at nb6
    refine q1 ?_
    refine a_beg (Sof B M1) rfl ?_
    intro w12 ew12
    replace hT := hT.then (Stp.ext ew12 hlow hB)
    replace hr := hr.ext hlow hB ew12
    replace hfr := hfr.ext hlow hB ew12
    replace hl := hl.ext hlow hB ew12
    replace h4 := h4.ext hlow hB ew12
    replace hOh := hOh.ext hlow hB ew12
    replace hx := hx.ext hlow hB ew12
    replace hb := hb.ext ew12
    replace h3 := h3.ext ew12
    replace h6 := h6.ext ew12
    replace hlow := hlow.ext ew12
    replace hB := Nat.le_trans hB ew12.size
    have hS : Stp B M1 M1 w12 w12 := Stp.refl hlow
    have D_hl := hl.box
    have D_hb := hb
    have D_h4 := h4.box
    have D_h3 := h3
    have D_h6 := h6
    refine a_p 0 tbOk rfl rfl rfl rfl (by kernel_rfl) (fun _ _ _ h => h) ⟨_, hS⟩ ?_
    refine a_ld 1 tbOk (fun _ hs => (D_h3.so hs).cell 3 _ rfl) rfl rfl rfl rfl rfl rfl (by kernel_rfl) (fun _ _ _ h => h) ⟨_, hS⟩ ?_
    refine a_p 2 tbOk rfl rfl rfl rfl (by kernel_rfl) (fun _ _ _ h => h) ⟨_, hS⟩ ?_
    refine a_p 3 tbOk rfl rfl rfl rfl (by kernel_rfl) (fun _ _ _ h => h) ⟨_, hS⟩ ?_
    refine a_lds 4 tbOk (fun _ hs j v hv => (D_h6.so hs).cell j v hv) rfl rfl rfl rfl rfl rfl rfl (by kernel_rfl) (fun _ _ _ h => h) ⟨_, hS⟩ ?_
    have l_h4 := h4.lt
    have l_hl := hl.lt
    have hsz0 := hT.upd.1
    have lH := hOh.lt
    have lr := hr.lt
    refine a_one 5 rfl (by kernel_rfl) (o_call fo85 rfl rfl rfl (ih _ (List.getElem_mem hik) (b.drop (1 + pszs (t.kids.take i))) _ _ B _ bv G bl hx (fun c hc => hF1 c (hGF c hc)) hl (fun g => d_hO_hl _ (hGF _ g) rfl) hb hlow hB (by have := psz_get hik; omega)) ?_)
    rintro vq w13 ⟨Mw13, Fw13, bvw13, hq, hq2, hlw13, hbw13, sw13, kw13⟩
    have frw13 : ∀ x, x < w12.heap.size → ¬ (G x ∨ x = bl) → w13.heap[x]? = w12.heap[x]? := fun x hx hg => kw13.blk x ⟨hx, hg⟩
    replace hT := hT.then sw13
    replace hS := hS.then sw13
    replace hr := hr.stp sw13 (fun x hx => frw13 x (hr.lt x hx).2 (fun g => g.elim (fun g => dd_hr_hO x x hx (hGF x g) rfl) (d_hr_hl x hx)))
    replace hfr := hfr.stp sw13 (fun x hx => frw13 x (hfr.lt x hx).2 (fun g => g.elim (fun g => (hFn x (hGF x g)).elim (fun h => hx.2 (.inl h)) (fun h => by have := hx.1; have := hfr.size; omega)) (fun e => hx.2 (.inr e))))
    replace h4 := h4.stp sw13 (frw13 b4 h4.lt (fun g => g.elim (fun g => d_hO_h4 _ (hGF _ g) rfl) (ne_hl_h4.symm)))
    replace hOh := hOh.stp sw13 (fun c hc hn => frw13 c (hOh.lt c hc).2 (fun g => g.elim hn (d_hO_hl c hc)))
    replace h3 := h3.stp sw13
    replace h6 := h6.stp sw13
    replace hF1 := fun b h => sw13.sub b (hF1 b h)
    replace hlow := sw13.low
    replace hB := Nat.le_trans hB sw13.upd.1
    refine ⟨⟨_, hS⟩, ?_⟩
    replace hl := hlw13
    replace hb := hbw13
    have hO := hOh.put hq (fun c hc => (hq2 c hc).2.elim .inl (fun h => .inr (fun hf => by have := (lH c hf).2; omega)))
    replace hF1 : ∀ c, F1 c ∨ Fw13 c → Mw13 c := fun c h => h.elim (hF1 c) (fun h => (hq2 c h).1)
    replace dd_hr_hO : ∀ x y, kv.ownBlock = some x → (F1 y ∨ Fw13 y) → x ≠ y := fun x y hx hy => hy.elim (dd_hr_hO x y hx) (fun h => (hq2 y h).2.elim (fun g => dd_hr_hO x y hx (hGF y g)) (fun h => by have := (lr x hx).2; omega))
    replace d_hO_h4 : ∀ x, (F1 x ∨ Fw13 x) → x ≠ b4 := fun x hx => hx.elim (d_hO_h4 x) (fun h => (hq2 x h).2.elim (fun g => d_hO_h4 x (hGF x g)) (fun h => by have := l_h4; omega))
    replace d_hO_hl : ∀ x, (F1 x ∨ Fw13 x) → x ≠ bl := fun x hx => hx.elim (d_hO_hl x) (fun h => (hq2 x h).2.elim (fun g => d_hO_hl x (hGF x g)) (fun h => by have := l_hl; omega))
    replace hFn : ∀ c, (F1 c ∨ Fw13 c) → F c ∨ w.heap.size ≤ c := fun c hc => hc.elim (hFn c) (fun h => (hq2 c h).2.elim (fun g => hFn c (hGF c g)) (fun h => .inr (by have := hsz0; omega)))
    refine a_ixO 6 tbOk hr hui rfl rfl rfl rfl rfl rfl rfl rfl rfl rfl (by kernel_rfl) (fun _ _ _ _ h => h) ⟨_, hS⟩ ?_
    intro ebz euz hobz hRz hatz
    refine a_one 7 rfl (by kernel_rfl) (o_stO tbOk hr hobz (by omega) hq.vn hlow rfl rfl rfl rfl rfl rfl ?_)
    intro w14 hw14 sw14 frw14
    replace hT := hT.then sw14
    replace hS := hS.then sw14
    replace hfr := hfr.stp sw14 (fun x hx => frw14 x (hfr.lt x hx).2 (fun e => dd_hr_hfr _ x hobz hx e.symm))
    replace hl := hl.stp sw14 (frw14 bl hl.lt (fun e => d_hr_hl _ hobz e.symm))
    replace h4 := h4.stp sw14 (frw14 b4 h4.lt (fun e => d_hr_h4 _ hobz e.symm))
    replace hO := hO.stp sw14 (fun x hx => frw14 x (hO.lt x hx).2 (fun e => dd_hr_hO _ x hobz hx e.symm))
    replace hb := hb.stp sw14
    replace h3 := h3.stp sw14
    replace h6 := h6.stp sw14
    replace hF1 := fun b h => sw14.sub b (hF1 b h)
    replace hlow := sw14.low
    replace hB := Nat.le_trans hB sw14.upd.1
    refine ⟨⟨_, hS⟩, ?_⟩
    replace hr := hw14
    clear hw14
    refine a_end (by kernel_rfl) ?_
    refine x_blk (x_seq (c_reg ?_))
    refine l_cons (o_ar rfl rfl rfl (IntWalk.i64_in _ (by omega)) rfl rfl ?_)
    refine l_p 1 tbOk rfl (l_nil ?_)
    exact x_round5 (i + 1) (us.set i ⟨vq⟩) (Mw13) ((fun c => F1 c ∨ Fw13 c)) (bvw13) (s6 rfl rfl rfl rfl rfl rfl) ⟨by omega, hr, by rw [← upTo_set htl hik, loosK_at hik, List.drop_drop]; exact hO, hF1, hFn, hfr, hT, hlow, hB, hl, by rw [pszs_take hik, ← Nat.add_assoc, ← List.drop_drop]; exact hb, h4, h3, dd_hr_hO, dd_hr_hfr, d_hr_hl, d_hO_hl, d_hfr_hl, d_hr_h4, d_hO_h4, d_hfr_h4⟩ (by omega)
  refine c_exit (x_seqE (x_seqE (x_blkE (x_seq (q0 ?_)))))
  refine l_cons (o_lds tbOk (fun j v hv => h3.cell j v hv) rfl rfl rfl rfl rfl rfl ?_)
  refine l_cons (o_st tbOk h4.box rfl rfl rfl rfl (own_ones hr) rfl rfl ?_)
  intro w15 hw15 qw15 bew15
  have uw15 : UpdB _ _ _ := ⟨qw15, bew15⟩
  have sw15 := uw15.stp h4.inM hlow h4.ge
  have frw15 := qw15.2
  replace hT := hT.then sw15
  replace hr := hr.stp sw15 (fun x hx => frw15 x (hr.lt x hx).2 (d_hr_h4 x hx))
  replace hO := hO.stp sw15 (fun x hx => frw15 x (hO.lt x hx).2 (d_hO_h4 x hx))
  replace hfr := hfr.stp sw15 (fun x hx => frw15 x (hfr.lt x hx).2 (d_hfr_h4 x hx))
  replace hl := hl.stp sw15 (frw15 bl hl.lt ne_hl_h4)
  replace hb := hb.stp sw15
  replace h3 := h3.stp sw15
  replace hF1 := fun b h => sw15.sub b (hF1 b h)
  replace hlow := sw15.low
  replace hB := Nat.le_trans hB sw15.upd.1
  replace h4 : MB B _ w15 b4 _ [.int .u8 t.op, .string t.name, .int .i64 t.n, kv] := ⟨hw15, h4.inM, h4.ge⟩
  refine q1 (c_ret ?_)
  refine x_ret1s tbOk (fun j v hv => h4.cell j v hv) rfl rfl rfl rfl rfl ?_
  obtain rfl : i = t.kids.length := by omega
  rw [upTo_all htl (Nat.le_refl _)] at hO
  refine ⟨_, fun c => kv.ownBlock = some c ∨ F1 c, _, ?_, fun c hc => hc.elim (fun h => ⟨hr.inM c h, .inl (hkF c h)⟩) (fun h => ⟨hF1 c h, hFn c h⟩), hl, by rw [psz_eq, Nat.add_comm, ← List.take_of_length_le (Nat.le_refl t.kids.length)]; exact hb, hT, hfr⟩
  rw [loos_even hod]
  exact oty_mk op nm n64 (by rw [htl]; exact hkn) (fun c hc => hc.elim (hr.lt c) (hO.lt c)) (hr.keepV (fun b hb => .inl hb) (fun _ _ _ _ _ => rfl)) hO (fun c hc => ⟨.inr hc, fun e => dd_hr_hO c c e hc rfl⟩)

/-- Loosen: a type loosened by bytes. -/
theorem Loosen_own (t : Ty) (b : List UInt8) (M : Nat → Prop) (w : World) (v u : Value) (ht : Rep.R M w v t) (hb : Sl M w u b) (hlow0 : Low M w) (hz : psz t ≤ 2000000) :
    Calls Try.prog 54 #[v, u] w (Ret fun r w' => OTy 25 w.heap.size w' (LoosF t b) r (Plus NoM w w') ∧ Ext w w') := by
  have hlow := hlow0
  have hB : w.heap.size ≤ w.heap.size := Nat.le_refl _
  have hE : Below w.heap.size w w := Below.refl _ _
  have hsub : ∀ b, M b → M b := fun _ h => h
  obtain ⟨kv, rfl, op, nm, n64, hk⟩ := ty_open ht
  have hpc := psz_canon _ t (Nat.le_refl _)
  obtain ⟨ab, cb, rfl, _⟩ := id hb
  refine c_enter (n := 20) Try.func54 rfl rfl rfl ?_
  refine q0 ?_
  refine l_cons (o_box rfl rfl rfl ?_)
  intro b2 w1 hb_b2 ew1 h2
  replace h2 : Box _ b2 25 [.int .u8 t.op, .string t.name, .int .i64 t.n, kv] := h2
  replace h2 := h2.at (nM_of hlow hb_b2)
  replace hE := hE.trans (Below.mono ew1 hB)
  replace ht := Rep.ext ht ew1
  replace hk := hk.ext ew1
  replace hb := hb.ext ew1
  replace hlow := hlow.ext ew1
  replace hB := Nat.le_trans hB ew1.size
  refine l_cons (o_new tbOk rfl rfl rfl ?_)
  intro b4 w2 qb4 ew2 hb4
  have sw2 := Stp.add ew2 hlow hB (Nat.le_of_eq qb4.symm) hb4.lt
  have h4 : MB w.heap.size (Rw.Add M b4) w2 b4 25 [.int .u8 0, .string ⟨#[]⟩, .int .i64 0, .slice none 0 0] := MB.mk' hb4 qb4 hB
  replace hE := hE.trans sw2.below
  replace ht := Rep.stp ht sw2
  replace hk := hk.stp sw2
  replace hb := hb.stp sw2
  replace h2 := h2.stp sw2
  replace hsub := fun b h => sw2.sub b (hsub b h)
  replace hlow := sw2.low
  replace hB := Nat.le_trans hB sw2.upd.1
  refine q1 (c_seq (q0 ?_))
  refine l_cons (o_lds tbOk (fun j v hv => h2.cell j v hv) rfl rfl rfl rfl rfl rfl ?_)
  refine l_cons (o_call fo16 rfl rfl rfl (kRight_specB t _ _ _ ht hlow) ?_)
  rintro _ w3 ⟨rfl, ew3⟩
  replace h4 := h4.ext hlow hB ew3
  replace hE := hE.trans (Below.mono ew3 hB)
  replace ht := Rep.ext ht ew3
  replace hk := hk.ext ew3
  replace hb := hb.ext ew3
  replace h2 := h2.ext ew3
  replace hlow := hlow.ext ew3
  replace hB := Nat.le_trans hB ew3.size
  refine l_p 2 tbOk rfl ?_
  refine l_splitB 9 _ rfl (fun c1 => ?_) (fun c1 => ?_)
  · refine l_cons (o_lds tbOk (fun j v hv => h2.cell j v hv) rfl rfl rfl rfl rfl rfl ?_)
    refine l_cons (o_call fo18 rfl rfl rfl (kRow_specB t _ _ _ ht hlow) ?_)
    rintro _ w4 ⟨rfl, ew4⟩
    replace h4 := h4.ext hlow hB ew4
    replace hE := hE.trans (Below.mono ew4 hB)
    replace ht := Rep.ext ht ew4
    replace hk := hk.ext ew4
    replace hb := hb.ext ew4
    replace h2 := h2.ext ew4
    replace hlow := hlow.ext ew4
    replace hB := Nat.le_trans hB ew4.size
    refine l_p 2 tbOk rfl (q1 ?_)
    refine c_ifB _ rfl (fun c2 => ?_) (fun c2 => ?_)
    · refine q0 ?_
      refine l_cons (o_build (cells := [.int .u8 0, .string ⟨#[]⟩, .int .i64 0, .slice none 0 0]) (css := []) bd25 rfl rfl rfl rfl rfl ?_)
      refine l_cons (o_st tbOk h4.box rfl rfl rfl rfl (by intro u hu; simp [Value.cells] at hu; rcases hu with rfl | rfl | rfl | rfl <;> rfl) rfl rfl ?_)
      intro w5 hw5 qw5 bew5
      have uw5 : UpdB _ _ _ := ⟨qw5, bew5⟩
      have sw5 := uw5.stp h4.inM hlow h4.ge
      have frw5 := qw5.2
      replace hE := hE.trans sw5.below
      replace ht := Rep.stp ht sw5
      replace hk := hk.stp sw5
      replace hb := hb.stp sw5
      replace h2 := h2.stp sw5
      replace hsub := fun b h => sw5.sub b (hsub b h)
      replace hlow := sw5.low
      replace hB := Nat.le_trans hB sw5.upd.1
      replace h4 : MB w.heap.size _ w5 b4 _ [.int .u8 0, .string ⟨#[]⟩, .int .i64 0, .slice none 0 0] := ⟨hw5, h4.inM, h4.ge⟩
      refine q1 (c_ret (x_seqR ?_))
      have hro : (rightB t || rowB t) = false := by simp [c1, c2]
      refine x_ret1s tbOk (fun j v hv => h4.cell j v hv) rfl rfl rfl rfl rfl ?_
      unfold LoosF
      rw [hro]
      exact ⟨oty_leaf (by decide) (by decide) ⟨by decide, by decide⟩, hE⟩
    refine c_skip (x_seq (q0 (l_p 1 tbOk rfl ?_)))
    have hro : (rightB t || rowB t) = true := by simp [c1, c2]
    refine l_cons (o_build (cells := [.slice ab b.length cb]) bd87 rfl rfl rfl rfl rfl ?_)
    refine l_cons (o_new tbOk rfl rfl rfl ?_)
    intro bl w6 qbl ew6 hbl
    have ne_h4_hl : b4 ≠ bl := by have := h4.lt; omega
    have sw6 := Stp.add ew6 hlow hB (Nat.le_of_eq qbl.symm) hbl.lt
    have hl : MB w.heap.size (Rw.Add (Rw.Add M b4) bl) w6 bl 87 [.slice none 0 0] := MB.mk' hbl qbl hB
    replace h4 := h4.stp sw6 (ew6.block b4 h4.lt)
    replace hE := hE.trans sw6.below
    replace ht := Rep.stp ht sw6
    replace hk := hk.stp sw6
    replace hb := hb.stp sw6
    replace h2 := h2.stp sw6
    replace hsub := fun b h => sw6.sub b (hsub b h)
    replace hlow := sw6.low
    replace hB := Nat.le_trans hB sw6.upd.1
    refine l_cons (o_st tbOk hl.box rfl rfl rfl rfl (by intro u hu; simp [Value.cells] at hu; subst hu; rfl) rfl rfl ?_)
    intro w7 hw7 qw7 bew7
    have uw7 : UpdB _ _ _ := ⟨qw7, bew7⟩
    have sw7 := uw7.stp hl.inM hlow hl.ge
    have frw7 := qw7.2
    replace h4 := h4.stp sw7 (frw7 b4 h4.lt ne_h4_hl)
    replace hE := hE.trans sw7.below
    replace ht := Rep.stp ht sw7
    replace hk := hk.stp sw7
    replace hb := hb.stp sw7
    replace h2 := h2.stp sw7
    replace hsub := fun b h => sw7.sub b (hsub b h)
    replace hlow := sw7.low
    replace hB := Nat.le_trans hB sw7.upd.1
    replace hl : MB w.heap.size _ w7 bl _ [.slice ab b.length cb] := ⟨hw7, hl.inM, hl.ge⟩
    refine q1 (q0 ?_)
    refine l_cons (o_lds tbOk (fun j v hv => h2.cell j v hv) rfl rfl rfl rfl rfl rfl ?_)
    have l_h4 := h4.lt
    have l_hl := hl.lt
    refine l_cons (o_call fo43 rfl rfl rfl (Canon_own t _ _ _ ht hlow hz) ?_)
    rintro vc w8 ⟨hc, ew8⟩
    replace hc := hc.ge hB
    have hGl : ∀ c, Plus NoM w7 w8 c → w7.heap.size ≤ c ∧ c < w8.heap.size := fun c h => h.elim (fun h => h.elim) id
    generalize Plus NoM w7 w8 = G at hc hGl
    have sw8 := (Stp.ext ew8 hlow hB).more hGl
    replace h4 := h4.stp sw8 (ew8.block b4 h4.lt)
    replace hl := hl.stp sw8 (ew8.block bl hl.lt)
    replace hE := hE.trans sw8.below
    replace ht := Rep.stp ht sw8
    replace hk := hk.stp sw8
    replace hb := hb.stp sw8
    replace h2 := h2.stp sw8
    replace hsub := fun b h => sw8.sub b (hsub b h)
    replace hlow := sw8.low
    replace hB := Nat.le_trans hB sw8.upd.1
    have d_hc_h4 : ∀ x, G x → x ≠ b4 := fun x hx => by have := (hGl x hx).1; omega
    have d_hc_hl : ∀ x, G x → x ≠ bl := fun x hx => by have := (hGl x hx).1; omega
    rw [hro] at hc
    replace hc : OTy _ _ _ (canonF t) _ _ := hc
    have l2_h4 := h4.lt
    refine l_cons (o_call fo85 rfl rfl rfl (loosen_own (canonF t) b _ _ w.heap.size _ _ G bl hc (fun c hc => .inr hc) hl (fun g => d_hc_hl _ g rfl) hb hlow hB (by omega)) ?_)
    rintro vq w9 ⟨Mw9, Fw9, bvw9, hq, hq2, hlw9, hbw9, sw9, kw9⟩
    replace h4 := h4.stp sw9 (kw9.blk b4 ⟨h4.lt, fun g => g.elim (fun g => d_hc_h4 _ g rfl) (ne_h4_hl)⟩)
    replace hE := hE.trans sw9.below
    replace ht := Rep.stp ht sw9
    replace hk := hk.stp sw9
    replace h2 := h2.stp sw9
    replace hsub := fun b h => sw9.sub b (hsub b h)
    replace hlow := sw9.low
    replace hB := Nat.le_trans hB sw9.upd.1
    have d_hq_h4 : ∀ x, Fw9 x → x ≠ b4 := fun x hx => (hq2 x hx).2.elim (d_hc_h4 x) (fun h => by omega)
    obtain ⟨kvq, usq, Hq, rfl, opq, nmq, n64q, hknq, hrq, hOq, hHq⟩ := oty_open hq
    refine l_cons (o_st tbOk h4.box rfl rfl rfl rfl hq.one rfl rfl ?_)
    intro w10 hw10 qw10 bew10
    have uw10 : UpdB _ _ _ := ⟨qw10, bew10⟩
    have sw10 := uw10.stp h4.inM hlow h4.ge
    have frw10 := qw10.2
    replace hq := hq.stp sw10 (fun x hx => frw10 x (hq.lt x hx).2 (d_hq_h4 x hx))
    replace hE := hE.trans sw10.below
    replace ht := Rep.stp ht sw10
    replace hk := hk.stp sw10
    replace h2 := h2.stp sw10
    replace hsub := fun b h => sw10.sub b (hsub b h)
    replace hlow := sw10.low
    replace hB := Nat.le_trans hB sw10.upd.1
    replace h4 : MB w.heap.size _ w10 b4 _ [.int .u8 (loosF (canonF t) b).op, .string (loosF (canonF t) b).name, .int .i64 (loosF (canonF t) b).n, kvq] := ⟨hw10, h4.inM, h4.ge⟩
    refine q1 (c_ret ?_)
    refine x_ret1s tbOk (fun j v hv => h4.cell j v hv) rfl rfl rfl rfl rfl ?_
    unfold LoosF
    rw [hro]
    exact ⟨hq.mono (fun c h => .inr (hq.lt c h)) (fun c h => h.elim (fun h => h.elim) id), hE⟩
  refine l_p 4 tbOk rfl (q1 (c_ifF rfl (c_skip (x_seq (q0 (l_p 1 tbOk rfl ?_))))))
  have hro : (rightB t || rowB t) = true := by simp [c1]
  refine l_cons (o_build (cells := [.slice ab b.length cb]) bd87 rfl rfl rfl rfl rfl ?_)
  refine l_cons (o_new tbOk rfl rfl rfl ?_)
  intro bl w11 qbl ew11 hbl
  have ne_h4_hl : b4 ≠ bl := by have := h4.lt; omega
  have sw11 := Stp.add ew11 hlow hB (Nat.le_of_eq qbl.symm) hbl.lt
  have hl : MB w.heap.size (Rw.Add (Rw.Add M b4) bl) w11 bl 87 [.slice none 0 0] := MB.mk' hbl qbl hB
  replace h4 := h4.stp sw11 (ew11.block b4 h4.lt)
  replace hE := hE.trans sw11.below
  replace ht := Rep.stp ht sw11
  replace hk := hk.stp sw11
  replace hb := hb.stp sw11
  replace h2 := h2.stp sw11
  replace hsub := fun b h => sw11.sub b (hsub b h)
  replace hlow := sw11.low
  replace hB := Nat.le_trans hB sw11.upd.1
  refine l_cons (o_st tbOk hl.box rfl rfl rfl rfl (by intro u hu; simp [Value.cells] at hu; subst hu; rfl) rfl rfl ?_)
  intro w12 hw12 qw12 bew12
  have uw12 : UpdB _ _ _ := ⟨qw12, bew12⟩
  have sw12 := uw12.stp hl.inM hlow hl.ge
  have frw12 := qw12.2
  replace h4 := h4.stp sw12 (frw12 b4 h4.lt ne_h4_hl)
  replace hE := hE.trans sw12.below
  replace ht := Rep.stp ht sw12
  replace hk := hk.stp sw12
  replace hb := hb.stp sw12
  replace h2 := h2.stp sw12
  replace hsub := fun b h => sw12.sub b (hsub b h)
  replace hlow := sw12.low
  replace hB := Nat.le_trans hB sw12.upd.1
  replace hl : MB w.heap.size _ w12 bl _ [.slice ab b.length cb] := ⟨hw12, hl.inM, hl.ge⟩
  refine q1 (q0 ?_)
  refine l_cons (o_lds tbOk (fun j v hv => h2.cell j v hv) rfl rfl rfl rfl rfl rfl ?_)
  have l_h4 := h4.lt
  have l_hl := hl.lt
  refine l_cons (o_call fo43 rfl rfl rfl (Canon_own t _ _ _ ht hlow hz) ?_)
  rintro vc w13 ⟨hc, ew13⟩
  replace hc := hc.ge hB
  have hGl : ∀ c, Plus NoM w12 w13 c → w12.heap.size ≤ c ∧ c < w13.heap.size := fun c h => h.elim (fun h => h.elim) id
  generalize Plus NoM w12 w13 = G at hc hGl
  have sw13 := (Stp.ext ew13 hlow hB).more hGl
  replace h4 := h4.stp sw13 (ew13.block b4 h4.lt)
  replace hl := hl.stp sw13 (ew13.block bl hl.lt)
  replace hE := hE.trans sw13.below
  replace ht := Rep.stp ht sw13
  replace hk := hk.stp sw13
  replace hb := hb.stp sw13
  replace h2 := h2.stp sw13
  replace hsub := fun b h => sw13.sub b (hsub b h)
  replace hlow := sw13.low
  replace hB := Nat.le_trans hB sw13.upd.1
  have d_hc_h4 : ∀ x, G x → x ≠ b4 := fun x hx => by have := (hGl x hx).1; omega
  have d_hc_hl : ∀ x, G x → x ≠ bl := fun x hx => by have := (hGl x hx).1; omega
  rw [hro] at hc
  replace hc : OTy _ _ _ (canonF t) _ _ := hc
  have l2_h4 := h4.lt
  refine l_cons (o_call fo85 rfl rfl rfl (loosen_own (canonF t) b _ _ w.heap.size _ _ G bl hc (fun c hc => .inr hc) hl (fun g => d_hc_hl _ g rfl) hb hlow hB (by omega)) ?_)
  rintro vq w14 ⟨Mw14, Fw14, bvw14, hq, hq2, hlw14, hbw14, sw14, kw14⟩
  replace h4 := h4.stp sw14 (kw14.blk b4 ⟨h4.lt, fun g => g.elim (fun g => d_hc_h4 _ g rfl) (ne_h4_hl)⟩)
  replace hE := hE.trans sw14.below
  replace ht := Rep.stp ht sw14
  replace hk := hk.stp sw14
  replace h2 := h2.stp sw14
  replace hsub := fun b h => sw14.sub b (hsub b h)
  replace hlow := sw14.low
  replace hB := Nat.le_trans hB sw14.upd.1
  have d_hq_h4 : ∀ x, Fw14 x → x ≠ b4 := fun x hx => (hq2 x hx).2.elim (d_hc_h4 x) (fun h => by omega)
  obtain ⟨kvq, usq, Hq, rfl, opq, nmq, n64q, hknq, hrq, hOq, hHq⟩ := oty_open hq
  refine l_cons (o_st tbOk h4.box rfl rfl rfl rfl hq.one rfl rfl ?_)
  intro w15 hw15 qw15 bew15
  have uw15 : UpdB _ _ _ := ⟨qw15, bew15⟩
  have sw15 := uw15.stp h4.inM hlow h4.ge
  have frw15 := qw15.2
  replace hq := hq.stp sw15 (fun x hx => frw15 x (hq.lt x hx).2 (d_hq_h4 x hx))
  replace hE := hE.trans sw15.below
  replace ht := Rep.stp ht sw15
  replace hk := hk.stp sw15
  replace h2 := h2.stp sw15
  replace hsub := fun b h => sw15.sub b (hsub b h)
  replace hlow := sw15.low
  replace hB := Nat.le_trans hB sw15.upd.1
  replace h4 : MB w.heap.size _ w15 b4 _ [.int .u8 (loosF (canonF t) b).op, .string (loosF (canonF t) b).name, .int .i64 (loosF (canonF t) b).n, kvq] := ⟨hw15, h4.inM, h4.ge⟩
  refine q1 (c_ret ?_)
  refine x_ret1s tbOk (fun j v hv => h4.cell j v hv) rfl rfl rfl rfl rfl ?_
  unfold LoosF
  rw [hro]
  exact ⟨hq.mono (fun c h => .inr (hq.lt c h)) (fun c h => h.elim (fun h => h.elim) id), hE⟩

/-- The document's Loosened. -/
theorem refLoos_spec : ∀ (t : Ty) (b : List UInt8) (M : Nat → Prop) (w : World) (v u : Value), Rep.R M w v t → Sl M w u b → Low M w → psz t ≤ 2000000 → Calls Try.prog 55 #[v, u] w (Ret fun r w' => (∃ x, r = .tuple #[x, .int .i64 (psz t : Nat)] ∧ Rep.R M w' x (loosF t b)) ∧ Ext w w') := by
  refine Ty.ind fun t ih => ?_
  intro b M w v u ht hb hlow0 hsz
  have hlow := hlow0
  have hB : w.heap.size ≤ w.heap.size := Nat.le_refl _
  have hE : Below w.heap.size w w := Below.refl _ _
  have hsub : ∀ b, M b → M b := fun _ h => h
  obtain ⟨kv, rfl, op, nm, n64, hk⟩ := ty_open ht
  have hps := psz_eq t
  have hkl := len_psz t.kids
  have hblt := hb.lt
  refine c_enter (n := 72) Try.func55 rfl rfl rfl ?_
  refine q0 ?_
  refine l_cons (o_box rfl rfl rfl ?_)
  intro b2 w1 hb_b2 ew1 h2
  replace h2 : Box _ b2 25 [.int .u8 t.op, .string t.name, .int .i64 t.n, kv] := h2
  replace h2 := h2.at (nM_of hlow hb_b2)
  replace hE := hE.trans (Below.mono ew1 hB)
  replace ht := Rep.ext ht ew1
  replace hk := hk.ext ew1
  replace hb := hb.ext ew1
  replace hlow := hlow.ext ew1
  replace hB := Nat.le_trans hB ew1.size
  refine l_cons (o_new tbOk rfl rfl rfl ?_)
  intro b4 w2 qb4 ew2 hb4
  have sw2 := Stp.add ew2 hlow hB (Nat.le_of_eq qb4.symm) hb4.lt
  have h4 : MB w.heap.size (Rw.Add M b4) w2 b4 25 [.int .u8 0, .string ⟨#[]⟩, .int .i64 0, .slice none 0 0] := MB.mk' hb4 qb4 hB
  replace hE := hE.trans sw2.below
  replace ht := Rep.stp ht sw2
  replace hk := hk.stp sw2
  replace hb := hb.stp sw2
  replace h2 := h2.stp sw2
  replace hsub := fun b h => sw2.sub b (hsub b h)
  replace hlow := sw2.low
  replace hB := Nat.le_trans hB sw2.upd.1
  refine l_p 1 tbOk rfl (q1 (q0 ?_))
  refine l_cons (o_lds tbOk (fun j v hv => h2.cell j v hv) rfl rfl rfl rfl rfl rfl ?_)
  refine l_cons (o_call fo21 rfl rfl rfl (parts_spec t _ _ _ ht hlow hsz) ?_)
  rintro vhp w3 ⟨hp, ew3⟩
  replace h4 := h4.ext hlow hB ew3
  replace hE := hE.trans (Below.mono ew3 hB)
  replace ht := Rep.ext ht ew3
  replace hk := hk.ext ew3
  replace hb := hb.ext ew3
  replace h2 := h2.ext ew3
  replace hlow := hlow.ext ew3
  replace hB := Nat.le_trans hB ew3.size
  have hpl : (partsL t).length = psz t := rfl
  refine l_cons (o_len tbOk hp rfl rfl rfl rfl rfl ?_)
  refine l_p 1 tbOk rfl (q1 (c_seq (q0 (l_p 1 tbOk rfl ?_))))
  refine l_cons (o_len tbOk hb rfl rfl rfl rfl rfl ?_)
  refine l_p 2 tbOk rfl ?_
  refine l_splitP 18 _ rfl (fun hc0 => ?_) (fun hc0 => ?_)
  · have h0 : 0 < b.length := by omega
    refine l_p 1 tbOk rfl ?_
    refine l_cons (o_ixS tbOk hb (List.getElem?_eq_getElem h0) rfl rfl rfl rfl rfl rfl rfl rfl rfl ?_)
    intro eb eo eu hr hat
    replace hr : eu = .int .u8 (b[0]).toNat := hr
    subst hr
    refine l_cons (o_ld tbOk (hat.cell 0 _ rfl) rfl rfl rfl rfl rfl ?_)
    refine l_cons (o_odd rfl rfl rfl rfl ?_)
    refine l_p 2 tbOk rfl (q1 ?_)
    refine c_ifP _ rfl (fun hc1 => ?_) (fun hc1 => ?_)
    · have hod : oddH b = true := by rw [odd_head (List.getElem?_eq_getElem h0)]; exact decide_eq_true hc1
      refine c_seq (q0 (l_p 1 tbOk rfl ?_))
      refine l_cons (o_ld tbOk (h2.cell 0 _ rfl) rfl rfl rfl rfl rfl ?_)
      refine l_p 1 tbOk rfl (q1 ?_)
      refine c_ifP _ rfl (fun c2 => ?_) (fun c2 => ?_)
      · refine q0 ?_
        refine l_cons (o_build (cells := [.int .u8 9, .string ⟨#[]⟩, .int .i64 0, .slice none 0 0]) (css := [[.int .u8 9]]) bd25 rfl rfl rfl rfl rfl ?_)
        refine l_p 1 tbOk rfl ?_
        refine l_cons (o_st tbOk h4.box rfl rfl rfl rfl (by intro u hu; simp [Value.cells] at hu; rcases hu with rfl | rfl | rfl | rfl <;> rfl) rfl rfl ?_)
        intro w4 hw4 qw4 bew4
        have uw4 : UpdB _ _ _ := ⟨qw4, bew4⟩
        have sw4 := uw4.stp h4.inM hlow h4.ge
        have frw4 := qw4.2
        replace hE := hE.trans sw4.below
        replace ht := Rep.stp ht sw4
        replace hk := hk.stp sw4
        replace hb := hb.stp sw4
        replace h2 := h2.stp sw4
        replace hp := hp.stp sw4
        replace hsub := fun b h => sw4.sub b (hsub b h)
        replace hlow := sw4.low
        replace hB := Nat.le_trans hB sw4.upd.1
        replace h4 : MB w.heap.size _ w4 b4 _ [.int .u8 9, .string ⟨#[]⟩, .int .i64 0, .slice none 0 0] := ⟨hw4, h4.inM, h4.ge⟩
        refine l_p 1 tbOk rfl (q1 (c_ret (x_seqR (x_seqR ?_))))
        refine x_ret2st tbOk (fun j v hv => h4.cell j v hv) rfl rfl rfl rfl rfl rfl ?_
        refine ⟨⟨_, rfl, ?_⟩, hE⟩
        rw [loos_odd hod, leafF, if_pos (by omega)]
        exact ty_mk (M := M) (by decide) (by decide) ⟨by decide, by decide⟩ sl_nil
      refine c_skip (x_seq (q0 ?_))
      refine l_cons (o_build (cells := [.int .u8 3, .string ⟨#[]⟩, .int .i64 0, .slice none 0 0]) (css := [[.int .u8 3]]) bd25 rfl rfl rfl rfl rfl ?_)
      refine l_p 1 tbOk rfl ?_
      refine l_cons (o_st tbOk h4.box rfl rfl rfl rfl (by intro u hu; simp [Value.cells] at hu; rcases hu with rfl | rfl | rfl | rfl <;> rfl) rfl rfl ?_)
      intro w5 hw5 qw5 bew5
      have uw5 : UpdB _ _ _ := ⟨qw5, bew5⟩
      have sw5 := uw5.stp h4.inM hlow h4.ge
      have frw5 := qw5.2
      replace hE := hE.trans sw5.below
      replace ht := Rep.stp ht sw5
      replace hk := hk.stp sw5
      replace hb := hb.stp sw5
      replace h2 := h2.stp sw5
      replace hp := hp.stp sw5
      replace hsub := fun b h => sw5.sub b (hsub b h)
      replace hlow := sw5.low
      replace hB := Nat.le_trans hB sw5.upd.1
      replace h4 : MB w.heap.size _ w5 b4 _ [.int .u8 3, .string ⟨#[]⟩, .int .i64 0, .slice none 0 0] := ⟨hw5, h4.inM, h4.ge⟩
      refine l_p 1 tbOk rfl (q1 (c_ret (x_seqR ?_)))
      refine x_ret2st tbOk (fun j v hv => h4.cell j v hv) rfl rfl rfl rfl rfl rfl ?_
      refine ⟨⟨_, rfl, ?_⟩, hE⟩
      rw [loos_odd hod, leafF, if_neg (by omega)]
      exact ty_mk (M := M) (by decide) (by decide) ⟨by decide, by decide⟩ sl_nil
    have hod : oddH b = false := by rw [odd_head (List.getElem?_eq_getElem h0)]; exact decide_eq_false hc1
    refine c_skip (x_seq (q0 (l_p 1 tbOk rfl ?_)))
    refine l_cons (o_ld tbOk (h2.cell 0 _ rfl) rfl rfl rfl rfl rfl ?_)
    refine l_p 1 tbOk rfl ?_
    refine l_cons (o_ld tbOk (h2.cell 1 _ rfl) rfl rfl rfl rfl rfl ?_)
    refine l_p 1 tbOk rfl ?_
    refine l_cons (o_ld tbOk (h2.cell 2 _ rfl) rfl rfl rfl rfl rfl ?_)
    refine l_cons (o_build (cells := [.int .u8 t.op, .string t.name, .int .i64 t.n, .slice none 0 0]) (css := [[.int .u8 t.op], [.string t.name], [.int .i64 t.n]]) bd25 rfl rfl rfl rfl rfl ?_)
    refine l_cons (o_new tbOk rfl rfl rfl ?_)
    intro b7 w6 qb7 ew6 hb7
    have ne_h4_h7 : b4 ≠ b7 := by have := h4.lt; omega
    have sw6 := Stp.add ew6 hlow hB (Nat.le_of_eq qb7.symm) hb7.lt
    have h7 : MB w.heap.size (Rw.Add (Rw.Add M b4) b7) w6 b7 25 [.int .u8 0, .string ⟨#[]⟩, .int .i64 0, .slice none 0 0] := MB.mk' hb7 qb7 hB
    replace h4 := h4.stp sw6 (ew6.block b4 h4.lt)
    replace hE := hE.trans sw6.below
    replace ht := Rep.stp ht sw6
    replace hk := hk.stp sw6
    replace hb := hb.stp sw6
    replace h2 := h2.stp sw6
    replace hp := hp.stp sw6
    replace hsub := fun b h => sw6.sub b (hsub b h)
    replace hlow := sw6.low
    replace hB := Nat.le_trans hB sw6.upd.1
    refine l_cons (o_st tbOk h7.box rfl rfl rfl rfl (by intro u hu; simp [Value.cells] at hu; rcases hu with rfl | rfl | rfl | rfl <;> rfl) rfl rfl ?_)
    intro w7 hw7 qw7 bew7
    have uw7 : UpdB _ _ _ := ⟨qw7, bew7⟩
    have sw7 := uw7.stp h7.inM hlow h7.ge
    have frw7 := qw7.2
    replace h4 := h4.stp sw7 (frw7 b4 h4.lt ne_h4_h7)
    replace hE := hE.trans sw7.below
    replace ht := Rep.stp ht sw7
    replace hk := hk.stp sw7
    replace hb := hb.stp sw7
    replace h2 := h2.stp sw7
    replace hp := hp.stp sw7
    replace hsub := fun b h => sw7.sub b (hsub b h)
    replace hlow := sw7.low
    replace hB := Nat.le_trans hB sw7.upd.1
    replace h7 : MB w.heap.size _ w7 b7 _ [.int .u8 t.op, .string t.name, .int .i64 t.n, .slice none 0 0] := ⟨hw7, h7.inM, h7.ge⟩
    refine q1 (q0 (l_p 1 tbOk rfl (q1 (c_seq (q0 (l_p 1 tbOk rfl (q1 (c_blk ?_))))))))
    have d_ho_h4 : ∀ x, (.slice none 0 0 : Value).ownBlock = some x → x ≠ b4 := fun x hx => by simp [Value.ownBlock] at hx
    have d_ho_h7 : ∀ x, (.slice none 0 0 : Value).ownBlock = some x → x ≠ b7 := fun x hx => by simp [Value.ownBlock] at hx
    refine c_loop3 (X := Nat) (Y := Value) (Z := Nat → Prop) (fun i wv M1 => [(1, u), (6, .int .i64 ((psz t : Nat) : Int)), (8, .int .i64 ((1 + pszs (t.kids.take i) : Nat) : Int)), (2, .pointer (some ⟨b2, 0, none⟩)), (4, .pointer (some ⟨b4, 0, none⟩)), (7, .pointer (some ⟨b7, 0, none⟩)), (9, .int .i64 (i : Nat))]) (fun i wv M1 w' => i ≤ t.kids.length ∧ OwnSl 25 w.heap.size M1 w' wv ((loosK t.kids (b.drop 1)).take i) ∧ MB w.heap.size M1 w' b4 25 [.int .u8 0, .string ⟨#[]⟩, .int .i64 0, .slice none 0 0] ∧ MB w.heap.size M1 w' b7 25 [.int .u8 t.op, .string t.name, .int .i64 t.n, wv] ∧ At M1 w' b2 0 [.int .u8 t.op, .string t.name, .int .i64 t.n, kv] ∧ (∀ x, (wv : Value).ownBlock = some x → x ≠ b4) ∧ (∀ x, (wv : Value).ownBlock = some x → x ≠ b7) ∧ Sl M1 w' kv t.kids ∧ Sl M1 w' u b ∧ Low M1 w' ∧ (∀ b, M b → M1 b) ∧ Below w.heap.size w w' ∧ w.heap.size ≤ w'.heap.size) (fun i wv M1 => t.kids.length - i) (0) (.slice none 0 0) ((Rw.Add (Rw.Add M b4) b7)) (s7 rfl rfl (get_num rfl (by simp [pszs])) rfl rfl rfl rfl) ?_ ?_
    · exact ⟨Nat.zero_le _, own_nil, h4, h7, h2, d_ho_h4, d_ho_h7, hk, hb, hlow, hsub, hE, hB⟩
    rintro i wv M1 w8 ⟨hi, ho, h4, h7, h2, d_ho_h4, d_ho_h7, hk, hb, hlow, hsub, hE, hB⟩
    refine c_seq (q0 (l_p 2 tbOk rfl ?_))
    refine l_cons (o_ld tbOk (h2.cell 3 _ rfl) rfl rfl rfl rfl rfl ?_)
    refine l_cons (o_len tbOk hk rfl rfl rfl rfl rfl ?_)
    refine l_p 1 tbOk rfl (q1 ?_)
    refine c_ifP _ rfl (fun c3 => ?_) (fun c3 => ?_)
    · refine c_skip (x_seq (c_seq (c_blk (c_seq ?_))))
      refine a_beg Ext rfl ?_
      intro w9 ew9
      replace ho := ho.ext hlow hB ew9
      replace h4 := h4.ext hlow hB ew9
      replace h7 := h7.ext hlow hB ew9
      replace hE := hE.trans (Below.mono ew9 hB)
      replace h2 := h2.ext ew9
      replace hk := hk.ext ew9
      replace hb := hb.ext ew9
      replace hlow := hlow.ext ew9
      replace hB := Nat.le_trans hB ew9.size
      have hS : Ext w9 w9 := ext_refl _
      have D_h4 := h4.box
      have D_h7 := h7.box
      have D_h2 := h2
      have D_hk := hk
      have D_hb := hb
      refine a_p 0 tbOk rfl rfl rfl rfl (by kernel_rfl) (fun _ _ _ h => h) hS ?_
      refine a_ld 1 tbOk (fun _ hs => (D_h2.ext hs).cell 3 _ rfl) rfl rfl rfl rfl rfl rfl (by kernel_rfl) (fun _ _ _ h => h) hS ?_
      refine a_p 2 tbOk rfl rfl rfl rfl (by kernel_rfl) (fun _ _ _ h => h) hS ?_
      have hik : i < t.kids.length := by omega
      have hp1 := psz_get hik
      refine a_ixS 3 tbOk D_hk (List.getElem?_eq_getElem hik) rfl rfl rfl rfl rfl rfl rfl rfl rfl rfl (by kernel_rfl) (fun _ _ _ _ h => h) hS ?_
      intro ebx eox eux hyx hatx
      obtain ⟨kvx, rfl, opx, nmx, n64x, hkx⟩ := ty_open hyx
      replace hatx : At M1 w9 ebx eox [.int .u8 t.kids[i].op, .string t.kids[i].name, .int .i64 t.kids[i].n, kvx] := hatx
      have hp2 := take_psz t.kids i
      refine a_lds 4 tbOk (fun _ hs j v hv => (hatx.ext hs).cell j v hv) rfl rfl rfl rfl rfl rfl rfl (by kernel_rfl) (fun _ _ _ h => h) hS ?_
      refine a_p 5 tbOk rfl rfl rfl rfl (by kernel_rfl) (fun _ _ _ h => h) hS ?_
      refine a_p 6 tbOk rfl rfl rfl rfl (by kernel_rfl) (fun _ _ _ h => h) hS ?_
      refine a_p 7 tbOk rfl rfl rfl rfl (by kernel_rfl) (fun _ _ _ h => h) hS ?_
      refine a_len 8 tbOk hb rfl rfl rfl rfl rfl rfl (by kernel_rfl) (fun _ _ _ h => h) hS ?_
      refine a_p 9 tbOk rfl rfl rfl rfl (by kernel_rfl) (fun _ _ _ h => h) hS ?_
      refine a_all [10, 15] (by kernel_rfl) rfl (all_cons (i := 10) rfl ?_ (all_cons (i := 15) rfl ?_ all_nil))
      · refine o_slt tbOk hb rfl rfl (j := min (1 + pszs (t.kids.take i)) b.length) (by split <;> omega) (by omega) rfl rfl rfl rfl rfl rfl ?_
        intro bv2 hb2
        replace hb2 : Sl M1 w9 bv2 (b.drop (1 + pszs (t.kids.take i))) := by
          by_cases h : 1 + pszs (t.kids.take i) ≤ b.length
          · rwa [Nat.min_eq_left h] at hb2
          · rw [Nat.min_eq_right (by omega)] at hb2
            rwa [List.drop_eq_nil_of_le (show b.length ≤ 1 + pszs (t.kids.take i) by omega), ← List.drop_eq_nil_of_le (Nat.le_refl b.length)]
        rw [← List.drop_drop] at hb2
        refine ⟨hS, ?_⟩
        refine a_all [11, 15] (by kernel_rfl) rfl (all_cons (i := 11) rfl ?_ (all_cons (i := 15) rfl ?_ all_nil))
        · refine o_call fo55 rfl rfl rfl (ih _ (List.getElem_mem hik) _ _ _ _ _ hyx hb2 hlow (by omega)) ?_
          rintro _ w10 ⟨⟨vc, rfl, hc⟩, ew10⟩
          replace hS := hS.then ew10
          replace ho := ho.ext hlow hB ew10
          replace h4 := h4.ext hlow hB ew10
          replace h7 := h7.ext hlow hB ew10
          replace hE := hE.trans (Below.mono ew10 hB)
          replace h2 := h2.ext ew10
          replace hk := hk.ext ew10
          replace hb := hb.ext ew10
          replace hyx := Rep.ext hyx ew10
          replace hkx := hkx.ext ew10
          replace hatx := hatx.ext ew10
          replace hb2 := hb2.ext ew10
          replace hlow := hlow.ext ew10
          replace hB := Nat.le_trans hB ew10.size
          refine ⟨hS, ?_⟩
          obtain ⟨kvc, rfl, opc, nmc, n64c, hkc⟩ := ty_open hc
          refine a_p 12 tbOk rfl rfl rfl rfl (by kernel_rfl) (fun _ _ _ h => h) hS ?_
          refine a_p 13 tbOk rfl rfl rfl rfl (by kernel_rfl) (fun _ _ _ h => h) hS ?_
          refine a_p 14 tbOk rfl rfl rfl rfl (by kernel_rfl) (fun _ _ _ h => h) hS ?_
          refine a_one 15 rfl (by kernel_rfl) (o_new tbOk rfl rfl rfl ?_)
          intro b10 w11 qb10 ew11 hb10
          have gS_b10 := Nat.le_trans hS.size (Nat.le_of_eq qb10.symm)
          replace hS := hS.then ew11
          have ne_h4_h10 : b4 ≠ b10 := by have := h4.lt; omega
          have ne_h7_h10 : b7 ≠ b10 := by have := h7.lt; omega
          have d_ho_h10 : ∀ x, (wv : Value).ownBlock = some x → x ≠ b10 := fun x hx => by have := (ho.lt x hx).2; omega
          have sw11 := Stp.add ew11 hlow hB (Nat.le_of_eq qb10.symm) hb10.lt
          have h10 : MB w.heap.size (Rw.Add M1 b10) w11 b10 25 [.int .u8 0, .string ⟨#[]⟩, .int .i64 0, .slice none 0 0] := MB.mk' hb10 qb10 hB
          replace ho := ho.stp sw11 (fun x hx => ew11.block x (ho.lt x hx).2)
          replace h4 := h4.stp sw11 (ew11.block b4 h4.lt)
          replace h7 := h7.stp sw11 (ew11.block b7 h7.lt)
          replace hE := hE.trans sw11.below
          replace h2 := h2.stp sw11
          replace hk := hk.stp sw11
          replace hb := hb.stp sw11
          replace hyx := Rep.stp hyx sw11
          replace hkx := hkx.stp sw11
          replace hatx := hatx.stp sw11
          replace hc := Rep.stp hc sw11
          replace hsub := fun b h => sw11.sub b (hsub b h)
          replace hlow := sw11.low
          replace hB := Nat.le_trans hB sw11.upd.1
          refine ⟨hS, ?_⟩
          refine a_one 16 rfl (by kernel_rfl) (o_st tbOk h10.box rfl rfl rfl rfl (Rep.one hc) rfl rfl ?_)
          intro w12 hw12 qw12 bew12
          have uw12 : UpdB _ _ _ := ⟨qw12, bew12⟩
          have sw12 := uw12.stp h10.inM hlow h10.ge
          have frw12 := qw12.2
          replace hS := Below.trans hS (bew12 _ gS_b10)
          replace ho := ho.stp sw12 (fun x hx => frw12 x (ho.lt x hx).2 (d_ho_h10 x hx))
          replace h4 := h4.stp sw12 (frw12 b4 h4.lt ne_h4_h10)
          replace h7 := h7.stp sw12 (frw12 b7 h7.lt ne_h7_h10)
          replace hE := hE.trans sw12.below
          replace h2 := h2.stp sw12
          replace hk := hk.stp sw12
          replace hb := hb.stp sw12
          replace hyx := Rep.stp hyx sw12
          replace hkx := hkx.stp sw12
          replace hatx := hatx.stp sw12
          replace hc := Rep.stp hc sw12
          replace hsub := fun b h => sw12.sub b (hsub b h)
          replace hlow := sw12.low
          replace hB := Nat.le_trans hB sw12.upd.1
          refine ⟨hS, ?_⟩
          replace h10 : MB w.heap.size _ w12 b10 _ [.int .u8 (loosF t.kids[i] ((b.drop 1).drop (pszs (t.kids.take i)))).op, .string (loosF t.kids[i] ((b.drop 1).drop (pszs (t.kids.take i)))).name, .int .i64 (loosF t.kids[i] ((b.drop 1).drop (pszs (t.kids.take i)))).n, kvc] := ⟨hw12, h10.inM, h10.ge⟩
          refine a_p 17 tbOk rfl rfl rfl rfl (by kernel_rfl) (fun _ _ _ h => h) hS ?_
          refine a_end (by kernel_rfl) ?_
          refine x_seq (q0 (l_p 1 tbOk rfl ?_))
          refine l_cons (o_ld tbOk (h7.cell 3 _ rfl) rfl rfl rfl rfl rfl ?_)
          refine l_cons (o_lds tbOk (fun j v hv => h10.cell j v hv) rfl rfl rfl rfl rfl rfl ?_)
          refine l_cons (o_bs tbOk rfl rfl rfl rfl rfl rfl rfl (sz1 (Rep.size hc)) rfl rfl rfl ?_)
          intro bw13 w13 qbw13 ew13 hbw13
          have nbw13 := nM_of hlow qbw13
          replace ho := ho.ext hlow hB ew13
          replace h4 := h4.ext hlow hB ew13
          replace h7 := h7.ext hlow hB ew13
          replace h10 := h10.ext hlow hB ew13
          replace hE := hE.trans (Below.mono ew13 hB)
          replace h2 := h2.ext ew13
          replace hk := hk.ext ew13
          replace hb := hb.ext ew13
          replace hyx := Rep.ext hyx ew13
          replace hkx := hkx.ext ew13
          replace hatx := hatx.ext ew13
          replace hc := Rep.ext hc ew13
          replace hlow := hlow.ext ew13
          replace hB := Nat.le_trans hB ew13.size
          refine l_cons (o_app1 tbOk ho hbw13 nbw13 hc hlow hB rfl rfl rfl rfl rfl rfl rfl (by rw [List.length_take, loosK_len]; omega) (by show (_ + _) * 56 ≤ _; rw [List.length_take, loosK_len]; omega) rfl rfl ?_)
          intro vw14 w14 Mw14 hw14 sw14 frw14 blw14
          have zd_ho_h4 := d_ho_h4
          replace d_ho_h4 : ∀ x, (vw14 : Value).ownBlock = some x → x ≠ b4 := fun x hx => (blw14 x hx).elim (d_ho_h4 x) (fun h e => by have := h4.lt; omega)
          have zd_ho_h7 := d_ho_h7
          replace d_ho_h7 : ∀ x, (vw14 : Value).ownBlock = some x → x ≠ b7 := fun x hx => (blw14 x hx).elim (d_ho_h7 x) (fun h e => by have := h7.lt; omega)
          have zd_ho_h10 := d_ho_h10
          replace d_ho_h10 : ∀ x, (vw14 : Value).ownBlock = some x → x ≠ b10 := fun x hx => (blw14 x hx).elim (d_ho_h10 x) (fun h e => by have := h10.lt; omega)
          replace h4 := h4.stp sw14 (frw14 b4 h4.lt (fun e => zd_ho_h4 _ e.symm rfl))
          replace h7 := h7.stp sw14 (frw14 b7 h7.lt (fun e => zd_ho_h7 _ e.symm rfl))
          replace h10 := h10.stp sw14 (frw14 b10 h10.lt (fun e => zd_ho_h10 _ e.symm rfl))
          replace hE := hE.trans sw14.below
          replace h2 := h2.stp sw14
          replace hk := hk.stp sw14
          replace hb := hb.stp sw14
          replace hyx := Rep.stp hyx sw14
          replace hkx := hkx.stp sw14
          replace hatx := hatx.stp sw14
          replace hc := Rep.stp hc sw14
          replace hsub := fun b h => sw14.sub b (hsub b h)
          replace hlow := sw14.low
          replace hB := Nat.le_trans hB sw14.upd.1
          replace ho := hw14
          clear hw14
          refine l_p 1 tbOk rfl ?_
          obtain ⟨av6, cv6, rfl, _⟩ := ho.val
          refine l_cons (o_st tbOk h7.box rfl rfl rfl rfl (by simp [Value.cells, Value.oneCell']) rfl rfl ?_)
          intro w15 hw15 qw15 bew15
          have uw15 : UpdB _ _ _ := ⟨qw15, bew15⟩
          have sw15 := uw15.stp h7.inM hlow h7.ge
          have frw15 := qw15.2
          replace ho := ho.stp sw15 (fun x hx => frw15 x (ho.lt x hx).2 (d_ho_h7 x hx))
          replace h4 := h4.stp sw15 (frw15 b4 h4.lt ne_h4_h7)
          replace h10 := h10.stp sw15 (frw15 b10 h10.lt ne_h7_h10.symm)
          replace hE := hE.trans sw15.below
          replace h2 := h2.stp sw15
          replace hk := hk.stp sw15
          replace hb := hb.stp sw15
          replace hyx := Rep.stp hyx sw15
          replace hkx := hkx.stp sw15
          replace hatx := hatx.stp sw15
          replace hc := Rep.stp hc sw15
          replace hsub := fun b h => sw15.sub b (hsub b h)
          replace hlow := sw15.low
          replace hB := Nat.le_trans hB sw15.upd.1
          replace h7 : MB w.heap.size _ w15 b7 _ [.int .u8 t.op, .string t.name, .int .i64 t.n, (.slice av6 ((loosK t.kids (b.drop 1)).take i ++ [loosF t.kids[i] ((b.drop 1).drop (pszs (t.kids.take i)))]).length cv6)] := ⟨hw15, h7.inM, h7.ge⟩
          refine q1 (c_reg (l_p 2 tbOk rfl ?_))
          refine l_cons (o_ar rfl rfl rfl (IntWalk.i64_in _ (by omega)) rfl rfl ?_)
          refine l_p 1 tbOk rfl (q2 (x_seq (c_reg (l_p 1 tbOk rfl ?_))))
          refine l_cons (o_ar rfl rfl rfl (IntWalk.i64_in _ (by omega)) rfl rfl ?_)
          refine l_p 1 tbOk rfl (l_nil ?_)
          exact x_round3 (i + 1) ((.slice av6 ((loosK t.kids (b.drop 1)).take i ++ [loosF t.kids[i] ((b.drop 1).drop (pszs (t.kids.take i)))]).length cv6)) (Mw14) (s7 rfl rfl (get_num rfl (by rw [pszs_take hik]; omega)) rfl rfl rfl (get_num rfl (by omega))) ⟨by omega, by rw [take_loosK hik]; exact ho, h4, h7, h2, d_ho_h4, d_ho_h7, hk, hb, hlow, hsub, hE, hB⟩ (by omega)
        refine o_new tbOk rfl rfl rfl ?_
        intro b10 w16 qb10 ew16 hb10
        have gS_b10 := Nat.le_trans hS.size (Nat.le_of_eq qb10.symm)
        replace hS := hS.then ew16
        have ne_h4_h10 : b4 ≠ b10 := by have := h4.lt; omega
        have ne_h7_h10 : b7 ≠ b10 := by have := h7.lt; omega
        have d_ho_h10 : ∀ x, (wv : Value).ownBlock = some x → x ≠ b10 := fun x hx => by have := (ho.lt x hx).2; omega
        have sw16 := Stp.add ew16 hlow hB (Nat.le_of_eq qb10.symm) hb10.lt
        have h10 : MB w.heap.size (Rw.Add M1 b10) w16 b10 25 [.int .u8 0, .string ⟨#[]⟩, .int .i64 0, .slice none 0 0] := MB.mk' hb10 qb10 hB
        replace ho := ho.stp sw16 (fun x hx => ew16.block x (ho.lt x hx).2)
        replace h4 := h4.stp sw16 (ew16.block b4 h4.lt)
        replace h7 := h7.stp sw16 (ew16.block b7 h7.lt)
        replace hE := hE.trans sw16.below
        replace h2 := h2.stp sw16
        replace hk := hk.stp sw16
        replace hb := hb.stp sw16
        replace hyx := Rep.stp hyx sw16
        replace hkx := hkx.stp sw16
        replace hatx := hatx.stp sw16
        replace hb2 := hb2.stp sw16
        replace hsub := fun b h => sw16.sub b (hsub b h)
        replace hlow := sw16.low
        replace hB := Nat.le_trans hB sw16.upd.1
        refine ⟨hS, ?_⟩
        refine a_one 11 rfl (by kernel_rfl) (o_call fo55 rfl rfl rfl (ih _ (List.getElem_mem hik) _ _ _ _ _ hyx hb2 hlow (by omega)) ?_)
        rintro _ w17 ⟨⟨vc, rfl, hc⟩, ew17⟩
        replace hS := hS.then ew17
        replace ho := ho.ext hlow hB ew17
        replace h4 := h4.ext hlow hB ew17
        replace h7 := h7.ext hlow hB ew17
        replace h10 := h10.ext hlow hB ew17
        replace hE := hE.trans (Below.mono ew17 hB)
        replace h2 := h2.ext ew17
        replace hk := hk.ext ew17
        replace hb := hb.ext ew17
        replace hyx := Rep.ext hyx ew17
        replace hkx := hkx.ext ew17
        replace hatx := hatx.ext ew17
        replace hb2 := hb2.ext ew17
        replace hlow := hlow.ext ew17
        replace hB := Nat.le_trans hB ew17.size
        refine ⟨hS, ?_⟩
        obtain ⟨kvc, rfl, opc, nmc, n64c, hkc⟩ := ty_open hc
        refine a_p 12 tbOk rfl rfl rfl rfl (by kernel_rfl) (fun _ _ _ h => h) hS ?_
        refine a_p 13 tbOk rfl rfl rfl rfl (by kernel_rfl) (fun _ _ _ h => h) hS ?_
        refine a_p 14 tbOk rfl rfl rfl rfl (by kernel_rfl) (fun _ _ _ h => h) hS ?_
        refine a_one 16 rfl (by kernel_rfl) (o_st tbOk h10.box rfl rfl rfl rfl (Rep.one hc) rfl rfl ?_)
        intro w18 hw18 qw18 bew18
        have uw18 : UpdB _ _ _ := ⟨qw18, bew18⟩
        have sw18 := uw18.stp h10.inM hlow h10.ge
        have frw18 := qw18.2
        replace hS := Below.trans hS (bew18 _ gS_b10)
        replace ho := ho.stp sw18 (fun x hx => frw18 x (ho.lt x hx).2 (d_ho_h10 x hx))
        replace h4 := h4.stp sw18 (frw18 b4 h4.lt ne_h4_h10)
        replace h7 := h7.stp sw18 (frw18 b7 h7.lt ne_h7_h10)
        replace hE := hE.trans sw18.below
        replace h2 := h2.stp sw18
        replace hk := hk.stp sw18
        replace hb := hb.stp sw18
        replace hyx := Rep.stp hyx sw18
        replace hkx := hkx.stp sw18
        replace hatx := hatx.stp sw18
        replace hc := Rep.stp hc sw18
        replace hsub := fun b h => sw18.sub b (hsub b h)
        replace hlow := sw18.low
        replace hB := Nat.le_trans hB sw18.upd.1
        refine ⟨hS, ?_⟩
        replace h10 : MB w.heap.size _ w18 b10 _ [.int .u8 (loosF t.kids[i] ((b.drop 1).drop (pszs (t.kids.take i)))).op, .string (loosF t.kids[i] ((b.drop 1).drop (pszs (t.kids.take i)))).name, .int .i64 (loosF t.kids[i] ((b.drop 1).drop (pszs (t.kids.take i)))).n, kvc] := ⟨hw18, h10.inM, h10.ge⟩
        refine a_p 17 tbOk rfl rfl rfl rfl (by kernel_rfl) (fun _ _ _ h => h) hS ?_
        refine a_end (by kernel_rfl) ?_
        refine x_seq (q0 (l_p 1 tbOk rfl ?_))
        refine l_cons (o_ld tbOk (h7.cell 3 _ rfl) rfl rfl rfl rfl rfl ?_)
        refine l_cons (o_lds tbOk (fun j v hv => h10.cell j v hv) rfl rfl rfl rfl rfl rfl ?_)
        refine l_cons (o_bs tbOk rfl rfl rfl rfl rfl rfl rfl (sz1 (Rep.size hc)) rfl rfl rfl ?_)
        intro bw19 w19 qbw19 ew19 hbw19
        have nbw19 := nM_of hlow qbw19
        replace ho := ho.ext hlow hB ew19
        replace h4 := h4.ext hlow hB ew19
        replace h7 := h7.ext hlow hB ew19
        replace h10 := h10.ext hlow hB ew19
        replace hE := hE.trans (Below.mono ew19 hB)
        replace h2 := h2.ext ew19
        replace hk := hk.ext ew19
        replace hb := hb.ext ew19
        replace hyx := Rep.ext hyx ew19
        replace hkx := hkx.ext ew19
        replace hatx := hatx.ext ew19
        replace hc := Rep.ext hc ew19
        replace hlow := hlow.ext ew19
        replace hB := Nat.le_trans hB ew19.size
        refine l_cons (o_app1 tbOk ho hbw19 nbw19 hc hlow hB rfl rfl rfl rfl rfl rfl rfl (by rw [List.length_take, loosK_len]; omega) (by show (_ + _) * 56 ≤ _; rw [List.length_take, loosK_len]; omega) rfl rfl ?_)
        intro vw20 w20 Mw20 hw20 sw20 frw20 blw20
        have zd_ho_h4 := d_ho_h4
        replace d_ho_h4 : ∀ x, (vw20 : Value).ownBlock = some x → x ≠ b4 := fun x hx => (blw20 x hx).elim (d_ho_h4 x) (fun h e => by have := h4.lt; omega)
        have zd_ho_h7 := d_ho_h7
        replace d_ho_h7 : ∀ x, (vw20 : Value).ownBlock = some x → x ≠ b7 := fun x hx => (blw20 x hx).elim (d_ho_h7 x) (fun h e => by have := h7.lt; omega)
        have zd_ho_h10 := d_ho_h10
        replace d_ho_h10 : ∀ x, (vw20 : Value).ownBlock = some x → x ≠ b10 := fun x hx => (blw20 x hx).elim (d_ho_h10 x) (fun h e => by have := h10.lt; omega)
        replace h4 := h4.stp sw20 (frw20 b4 h4.lt (fun e => zd_ho_h4 _ e.symm rfl))
        replace h7 := h7.stp sw20 (frw20 b7 h7.lt (fun e => zd_ho_h7 _ e.symm rfl))
        replace h10 := h10.stp sw20 (frw20 b10 h10.lt (fun e => zd_ho_h10 _ e.symm rfl))
        replace hE := hE.trans sw20.below
        replace h2 := h2.stp sw20
        replace hk := hk.stp sw20
        replace hb := hb.stp sw20
        replace hyx := Rep.stp hyx sw20
        replace hkx := hkx.stp sw20
        replace hatx := hatx.stp sw20
        replace hc := Rep.stp hc sw20
        replace hsub := fun b h => sw20.sub b (hsub b h)
        replace hlow := sw20.low
        replace hB := Nat.le_trans hB sw20.upd.1
        replace ho := hw20
        clear hw20
        refine l_p 1 tbOk rfl ?_
        obtain ⟨av6, cv6, rfl, _⟩ := ho.val
        refine l_cons (o_st tbOk h7.box rfl rfl rfl rfl (by simp [Value.cells, Value.oneCell']) rfl rfl ?_)
        intro w21 hw21 qw21 bew21
        have uw21 : UpdB _ _ _ := ⟨qw21, bew21⟩
        have sw21 := uw21.stp h7.inM hlow h7.ge
        have frw21 := qw21.2
        replace ho := ho.stp sw21 (fun x hx => frw21 x (ho.lt x hx).2 (d_ho_h7 x hx))
        replace h4 := h4.stp sw21 (frw21 b4 h4.lt ne_h4_h7)
        replace h10 := h10.stp sw21 (frw21 b10 h10.lt ne_h7_h10.symm)
        replace hE := hE.trans sw21.below
        replace h2 := h2.stp sw21
        replace hk := hk.stp sw21
        replace hb := hb.stp sw21
        replace hyx := Rep.stp hyx sw21
        replace hkx := hkx.stp sw21
        replace hatx := hatx.stp sw21
        replace hc := Rep.stp hc sw21
        replace hsub := fun b h => sw21.sub b (hsub b h)
        replace hlow := sw21.low
        replace hB := Nat.le_trans hB sw21.upd.1
        replace h7 : MB w.heap.size _ w21 b7 _ [.int .u8 t.op, .string t.name, .int .i64 t.n, (.slice av6 ((loosK t.kids (b.drop 1)).take i ++ [loosF t.kids[i] ((b.drop 1).drop (pszs (t.kids.take i)))]).length cv6)] := ⟨hw21, h7.inM, h7.ge⟩
        refine q1 (c_reg (l_p 2 tbOk rfl ?_))
        refine l_cons (o_ar rfl rfl rfl (IntWalk.i64_in _ (by omega)) rfl rfl ?_)
        refine l_p 1 tbOk rfl (q2 (x_seq (c_reg (l_p 1 tbOk rfl ?_))))
        refine l_cons (o_ar rfl rfl rfl (IntWalk.i64_in _ (by omega)) rfl rfl ?_)
        refine l_p 1 tbOk rfl (l_nil ?_)
        exact x_round3 (i + 1) ((.slice av6 ((loosK t.kids (b.drop 1)).take i ++ [loosF t.kids[i] ((b.drop 1).drop (pszs (t.kids.take i)))]).length cv6)) (Mw20) (s7 rfl rfl (get_num rfl (by rw [pszs_take hik]; omega)) rfl rfl rfl (get_num rfl (by omega))) ⟨by omega, by rw [take_loosK hik]; exact ho, h4, h7, h2, d_ho_h4, d_ho_h7, hk, hb, hlow, hsub, hE, hB⟩ (by omega)
      refine o_new tbOk rfl rfl rfl ?_
      intro b10 w22 qb10 ew22 hb10
      have gS_b10 := Nat.le_trans hS.size (Nat.le_of_eq qb10.symm)
      replace hS := hS.then ew22
      have ne_h4_h10 : b4 ≠ b10 := by have := h4.lt; omega
      have ne_h7_h10 : b7 ≠ b10 := by have := h7.lt; omega
      have d_ho_h10 : ∀ x, (wv : Value).ownBlock = some x → x ≠ b10 := fun x hx => by have := (ho.lt x hx).2; omega
      have sw22 := Stp.add ew22 hlow hB (Nat.le_of_eq qb10.symm) hb10.lt
      have h10 : MB w.heap.size (Rw.Add M1 b10) w22 b10 25 [.int .u8 0, .string ⟨#[]⟩, .int .i64 0, .slice none 0 0] := MB.mk' hb10 qb10 hB
      replace ho := ho.stp sw22 (fun x hx => ew22.block x (ho.lt x hx).2)
      replace h4 := h4.stp sw22 (ew22.block b4 h4.lt)
      replace h7 := h7.stp sw22 (ew22.block b7 h7.lt)
      replace hE := hE.trans sw22.below
      replace h2 := h2.stp sw22
      replace hk := hk.stp sw22
      replace hb := hb.stp sw22
      replace hyx := Rep.stp hyx sw22
      replace hkx := hkx.stp sw22
      replace hatx := hatx.stp sw22
      replace hsub := fun b h => sw22.sub b (hsub b h)
      replace hlow := sw22.low
      replace hB := Nat.le_trans hB sw22.upd.1
      refine ⟨hS, ?_⟩
      refine a_one 10 rfl (by kernel_rfl) (o_slt tbOk hb rfl rfl (j := min (1 + pszs (t.kids.take i)) b.length) (by split <;> omega) (by omega) rfl rfl rfl rfl rfl rfl ?_)
      intro bv2 hb2
      replace hb2 : Sl (Rw.Add M1 b10) w22 bv2 (b.drop (1 + pszs (t.kids.take i))) := by
        by_cases h : 1 + pszs (t.kids.take i) ≤ b.length
        · rwa [Nat.min_eq_left h] at hb2
        · rw [Nat.min_eq_right (by omega)] at hb2
          rwa [List.drop_eq_nil_of_le (show b.length ≤ 1 + pszs (t.kids.take i) by omega), ← List.drop_eq_nil_of_le (Nat.le_refl b.length)]
      rw [← List.drop_drop] at hb2
      refine ⟨hS, ?_⟩
      refine a_one 11 rfl (by kernel_rfl) (o_call fo55 rfl rfl rfl (ih _ (List.getElem_mem hik) _ _ _ _ _ hyx hb2 hlow (by omega)) ?_)
      rintro _ w23 ⟨⟨vc, rfl, hc⟩, ew23⟩
      replace hS := hS.then ew23
      replace ho := ho.ext hlow hB ew23
      replace h4 := h4.ext hlow hB ew23
      replace h7 := h7.ext hlow hB ew23
      replace h10 := h10.ext hlow hB ew23
      replace hE := hE.trans (Below.mono ew23 hB)
      replace h2 := h2.ext ew23
      replace hk := hk.ext ew23
      replace hb := hb.ext ew23
      replace hyx := Rep.ext hyx ew23
      replace hkx := hkx.ext ew23
      replace hatx := hatx.ext ew23
      replace hb2 := hb2.ext ew23
      replace hlow := hlow.ext ew23
      replace hB := Nat.le_trans hB ew23.size
      refine ⟨hS, ?_⟩
      obtain ⟨kvc, rfl, opc, nmc, n64c, hkc⟩ := ty_open hc
      refine a_p 12 tbOk rfl rfl rfl rfl (by kernel_rfl) (fun _ _ _ h => h) hS ?_
      refine a_p 13 tbOk rfl rfl rfl rfl (by kernel_rfl) (fun _ _ _ h => h) hS ?_
      refine a_p 14 tbOk rfl rfl rfl rfl (by kernel_rfl) (fun _ _ _ h => h) hS ?_
      refine a_one 16 rfl (by kernel_rfl) (o_st tbOk h10.box rfl rfl rfl rfl (Rep.one hc) rfl rfl ?_)
      intro w24 hw24 qw24 bew24
      have uw24 : UpdB _ _ _ := ⟨qw24, bew24⟩
      have sw24 := uw24.stp h10.inM hlow h10.ge
      have frw24 := qw24.2
      replace hS := Below.trans hS (bew24 _ gS_b10)
      replace ho := ho.stp sw24 (fun x hx => frw24 x (ho.lt x hx).2 (d_ho_h10 x hx))
      replace h4 := h4.stp sw24 (frw24 b4 h4.lt ne_h4_h10)
      replace h7 := h7.stp sw24 (frw24 b7 h7.lt ne_h7_h10)
      replace hE := hE.trans sw24.below
      replace h2 := h2.stp sw24
      replace hk := hk.stp sw24
      replace hb := hb.stp sw24
      replace hyx := Rep.stp hyx sw24
      replace hkx := hkx.stp sw24
      replace hatx := hatx.stp sw24
      replace hc := Rep.stp hc sw24
      replace hsub := fun b h => sw24.sub b (hsub b h)
      replace hlow := sw24.low
      replace hB := Nat.le_trans hB sw24.upd.1
      refine ⟨hS, ?_⟩
      replace h10 : MB w.heap.size _ w24 b10 _ [.int .u8 (loosF t.kids[i] ((b.drop 1).drop (pszs (t.kids.take i)))).op, .string (loosF t.kids[i] ((b.drop 1).drop (pszs (t.kids.take i)))).name, .int .i64 (loosF t.kids[i] ((b.drop 1).drop (pszs (t.kids.take i)))).n, kvc] := ⟨hw24, h10.inM, h10.ge⟩
      refine a_p 17 tbOk rfl rfl rfl rfl (by kernel_rfl) (fun _ _ _ h => h) hS ?_
      refine a_end (by kernel_rfl) ?_
      refine x_seq (q0 (l_p 1 tbOk rfl ?_))
      refine l_cons (o_ld tbOk (h7.cell 3 _ rfl) rfl rfl rfl rfl rfl ?_)
      refine l_cons (o_lds tbOk (fun j v hv => h10.cell j v hv) rfl rfl rfl rfl rfl rfl ?_)
      refine l_cons (o_bs tbOk rfl rfl rfl rfl rfl rfl rfl (sz1 (Rep.size hc)) rfl rfl rfl ?_)
      intro bw25 w25 qbw25 ew25 hbw25
      have nbw25 := nM_of hlow qbw25
      replace ho := ho.ext hlow hB ew25
      replace h4 := h4.ext hlow hB ew25
      replace h7 := h7.ext hlow hB ew25
      replace h10 := h10.ext hlow hB ew25
      replace hE := hE.trans (Below.mono ew25 hB)
      replace h2 := h2.ext ew25
      replace hk := hk.ext ew25
      replace hb := hb.ext ew25
      replace hyx := Rep.ext hyx ew25
      replace hkx := hkx.ext ew25
      replace hatx := hatx.ext ew25
      replace hc := Rep.ext hc ew25
      replace hlow := hlow.ext ew25
      replace hB := Nat.le_trans hB ew25.size
      refine l_cons (o_app1 tbOk ho hbw25 nbw25 hc hlow hB rfl rfl rfl rfl rfl rfl rfl (by rw [List.length_take, loosK_len]; omega) (by show (_ + _) * 56 ≤ _; rw [List.length_take, loosK_len]; omega) rfl rfl ?_)
      intro vw26 w26 Mw26 hw26 sw26 frw26 blw26
      have zd_ho_h4 := d_ho_h4
      replace d_ho_h4 : ∀ x, (vw26 : Value).ownBlock = some x → x ≠ b4 := fun x hx => (blw26 x hx).elim (d_ho_h4 x) (fun h e => by have := h4.lt; omega)
      have zd_ho_h7 := d_ho_h7
      replace d_ho_h7 : ∀ x, (vw26 : Value).ownBlock = some x → x ≠ b7 := fun x hx => (blw26 x hx).elim (d_ho_h7 x) (fun h e => by have := h7.lt; omega)
      have zd_ho_h10 := d_ho_h10
      replace d_ho_h10 : ∀ x, (vw26 : Value).ownBlock = some x → x ≠ b10 := fun x hx => (blw26 x hx).elim (d_ho_h10 x) (fun h e => by have := h10.lt; omega)
      replace h4 := h4.stp sw26 (frw26 b4 h4.lt (fun e => zd_ho_h4 _ e.symm rfl))
      replace h7 := h7.stp sw26 (frw26 b7 h7.lt (fun e => zd_ho_h7 _ e.symm rfl))
      replace h10 := h10.stp sw26 (frw26 b10 h10.lt (fun e => zd_ho_h10 _ e.symm rfl))
      replace hE := hE.trans sw26.below
      replace h2 := h2.stp sw26
      replace hk := hk.stp sw26
      replace hb := hb.stp sw26
      replace hyx := Rep.stp hyx sw26
      replace hkx := hkx.stp sw26
      replace hatx := hatx.stp sw26
      replace hc := Rep.stp hc sw26
      replace hsub := fun b h => sw26.sub b (hsub b h)
      replace hlow := sw26.low
      replace hB := Nat.le_trans hB sw26.upd.1
      replace ho := hw26
      clear hw26
      refine l_p 1 tbOk rfl ?_
      obtain ⟨av6, cv6, rfl, _⟩ := ho.val
      refine l_cons (o_st tbOk h7.box rfl rfl rfl rfl (by simp [Value.cells, Value.oneCell']) rfl rfl ?_)
      intro w27 hw27 qw27 bew27
      have uw27 : UpdB _ _ _ := ⟨qw27, bew27⟩
      have sw27 := uw27.stp h7.inM hlow h7.ge
      have frw27 := qw27.2
      replace ho := ho.stp sw27 (fun x hx => frw27 x (ho.lt x hx).2 (d_ho_h7 x hx))
      replace h4 := h4.stp sw27 (frw27 b4 h4.lt ne_h4_h7)
      replace h10 := h10.stp sw27 (frw27 b10 h10.lt ne_h7_h10.symm)
      replace hE := hE.trans sw27.below
      replace h2 := h2.stp sw27
      replace hk := hk.stp sw27
      replace hb := hb.stp sw27
      replace hyx := Rep.stp hyx sw27
      replace hkx := hkx.stp sw27
      replace hatx := hatx.stp sw27
      replace hc := Rep.stp hc sw27
      replace hsub := fun b h => sw27.sub b (hsub b h)
      replace hlow := sw27.low
      replace hB := Nat.le_trans hB sw27.upd.1
      replace h7 : MB w.heap.size _ w27 b7 _ [.int .u8 t.op, .string t.name, .int .i64 t.n, (.slice av6 ((loosK t.kids (b.drop 1)).take i ++ [loosF t.kids[i] ((b.drop 1).drop (pszs (t.kids.take i)))]).length cv6)] := ⟨hw27, h7.inM, h7.ge⟩
      refine q1 (c_reg (l_p 2 tbOk rfl ?_))
      refine l_cons (o_ar rfl rfl rfl (IntWalk.i64_in _ (by omega)) rfl rfl ?_)
      refine l_p 1 tbOk rfl (q2 (x_seq (c_reg (l_p 1 tbOk rfl ?_))))
      refine l_cons (o_ar rfl rfl rfl (IntWalk.i64_in _ (by omega)) rfl rfl ?_)
      refine l_p 1 tbOk rfl (l_nil ?_)
      exact x_round3 (i + 1) ((.slice av6 ((loosK t.kids (b.drop 1)).take i ++ [loosF t.kids[i] ((b.drop 1).drop (pszs (t.kids.take i)))]).length cv6)) (Mw26) (s7 rfl rfl (get_num rfl (by rw [pszs_take hik]; omega)) rfl rfl rfl (get_num rfl (by omega))) ⟨by omega, by rw [take_loosK hik]; exact ho, h4, h7, h2, d_ho_h4, d_ho_h7, hk, hb, hlow, hsub, hE, hB⟩ (by omega)
    refine c_exit (x_seqE (x_seqE (x_blkE (x_seq (q0 ?_)))))
    refine l_cons (o_lds tbOk (fun j v hv => h7.cell j v hv) rfl rfl rfl rfl rfl rfl ?_)
    refine l_p 1 tbOk rfl ?_
    obtain rfl : i = t.kids.length := by omega
    rw [List.take_of_length_le (Nat.le_of_eq (loosK_len _ _))] at ho
    obtain ⟨av, cv, rfl, hcv⟩ := ho.val
    have hml : (loosK t.kids (b.drop 1)).length = t.kids.length := loosK_len _ _
    refine l_cons (o_st tbOk h4.box rfl rfl rfl rfl (by intro u hu; simp [Value.cells] at hu; rcases hu with rfl | rfl | rfl | rfl <;> rfl) rfl rfl ?_)
    intro w28 hw28 qw28 bew28
    have uw28 : UpdB _ _ _ := ⟨qw28, bew28⟩
    have sw28 := uw28.stp h4.inM hlow h4.ge
    have frw28 := qw28.2
    replace ho := ho.stp sw28 (fun x hx => frw28 x (ho.lt x hx).2 (d_ho_h4 x hx))
    replace h7 := h7.stp sw28 (frw28 b7 h7.lt ne_h4_h7.symm)
    replace hE := hE.trans sw28.below
    replace h2 := h2.stp sw28
    replace hk := hk.stp sw28
    replace hb := hb.stp sw28
    replace hsub := fun b h => sw28.sub b (hsub b h)
    replace hlow := sw28.low
    replace hB := Nat.le_trans hB sw28.upd.1
    replace h4 : MB w.heap.size _ w28 b4 _ [.int .u8 t.op, .string t.name, .int .i64 t.n, .slice av (loosK t.kids (b.drop 1)).length cv] := ⟨hw28, h4.inM, h4.ge⟩
    refine l_p 1 tbOk rfl (q1 (c_ret ?_))
    refine x_ret2st tbOk (fun j v hv => h4.cell j v hv) rfl rfl rfl rfl rfl rfl ?_
    have hfin := ty_mk op nm n64 (ho.sl (by omega) hlow0 hsub)
    rw [← loos_even hod] at hfin
    exact ⟨⟨_, rfl, hfin⟩, hE⟩
  have hod : oddH b = false := odd_nil (by omega)
  refine l_p 6 tbOk rfl (q1 (c_ifF rfl (c_skip (x_seq (q0 (l_p 1 tbOk rfl ?_))))))
  refine l_cons (o_ld tbOk (h2.cell 0 _ rfl) rfl rfl rfl rfl rfl ?_)
  refine l_p 1 tbOk rfl ?_
  refine l_cons (o_ld tbOk (h2.cell 1 _ rfl) rfl rfl rfl rfl rfl ?_)
  refine l_p 1 tbOk rfl ?_
  refine l_cons (o_ld tbOk (h2.cell 2 _ rfl) rfl rfl rfl rfl rfl ?_)
  refine l_cons (o_build (cells := [.int .u8 t.op, .string t.name, .int .i64 t.n, .slice none 0 0]) (css := [[.int .u8 t.op], [.string t.name], [.int .i64 t.n]]) bd25 rfl rfl rfl rfl rfl ?_)
  refine l_cons (o_new tbOk rfl rfl rfl ?_)
  intro b7 w29 qb7 ew29 hb7
  have ne_h4_h7 : b4 ≠ b7 := by have := h4.lt; omega
  have sw29 := Stp.add ew29 hlow hB (Nat.le_of_eq qb7.symm) hb7.lt
  have h7 : MB w.heap.size (Rw.Add (Rw.Add M b4) b7) w29 b7 25 [.int .u8 0, .string ⟨#[]⟩, .int .i64 0, .slice none 0 0] := MB.mk' hb7 qb7 hB
  replace h4 := h4.stp sw29 (ew29.block b4 h4.lt)
  replace hE := hE.trans sw29.below
  replace ht := Rep.stp ht sw29
  replace hk := hk.stp sw29
  replace hb := hb.stp sw29
  replace h2 := h2.stp sw29
  replace hp := hp.stp sw29
  replace hsub := fun b h => sw29.sub b (hsub b h)
  replace hlow := sw29.low
  replace hB := Nat.le_trans hB sw29.upd.1
  refine l_cons (o_st tbOk h7.box rfl rfl rfl rfl (by intro u hu; simp [Value.cells] at hu; rcases hu with rfl | rfl | rfl | rfl <;> rfl) rfl rfl ?_)
  intro w30 hw30 qw30 bew30
  have uw30 : UpdB _ _ _ := ⟨qw30, bew30⟩
  have sw30 := uw30.stp h7.inM hlow h7.ge
  have frw30 := qw30.2
  replace h4 := h4.stp sw30 (frw30 b4 h4.lt ne_h4_h7)
  replace hE := hE.trans sw30.below
  replace ht := Rep.stp ht sw30
  replace hk := hk.stp sw30
  replace hb := hb.stp sw30
  replace h2 := h2.stp sw30
  replace hp := hp.stp sw30
  replace hsub := fun b h => sw30.sub b (hsub b h)
  replace hlow := sw30.low
  replace hB := Nat.le_trans hB sw30.upd.1
  replace h7 : MB w.heap.size _ w30 b7 _ [.int .u8 t.op, .string t.name, .int .i64 t.n, .slice none 0 0] := ⟨hw30, h7.inM, h7.ge⟩
  refine q1 (q0 (l_p 1 tbOk rfl (q1 (c_seq (q0 (l_p 1 tbOk rfl (q1 (c_blk ?_))))))))
  have d_ho_h4 : ∀ x, (.slice none 0 0 : Value).ownBlock = some x → x ≠ b4 := fun x hx => by simp [Value.ownBlock] at hx
  have d_ho_h7 : ∀ x, (.slice none 0 0 : Value).ownBlock = some x → x ≠ b7 := fun x hx => by simp [Value.ownBlock] at hx
  refine c_loop3 (X := Nat) (Y := Value) (Z := Nat → Prop) (fun i wv M1 => [(1, u), (6, .int .i64 ((psz t : Nat) : Int)), (8, .int .i64 ((1 + pszs (t.kids.take i) : Nat) : Int)), (2, .pointer (some ⟨b2, 0, none⟩)), (4, .pointer (some ⟨b4, 0, none⟩)), (7, .pointer (some ⟨b7, 0, none⟩)), (9, .int .i64 (i : Nat))]) (fun i wv M1 w' => i ≤ t.kids.length ∧ OwnSl 25 w.heap.size M1 w' wv ((loosK t.kids (b.drop 1)).take i) ∧ MB w.heap.size M1 w' b4 25 [.int .u8 0, .string ⟨#[]⟩, .int .i64 0, .slice none 0 0] ∧ MB w.heap.size M1 w' b7 25 [.int .u8 t.op, .string t.name, .int .i64 t.n, wv] ∧ At M1 w' b2 0 [.int .u8 t.op, .string t.name, .int .i64 t.n, kv] ∧ (∀ x, (wv : Value).ownBlock = some x → x ≠ b4) ∧ (∀ x, (wv : Value).ownBlock = some x → x ≠ b7) ∧ Sl M1 w' kv t.kids ∧ Sl M1 w' u b ∧ Low M1 w' ∧ (∀ b, M b → M1 b) ∧ Below w.heap.size w w' ∧ w.heap.size ≤ w'.heap.size) (fun i wv M1 => t.kids.length - i) (0) (.slice none 0 0) ((Rw.Add (Rw.Add M b4) b7)) (s7 rfl rfl (get_num rfl (by simp [pszs])) rfl rfl rfl rfl) ?_ ?_
  · exact ⟨Nat.zero_le _, own_nil, h4, h7, h2, d_ho_h4, d_ho_h7, hk, hb, hlow, hsub, hE, hB⟩
  rintro i wv M1 w31 ⟨hi, ho, h4, h7, h2, d_ho_h4, d_ho_h7, hk, hb, hlow, hsub, hE, hB⟩
  refine c_seq (q0 (l_p 2 tbOk rfl ?_))
  refine l_cons (o_ld tbOk (h2.cell 3 _ rfl) rfl rfl rfl rfl rfl ?_)
  refine l_cons (o_len tbOk hk rfl rfl rfl rfl rfl ?_)
  refine l_p 1 tbOk rfl (q1 ?_)
  refine c_ifP _ rfl (fun c4 => ?_) (fun c4 => ?_)
  · refine c_skip (x_seq (c_seq (c_blk (c_seq ?_))))
    refine a_beg Ext rfl ?_
    intro w32 ew32
    replace ho := ho.ext hlow hB ew32
    replace h4 := h4.ext hlow hB ew32
    replace h7 := h7.ext hlow hB ew32
    replace hE := hE.trans (Below.mono ew32 hB)
    replace h2 := h2.ext ew32
    replace hk := hk.ext ew32
    replace hb := hb.ext ew32
    replace hlow := hlow.ext ew32
    replace hB := Nat.le_trans hB ew32.size
    have hS : Ext w32 w32 := ext_refl _
    have D_h4 := h4.box
    have D_h7 := h7.box
    have D_h2 := h2
    have D_hk := hk
    have D_hb := hb
    refine a_p 0 tbOk rfl rfl rfl rfl (by kernel_rfl) (fun _ _ _ h => h) hS ?_
    refine a_ld 1 tbOk (fun _ hs => (D_h2.ext hs).cell 3 _ rfl) rfl rfl rfl rfl rfl rfl (by kernel_rfl) (fun _ _ _ h => h) hS ?_
    refine a_p 2 tbOk rfl rfl rfl rfl (by kernel_rfl) (fun _ _ _ h => h) hS ?_
    have hik : i < t.kids.length := by omega
    have hp1 := psz_get hik
    refine a_ixS 3 tbOk D_hk (List.getElem?_eq_getElem hik) rfl rfl rfl rfl rfl rfl rfl rfl rfl rfl (by kernel_rfl) (fun _ _ _ _ h => h) hS ?_
    intro ebx eox eux hyx hatx
    obtain ⟨kvx, rfl, opx, nmx, n64x, hkx⟩ := ty_open hyx
    replace hatx : At M1 w32 ebx eox [.int .u8 t.kids[i].op, .string t.kids[i].name, .int .i64 t.kids[i].n, kvx] := hatx
    have hp2 := take_psz t.kids i
    refine a_lds 4 tbOk (fun _ hs j v hv => (hatx.ext hs).cell j v hv) rfl rfl rfl rfl rfl rfl rfl (by kernel_rfl) (fun _ _ _ h => h) hS ?_
    refine a_p 5 tbOk rfl rfl rfl rfl (by kernel_rfl) (fun _ _ _ h => h) hS ?_
    refine a_p 6 tbOk rfl rfl rfl rfl (by kernel_rfl) (fun _ _ _ h => h) hS ?_
    refine a_p 7 tbOk rfl rfl rfl rfl (by kernel_rfl) (fun _ _ _ h => h) hS ?_
    refine a_len 8 tbOk hb rfl rfl rfl rfl rfl rfl (by kernel_rfl) (fun _ _ _ h => h) hS ?_
    refine a_p 9 tbOk rfl rfl rfl rfl (by kernel_rfl) (fun _ _ _ h => h) hS ?_
    refine a_all [10, 15] (by kernel_rfl) rfl (all_cons (i := 10) rfl ?_ (all_cons (i := 15) rfl ?_ all_nil))
    · refine o_slt tbOk hb rfl rfl (j := min (1 + pszs (t.kids.take i)) b.length) (by split <;> omega) (by omega) rfl rfl rfl rfl rfl rfl ?_
      intro bv2 hb2
      replace hb2 : Sl M1 w32 bv2 (b.drop (1 + pszs (t.kids.take i))) := by
        by_cases h : 1 + pszs (t.kids.take i) ≤ b.length
        · rwa [Nat.min_eq_left h] at hb2
        · rw [Nat.min_eq_right (by omega)] at hb2
          rwa [List.drop_eq_nil_of_le (show b.length ≤ 1 + pszs (t.kids.take i) by omega), ← List.drop_eq_nil_of_le (Nat.le_refl b.length)]
      rw [← List.drop_drop] at hb2
      refine ⟨hS, ?_⟩
      refine a_all [11, 15] (by kernel_rfl) rfl (all_cons (i := 11) rfl ?_ (all_cons (i := 15) rfl ?_ all_nil))
      · refine o_call fo55 rfl rfl rfl (ih _ (List.getElem_mem hik) _ _ _ _ _ hyx hb2 hlow (by omega)) ?_
        rintro _ w33 ⟨⟨vc, rfl, hc⟩, ew33⟩
        replace hS := hS.then ew33
        replace ho := ho.ext hlow hB ew33
        replace h4 := h4.ext hlow hB ew33
        replace h7 := h7.ext hlow hB ew33
        replace hE := hE.trans (Below.mono ew33 hB)
        replace h2 := h2.ext ew33
        replace hk := hk.ext ew33
        replace hb := hb.ext ew33
        replace hyx := Rep.ext hyx ew33
        replace hkx := hkx.ext ew33
        replace hatx := hatx.ext ew33
        replace hb2 := hb2.ext ew33
        replace hlow := hlow.ext ew33
        replace hB := Nat.le_trans hB ew33.size
        refine ⟨hS, ?_⟩
        obtain ⟨kvc, rfl, opc, nmc, n64c, hkc⟩ := ty_open hc
        refine a_p 12 tbOk rfl rfl rfl rfl (by kernel_rfl) (fun _ _ _ h => h) hS ?_
        refine a_p 13 tbOk rfl rfl rfl rfl (by kernel_rfl) (fun _ _ _ h => h) hS ?_
        refine a_p 14 tbOk rfl rfl rfl rfl (by kernel_rfl) (fun _ _ _ h => h) hS ?_
        refine a_one 15 rfl (by kernel_rfl) (o_new tbOk rfl rfl rfl ?_)
        intro b10 w34 qb10 ew34 hb10
        have gS_b10 := Nat.le_trans hS.size (Nat.le_of_eq qb10.symm)
        replace hS := hS.then ew34
        have ne_h4_h10 : b4 ≠ b10 := by have := h4.lt; omega
        have ne_h7_h10 : b7 ≠ b10 := by have := h7.lt; omega
        have d_ho_h10 : ∀ x, (wv : Value).ownBlock = some x → x ≠ b10 := fun x hx => by have := (ho.lt x hx).2; omega
        have sw34 := Stp.add ew34 hlow hB (Nat.le_of_eq qb10.symm) hb10.lt
        have h10 : MB w.heap.size (Rw.Add M1 b10) w34 b10 25 [.int .u8 0, .string ⟨#[]⟩, .int .i64 0, .slice none 0 0] := MB.mk' hb10 qb10 hB
        replace ho := ho.stp sw34 (fun x hx => ew34.block x (ho.lt x hx).2)
        replace h4 := h4.stp sw34 (ew34.block b4 h4.lt)
        replace h7 := h7.stp sw34 (ew34.block b7 h7.lt)
        replace hE := hE.trans sw34.below
        replace h2 := h2.stp sw34
        replace hk := hk.stp sw34
        replace hb := hb.stp sw34
        replace hyx := Rep.stp hyx sw34
        replace hkx := hkx.stp sw34
        replace hatx := hatx.stp sw34
        replace hc := Rep.stp hc sw34
        replace hsub := fun b h => sw34.sub b (hsub b h)
        replace hlow := sw34.low
        replace hB := Nat.le_trans hB sw34.upd.1
        refine ⟨hS, ?_⟩
        refine a_one 16 rfl (by kernel_rfl) (o_st tbOk h10.box rfl rfl rfl rfl (Rep.one hc) rfl rfl ?_)
        intro w35 hw35 qw35 bew35
        have uw35 : UpdB _ _ _ := ⟨qw35, bew35⟩
        have sw35 := uw35.stp h10.inM hlow h10.ge
        have frw35 := qw35.2
        replace hS := Below.trans hS (bew35 _ gS_b10)
        replace ho := ho.stp sw35 (fun x hx => frw35 x (ho.lt x hx).2 (d_ho_h10 x hx))
        replace h4 := h4.stp sw35 (frw35 b4 h4.lt ne_h4_h10)
        replace h7 := h7.stp sw35 (frw35 b7 h7.lt ne_h7_h10)
        replace hE := hE.trans sw35.below
        replace h2 := h2.stp sw35
        replace hk := hk.stp sw35
        replace hb := hb.stp sw35
        replace hyx := Rep.stp hyx sw35
        replace hkx := hkx.stp sw35
        replace hatx := hatx.stp sw35
        replace hc := Rep.stp hc sw35
        replace hsub := fun b h => sw35.sub b (hsub b h)
        replace hlow := sw35.low
        replace hB := Nat.le_trans hB sw35.upd.1
        refine ⟨hS, ?_⟩
        replace h10 : MB w.heap.size _ w35 b10 _ [.int .u8 (loosF t.kids[i] ((b.drop 1).drop (pszs (t.kids.take i)))).op, .string (loosF t.kids[i] ((b.drop 1).drop (pszs (t.kids.take i)))).name, .int .i64 (loosF t.kids[i] ((b.drop 1).drop (pszs (t.kids.take i)))).n, kvc] := ⟨hw35, h10.inM, h10.ge⟩
        refine a_p 17 tbOk rfl rfl rfl rfl (by kernel_rfl) (fun _ _ _ h => h) hS ?_
        refine a_end (by kernel_rfl) ?_
        refine x_seq (q0 (l_p 1 tbOk rfl ?_))
        refine l_cons (o_ld tbOk (h7.cell 3 _ rfl) rfl rfl rfl rfl rfl ?_)
        refine l_cons (o_lds tbOk (fun j v hv => h10.cell j v hv) rfl rfl rfl rfl rfl rfl ?_)
        refine l_cons (o_bs tbOk rfl rfl rfl rfl rfl rfl rfl (sz1 (Rep.size hc)) rfl rfl rfl ?_)
        intro bw36 w36 qbw36 ew36 hbw36
        have nbw36 := nM_of hlow qbw36
        replace ho := ho.ext hlow hB ew36
        replace h4 := h4.ext hlow hB ew36
        replace h7 := h7.ext hlow hB ew36
        replace h10 := h10.ext hlow hB ew36
        replace hE := hE.trans (Below.mono ew36 hB)
        replace h2 := h2.ext ew36
        replace hk := hk.ext ew36
        replace hb := hb.ext ew36
        replace hyx := Rep.ext hyx ew36
        replace hkx := hkx.ext ew36
        replace hatx := hatx.ext ew36
        replace hc := Rep.ext hc ew36
        replace hlow := hlow.ext ew36
        replace hB := Nat.le_trans hB ew36.size
        refine l_cons (o_app1 tbOk ho hbw36 nbw36 hc hlow hB rfl rfl rfl rfl rfl rfl rfl (by rw [List.length_take, loosK_len]; omega) (by show (_ + _) * 56 ≤ _; rw [List.length_take, loosK_len]; omega) rfl rfl ?_)
        intro vw37 w37 Mw37 hw37 sw37 frw37 blw37
        have zd_ho_h4 := d_ho_h4
        replace d_ho_h4 : ∀ x, (vw37 : Value).ownBlock = some x → x ≠ b4 := fun x hx => (blw37 x hx).elim (d_ho_h4 x) (fun h e => by have := h4.lt; omega)
        have zd_ho_h7 := d_ho_h7
        replace d_ho_h7 : ∀ x, (vw37 : Value).ownBlock = some x → x ≠ b7 := fun x hx => (blw37 x hx).elim (d_ho_h7 x) (fun h e => by have := h7.lt; omega)
        have zd_ho_h10 := d_ho_h10
        replace d_ho_h10 : ∀ x, (vw37 : Value).ownBlock = some x → x ≠ b10 := fun x hx => (blw37 x hx).elim (d_ho_h10 x) (fun h e => by have := h10.lt; omega)
        replace h4 := h4.stp sw37 (frw37 b4 h4.lt (fun e => zd_ho_h4 _ e.symm rfl))
        replace h7 := h7.stp sw37 (frw37 b7 h7.lt (fun e => zd_ho_h7 _ e.symm rfl))
        replace h10 := h10.stp sw37 (frw37 b10 h10.lt (fun e => zd_ho_h10 _ e.symm rfl))
        replace hE := hE.trans sw37.below
        replace h2 := h2.stp sw37
        replace hk := hk.stp sw37
        replace hb := hb.stp sw37
        replace hyx := Rep.stp hyx sw37
        replace hkx := hkx.stp sw37
        replace hatx := hatx.stp sw37
        replace hc := Rep.stp hc sw37
        replace hsub := fun b h => sw37.sub b (hsub b h)
        replace hlow := sw37.low
        replace hB := Nat.le_trans hB sw37.upd.1
        replace ho := hw37
        clear hw37
        refine l_p 1 tbOk rfl ?_
        obtain ⟨av6, cv6, rfl, _⟩ := ho.val
        refine l_cons (o_st tbOk h7.box rfl rfl rfl rfl (by simp [Value.cells, Value.oneCell']) rfl rfl ?_)
        intro w38 hw38 qw38 bew38
        have uw38 : UpdB _ _ _ := ⟨qw38, bew38⟩
        have sw38 := uw38.stp h7.inM hlow h7.ge
        have frw38 := qw38.2
        replace ho := ho.stp sw38 (fun x hx => frw38 x (ho.lt x hx).2 (d_ho_h7 x hx))
        replace h4 := h4.stp sw38 (frw38 b4 h4.lt ne_h4_h7)
        replace h10 := h10.stp sw38 (frw38 b10 h10.lt ne_h7_h10.symm)
        replace hE := hE.trans sw38.below
        replace h2 := h2.stp sw38
        replace hk := hk.stp sw38
        replace hb := hb.stp sw38
        replace hyx := Rep.stp hyx sw38
        replace hkx := hkx.stp sw38
        replace hatx := hatx.stp sw38
        replace hc := Rep.stp hc sw38
        replace hsub := fun b h => sw38.sub b (hsub b h)
        replace hlow := sw38.low
        replace hB := Nat.le_trans hB sw38.upd.1
        replace h7 : MB w.heap.size _ w38 b7 _ [.int .u8 t.op, .string t.name, .int .i64 t.n, (.slice av6 ((loosK t.kids (b.drop 1)).take i ++ [loosF t.kids[i] ((b.drop 1).drop (pszs (t.kids.take i)))]).length cv6)] := ⟨hw38, h7.inM, h7.ge⟩
        refine q1 (c_reg (l_p 2 tbOk rfl ?_))
        refine l_cons (o_ar rfl rfl rfl (IntWalk.i64_in _ (by omega)) rfl rfl ?_)
        refine l_p 1 tbOk rfl (q2 (x_seq (c_reg (l_p 1 tbOk rfl ?_))))
        refine l_cons (o_ar rfl rfl rfl (IntWalk.i64_in _ (by omega)) rfl rfl ?_)
        refine l_p 1 tbOk rfl (l_nil ?_)
        exact x_round3 (i + 1) ((.slice av6 ((loosK t.kids (b.drop 1)).take i ++ [loosF t.kids[i] ((b.drop 1).drop (pszs (t.kids.take i)))]).length cv6)) (Mw37) (s7 rfl rfl (get_num rfl (by rw [pszs_take hik]; omega)) rfl rfl rfl (get_num rfl (by omega))) ⟨by omega, by rw [take_loosK hik]; exact ho, h4, h7, h2, d_ho_h4, d_ho_h7, hk, hb, hlow, hsub, hE, hB⟩ (by omega)
      refine o_new tbOk rfl rfl rfl ?_
      intro b10 w39 qb10 ew39 hb10
      have gS_b10 := Nat.le_trans hS.size (Nat.le_of_eq qb10.symm)
      replace hS := hS.then ew39
      have ne_h4_h10 : b4 ≠ b10 := by have := h4.lt; omega
      have ne_h7_h10 : b7 ≠ b10 := by have := h7.lt; omega
      have d_ho_h10 : ∀ x, (wv : Value).ownBlock = some x → x ≠ b10 := fun x hx => by have := (ho.lt x hx).2; omega
      have sw39 := Stp.add ew39 hlow hB (Nat.le_of_eq qb10.symm) hb10.lt
      have h10 : MB w.heap.size (Rw.Add M1 b10) w39 b10 25 [.int .u8 0, .string ⟨#[]⟩, .int .i64 0, .slice none 0 0] := MB.mk' hb10 qb10 hB
      replace ho := ho.stp sw39 (fun x hx => ew39.block x (ho.lt x hx).2)
      replace h4 := h4.stp sw39 (ew39.block b4 h4.lt)
      replace h7 := h7.stp sw39 (ew39.block b7 h7.lt)
      replace hE := hE.trans sw39.below
      replace h2 := h2.stp sw39
      replace hk := hk.stp sw39
      replace hb := hb.stp sw39
      replace hyx := Rep.stp hyx sw39
      replace hkx := hkx.stp sw39
      replace hatx := hatx.stp sw39
      replace hb2 := hb2.stp sw39
      replace hsub := fun b h => sw39.sub b (hsub b h)
      replace hlow := sw39.low
      replace hB := Nat.le_trans hB sw39.upd.1
      refine ⟨hS, ?_⟩
      refine a_one 11 rfl (by kernel_rfl) (o_call fo55 rfl rfl rfl (ih _ (List.getElem_mem hik) _ _ _ _ _ hyx hb2 hlow (by omega)) ?_)
      rintro _ w40 ⟨⟨vc, rfl, hc⟩, ew40⟩
      replace hS := hS.then ew40
      replace ho := ho.ext hlow hB ew40
      replace h4 := h4.ext hlow hB ew40
      replace h7 := h7.ext hlow hB ew40
      replace h10 := h10.ext hlow hB ew40
      replace hE := hE.trans (Below.mono ew40 hB)
      replace h2 := h2.ext ew40
      replace hk := hk.ext ew40
      replace hb := hb.ext ew40
      replace hyx := Rep.ext hyx ew40
      replace hkx := hkx.ext ew40
      replace hatx := hatx.ext ew40
      replace hb2 := hb2.ext ew40
      replace hlow := hlow.ext ew40
      replace hB := Nat.le_trans hB ew40.size
      refine ⟨hS, ?_⟩
      obtain ⟨kvc, rfl, opc, nmc, n64c, hkc⟩ := ty_open hc
      refine a_p 12 tbOk rfl rfl rfl rfl (by kernel_rfl) (fun _ _ _ h => h) hS ?_
      refine a_p 13 tbOk rfl rfl rfl rfl (by kernel_rfl) (fun _ _ _ h => h) hS ?_
      refine a_p 14 tbOk rfl rfl rfl rfl (by kernel_rfl) (fun _ _ _ h => h) hS ?_
      refine a_one 16 rfl (by kernel_rfl) (o_st tbOk h10.box rfl rfl rfl rfl (Rep.one hc) rfl rfl ?_)
      intro w41 hw41 qw41 bew41
      have uw41 : UpdB _ _ _ := ⟨qw41, bew41⟩
      have sw41 := uw41.stp h10.inM hlow h10.ge
      have frw41 := qw41.2
      replace hS := Below.trans hS (bew41 _ gS_b10)
      replace ho := ho.stp sw41 (fun x hx => frw41 x (ho.lt x hx).2 (d_ho_h10 x hx))
      replace h4 := h4.stp sw41 (frw41 b4 h4.lt ne_h4_h10)
      replace h7 := h7.stp sw41 (frw41 b7 h7.lt ne_h7_h10)
      replace hE := hE.trans sw41.below
      replace h2 := h2.stp sw41
      replace hk := hk.stp sw41
      replace hb := hb.stp sw41
      replace hyx := Rep.stp hyx sw41
      replace hkx := hkx.stp sw41
      replace hatx := hatx.stp sw41
      replace hc := Rep.stp hc sw41
      replace hsub := fun b h => sw41.sub b (hsub b h)
      replace hlow := sw41.low
      replace hB := Nat.le_trans hB sw41.upd.1
      refine ⟨hS, ?_⟩
      replace h10 : MB w.heap.size _ w41 b10 _ [.int .u8 (loosF t.kids[i] ((b.drop 1).drop (pszs (t.kids.take i)))).op, .string (loosF t.kids[i] ((b.drop 1).drop (pszs (t.kids.take i)))).name, .int .i64 (loosF t.kids[i] ((b.drop 1).drop (pszs (t.kids.take i)))).n, kvc] := ⟨hw41, h10.inM, h10.ge⟩
      refine a_p 17 tbOk rfl rfl rfl rfl (by kernel_rfl) (fun _ _ _ h => h) hS ?_
      refine a_end (by kernel_rfl) ?_
      refine x_seq (q0 (l_p 1 tbOk rfl ?_))
      refine l_cons (o_ld tbOk (h7.cell 3 _ rfl) rfl rfl rfl rfl rfl ?_)
      refine l_cons (o_lds tbOk (fun j v hv => h10.cell j v hv) rfl rfl rfl rfl rfl rfl ?_)
      refine l_cons (o_bs tbOk rfl rfl rfl rfl rfl rfl rfl (sz1 (Rep.size hc)) rfl rfl rfl ?_)
      intro bw42 w42 qbw42 ew42 hbw42
      have nbw42 := nM_of hlow qbw42
      replace ho := ho.ext hlow hB ew42
      replace h4 := h4.ext hlow hB ew42
      replace h7 := h7.ext hlow hB ew42
      replace h10 := h10.ext hlow hB ew42
      replace hE := hE.trans (Below.mono ew42 hB)
      replace h2 := h2.ext ew42
      replace hk := hk.ext ew42
      replace hb := hb.ext ew42
      replace hyx := Rep.ext hyx ew42
      replace hkx := hkx.ext ew42
      replace hatx := hatx.ext ew42
      replace hc := Rep.ext hc ew42
      replace hlow := hlow.ext ew42
      replace hB := Nat.le_trans hB ew42.size
      refine l_cons (o_app1 tbOk ho hbw42 nbw42 hc hlow hB rfl rfl rfl rfl rfl rfl rfl (by rw [List.length_take, loosK_len]; omega) (by show (_ + _) * 56 ≤ _; rw [List.length_take, loosK_len]; omega) rfl rfl ?_)
      intro vw43 w43 Mw43 hw43 sw43 frw43 blw43
      have zd_ho_h4 := d_ho_h4
      replace d_ho_h4 : ∀ x, (vw43 : Value).ownBlock = some x → x ≠ b4 := fun x hx => (blw43 x hx).elim (d_ho_h4 x) (fun h e => by have := h4.lt; omega)
      have zd_ho_h7 := d_ho_h7
      replace d_ho_h7 : ∀ x, (vw43 : Value).ownBlock = some x → x ≠ b7 := fun x hx => (blw43 x hx).elim (d_ho_h7 x) (fun h e => by have := h7.lt; omega)
      have zd_ho_h10 := d_ho_h10
      replace d_ho_h10 : ∀ x, (vw43 : Value).ownBlock = some x → x ≠ b10 := fun x hx => (blw43 x hx).elim (d_ho_h10 x) (fun h e => by have := h10.lt; omega)
      replace h4 := h4.stp sw43 (frw43 b4 h4.lt (fun e => zd_ho_h4 _ e.symm rfl))
      replace h7 := h7.stp sw43 (frw43 b7 h7.lt (fun e => zd_ho_h7 _ e.symm rfl))
      replace h10 := h10.stp sw43 (frw43 b10 h10.lt (fun e => zd_ho_h10 _ e.symm rfl))
      replace hE := hE.trans sw43.below
      replace h2 := h2.stp sw43
      replace hk := hk.stp sw43
      replace hb := hb.stp sw43
      replace hyx := Rep.stp hyx sw43
      replace hkx := hkx.stp sw43
      replace hatx := hatx.stp sw43
      replace hc := Rep.stp hc sw43
      replace hsub := fun b h => sw43.sub b (hsub b h)
      replace hlow := sw43.low
      replace hB := Nat.le_trans hB sw43.upd.1
      replace ho := hw43
      clear hw43
      refine l_p 1 tbOk rfl ?_
      obtain ⟨av6, cv6, rfl, _⟩ := ho.val
      refine l_cons (o_st tbOk h7.box rfl rfl rfl rfl (by simp [Value.cells, Value.oneCell']) rfl rfl ?_)
      intro w44 hw44 qw44 bew44
      have uw44 : UpdB _ _ _ := ⟨qw44, bew44⟩
      have sw44 := uw44.stp h7.inM hlow h7.ge
      have frw44 := qw44.2
      replace ho := ho.stp sw44 (fun x hx => frw44 x (ho.lt x hx).2 (d_ho_h7 x hx))
      replace h4 := h4.stp sw44 (frw44 b4 h4.lt ne_h4_h7)
      replace h10 := h10.stp sw44 (frw44 b10 h10.lt ne_h7_h10.symm)
      replace hE := hE.trans sw44.below
      replace h2 := h2.stp sw44
      replace hk := hk.stp sw44
      replace hb := hb.stp sw44
      replace hyx := Rep.stp hyx sw44
      replace hkx := hkx.stp sw44
      replace hatx := hatx.stp sw44
      replace hc := Rep.stp hc sw44
      replace hsub := fun b h => sw44.sub b (hsub b h)
      replace hlow := sw44.low
      replace hB := Nat.le_trans hB sw44.upd.1
      replace h7 : MB w.heap.size _ w44 b7 _ [.int .u8 t.op, .string t.name, .int .i64 t.n, (.slice av6 ((loosK t.kids (b.drop 1)).take i ++ [loosF t.kids[i] ((b.drop 1).drop (pszs (t.kids.take i)))]).length cv6)] := ⟨hw44, h7.inM, h7.ge⟩
      refine q1 (c_reg (l_p 2 tbOk rfl ?_))
      refine l_cons (o_ar rfl rfl rfl (IntWalk.i64_in _ (by omega)) rfl rfl ?_)
      refine l_p 1 tbOk rfl (q2 (x_seq (c_reg (l_p 1 tbOk rfl ?_))))
      refine l_cons (o_ar rfl rfl rfl (IntWalk.i64_in _ (by omega)) rfl rfl ?_)
      refine l_p 1 tbOk rfl (l_nil ?_)
      exact x_round3 (i + 1) ((.slice av6 ((loosK t.kids (b.drop 1)).take i ++ [loosF t.kids[i] ((b.drop 1).drop (pszs (t.kids.take i)))]).length cv6)) (Mw43) (s7 rfl rfl (get_num rfl (by rw [pszs_take hik]; omega)) rfl rfl rfl (get_num rfl (by omega))) ⟨by omega, by rw [take_loosK hik]; exact ho, h4, h7, h2, d_ho_h4, d_ho_h7, hk, hb, hlow, hsub, hE, hB⟩ (by omega)
    refine o_new tbOk rfl rfl rfl ?_
    intro b10 w45 qb10 ew45 hb10
    have gS_b10 := Nat.le_trans hS.size (Nat.le_of_eq qb10.symm)
    replace hS := hS.then ew45
    have ne_h4_h10 : b4 ≠ b10 := by have := h4.lt; omega
    have ne_h7_h10 : b7 ≠ b10 := by have := h7.lt; omega
    have d_ho_h10 : ∀ x, (wv : Value).ownBlock = some x → x ≠ b10 := fun x hx => by have := (ho.lt x hx).2; omega
    have sw45 := Stp.add ew45 hlow hB (Nat.le_of_eq qb10.symm) hb10.lt
    have h10 : MB w.heap.size (Rw.Add M1 b10) w45 b10 25 [.int .u8 0, .string ⟨#[]⟩, .int .i64 0, .slice none 0 0] := MB.mk' hb10 qb10 hB
    replace ho := ho.stp sw45 (fun x hx => ew45.block x (ho.lt x hx).2)
    replace h4 := h4.stp sw45 (ew45.block b4 h4.lt)
    replace h7 := h7.stp sw45 (ew45.block b7 h7.lt)
    replace hE := hE.trans sw45.below
    replace h2 := h2.stp sw45
    replace hk := hk.stp sw45
    replace hb := hb.stp sw45
    replace hyx := Rep.stp hyx sw45
    replace hkx := hkx.stp sw45
    replace hatx := hatx.stp sw45
    replace hsub := fun b h => sw45.sub b (hsub b h)
    replace hlow := sw45.low
    replace hB := Nat.le_trans hB sw45.upd.1
    refine ⟨hS, ?_⟩
    refine a_one 10 rfl (by kernel_rfl) (o_slt tbOk hb rfl rfl (j := min (1 + pszs (t.kids.take i)) b.length) (by split <;> omega) (by omega) rfl rfl rfl rfl rfl rfl ?_)
    intro bv2 hb2
    replace hb2 : Sl (Rw.Add M1 b10) w45 bv2 (b.drop (1 + pszs (t.kids.take i))) := by
      by_cases h : 1 + pszs (t.kids.take i) ≤ b.length
      · rwa [Nat.min_eq_left h] at hb2
      · rw [Nat.min_eq_right (by omega)] at hb2
        rwa [List.drop_eq_nil_of_le (show b.length ≤ 1 + pszs (t.kids.take i) by omega), ← List.drop_eq_nil_of_le (Nat.le_refl b.length)]
    rw [← List.drop_drop] at hb2
    refine ⟨hS, ?_⟩
    refine a_one 11 rfl (by kernel_rfl) (o_call fo55 rfl rfl rfl (ih _ (List.getElem_mem hik) _ _ _ _ _ hyx hb2 hlow (by omega)) ?_)
    rintro _ w46 ⟨⟨vc, rfl, hc⟩, ew46⟩
    replace hS := hS.then ew46
    replace ho := ho.ext hlow hB ew46
    replace h4 := h4.ext hlow hB ew46
    replace h7 := h7.ext hlow hB ew46
    replace h10 := h10.ext hlow hB ew46
    replace hE := hE.trans (Below.mono ew46 hB)
    replace h2 := h2.ext ew46
    replace hk := hk.ext ew46
    replace hb := hb.ext ew46
    replace hyx := Rep.ext hyx ew46
    replace hkx := hkx.ext ew46
    replace hatx := hatx.ext ew46
    replace hb2 := hb2.ext ew46
    replace hlow := hlow.ext ew46
    replace hB := Nat.le_trans hB ew46.size
    refine ⟨hS, ?_⟩
    obtain ⟨kvc, rfl, opc, nmc, n64c, hkc⟩ := ty_open hc
    refine a_p 12 tbOk rfl rfl rfl rfl (by kernel_rfl) (fun _ _ _ h => h) hS ?_
    refine a_p 13 tbOk rfl rfl rfl rfl (by kernel_rfl) (fun _ _ _ h => h) hS ?_
    refine a_p 14 tbOk rfl rfl rfl rfl (by kernel_rfl) (fun _ _ _ h => h) hS ?_
    refine a_one 16 rfl (by kernel_rfl) (o_st tbOk h10.box rfl rfl rfl rfl (Rep.one hc) rfl rfl ?_)
    intro w47 hw47 qw47 bew47
    have uw47 : UpdB _ _ _ := ⟨qw47, bew47⟩
    have sw47 := uw47.stp h10.inM hlow h10.ge
    have frw47 := qw47.2
    replace hS := Below.trans hS (bew47 _ gS_b10)
    replace ho := ho.stp sw47 (fun x hx => frw47 x (ho.lt x hx).2 (d_ho_h10 x hx))
    replace h4 := h4.stp sw47 (frw47 b4 h4.lt ne_h4_h10)
    replace h7 := h7.stp sw47 (frw47 b7 h7.lt ne_h7_h10)
    replace hE := hE.trans sw47.below
    replace h2 := h2.stp sw47
    replace hk := hk.stp sw47
    replace hb := hb.stp sw47
    replace hyx := Rep.stp hyx sw47
    replace hkx := hkx.stp sw47
    replace hatx := hatx.stp sw47
    replace hc := Rep.stp hc sw47
    replace hsub := fun b h => sw47.sub b (hsub b h)
    replace hlow := sw47.low
    replace hB := Nat.le_trans hB sw47.upd.1
    refine ⟨hS, ?_⟩
    replace h10 : MB w.heap.size _ w47 b10 _ [.int .u8 (loosF t.kids[i] ((b.drop 1).drop (pszs (t.kids.take i)))).op, .string (loosF t.kids[i] ((b.drop 1).drop (pszs (t.kids.take i)))).name, .int .i64 (loosF t.kids[i] ((b.drop 1).drop (pszs (t.kids.take i)))).n, kvc] := ⟨hw47, h10.inM, h10.ge⟩
    refine a_p 17 tbOk rfl rfl rfl rfl (by kernel_rfl) (fun _ _ _ h => h) hS ?_
    refine a_end (by kernel_rfl) ?_
    refine x_seq (q0 (l_p 1 tbOk rfl ?_))
    refine l_cons (o_ld tbOk (h7.cell 3 _ rfl) rfl rfl rfl rfl rfl ?_)
    refine l_cons (o_lds tbOk (fun j v hv => h10.cell j v hv) rfl rfl rfl rfl rfl rfl ?_)
    refine l_cons (o_bs tbOk rfl rfl rfl rfl rfl rfl rfl (sz1 (Rep.size hc)) rfl rfl rfl ?_)
    intro bw48 w48 qbw48 ew48 hbw48
    have nbw48 := nM_of hlow qbw48
    replace ho := ho.ext hlow hB ew48
    replace h4 := h4.ext hlow hB ew48
    replace h7 := h7.ext hlow hB ew48
    replace h10 := h10.ext hlow hB ew48
    replace hE := hE.trans (Below.mono ew48 hB)
    replace h2 := h2.ext ew48
    replace hk := hk.ext ew48
    replace hb := hb.ext ew48
    replace hyx := Rep.ext hyx ew48
    replace hkx := hkx.ext ew48
    replace hatx := hatx.ext ew48
    replace hc := Rep.ext hc ew48
    replace hlow := hlow.ext ew48
    replace hB := Nat.le_trans hB ew48.size
    refine l_cons (o_app1 tbOk ho hbw48 nbw48 hc hlow hB rfl rfl rfl rfl rfl rfl rfl (by rw [List.length_take, loosK_len]; omega) (by show (_ + _) * 56 ≤ _; rw [List.length_take, loosK_len]; omega) rfl rfl ?_)
    intro vw49 w49 Mw49 hw49 sw49 frw49 blw49
    have zd_ho_h4 := d_ho_h4
    replace d_ho_h4 : ∀ x, (vw49 : Value).ownBlock = some x → x ≠ b4 := fun x hx => (blw49 x hx).elim (d_ho_h4 x) (fun h e => by have := h4.lt; omega)
    have zd_ho_h7 := d_ho_h7
    replace d_ho_h7 : ∀ x, (vw49 : Value).ownBlock = some x → x ≠ b7 := fun x hx => (blw49 x hx).elim (d_ho_h7 x) (fun h e => by have := h7.lt; omega)
    have zd_ho_h10 := d_ho_h10
    replace d_ho_h10 : ∀ x, (vw49 : Value).ownBlock = some x → x ≠ b10 := fun x hx => (blw49 x hx).elim (d_ho_h10 x) (fun h e => by have := h10.lt; omega)
    replace h4 := h4.stp sw49 (frw49 b4 h4.lt (fun e => zd_ho_h4 _ e.symm rfl))
    replace h7 := h7.stp sw49 (frw49 b7 h7.lt (fun e => zd_ho_h7 _ e.symm rfl))
    replace h10 := h10.stp sw49 (frw49 b10 h10.lt (fun e => zd_ho_h10 _ e.symm rfl))
    replace hE := hE.trans sw49.below
    replace h2 := h2.stp sw49
    replace hk := hk.stp sw49
    replace hb := hb.stp sw49
    replace hyx := Rep.stp hyx sw49
    replace hkx := hkx.stp sw49
    replace hatx := hatx.stp sw49
    replace hc := Rep.stp hc sw49
    replace hsub := fun b h => sw49.sub b (hsub b h)
    replace hlow := sw49.low
    replace hB := Nat.le_trans hB sw49.upd.1
    replace ho := hw49
    clear hw49
    refine l_p 1 tbOk rfl ?_
    obtain ⟨av6, cv6, rfl, _⟩ := ho.val
    refine l_cons (o_st tbOk h7.box rfl rfl rfl rfl (by simp [Value.cells, Value.oneCell']) rfl rfl ?_)
    intro w50 hw50 qw50 bew50
    have uw50 : UpdB _ _ _ := ⟨qw50, bew50⟩
    have sw50 := uw50.stp h7.inM hlow h7.ge
    have frw50 := qw50.2
    replace ho := ho.stp sw50 (fun x hx => frw50 x (ho.lt x hx).2 (d_ho_h7 x hx))
    replace h4 := h4.stp sw50 (frw50 b4 h4.lt ne_h4_h7)
    replace h10 := h10.stp sw50 (frw50 b10 h10.lt ne_h7_h10.symm)
    replace hE := hE.trans sw50.below
    replace h2 := h2.stp sw50
    replace hk := hk.stp sw50
    replace hb := hb.stp sw50
    replace hyx := Rep.stp hyx sw50
    replace hkx := hkx.stp sw50
    replace hatx := hatx.stp sw50
    replace hc := Rep.stp hc sw50
    replace hsub := fun b h => sw50.sub b (hsub b h)
    replace hlow := sw50.low
    replace hB := Nat.le_trans hB sw50.upd.1
    replace h7 : MB w.heap.size _ w50 b7 _ [.int .u8 t.op, .string t.name, .int .i64 t.n, (.slice av6 ((loosK t.kids (b.drop 1)).take i ++ [loosF t.kids[i] ((b.drop 1).drop (pszs (t.kids.take i)))]).length cv6)] := ⟨hw50, h7.inM, h7.ge⟩
    refine q1 (c_reg (l_p 2 tbOk rfl ?_))
    refine l_cons (o_ar rfl rfl rfl (IntWalk.i64_in _ (by omega)) rfl rfl ?_)
    refine l_p 1 tbOk rfl (q2 (x_seq (c_reg (l_p 1 tbOk rfl ?_))))
    refine l_cons (o_ar rfl rfl rfl (IntWalk.i64_in _ (by omega)) rfl rfl ?_)
    refine l_p 1 tbOk rfl (l_nil ?_)
    exact x_round3 (i + 1) ((.slice av6 ((loosK t.kids (b.drop 1)).take i ++ [loosF t.kids[i] ((b.drop 1).drop (pszs (t.kids.take i)))]).length cv6)) (Mw49) (s7 rfl rfl (get_num rfl (by rw [pszs_take hik]; omega)) rfl rfl rfl (get_num rfl (by omega))) ⟨by omega, by rw [take_loosK hik]; exact ho, h4, h7, h2, d_ho_h4, d_ho_h7, hk, hb, hlow, hsub, hE, hB⟩ (by omega)
  refine c_exit (x_seqE (x_seqE (x_blkE (x_seq (q0 ?_)))))
  refine l_cons (o_lds tbOk (fun j v hv => h7.cell j v hv) rfl rfl rfl rfl rfl rfl ?_)
  refine l_p 1 tbOk rfl ?_
  obtain rfl : i = t.kids.length := by omega
  rw [List.take_of_length_le (Nat.le_of_eq (loosK_len _ _))] at ho
  obtain ⟨av, cv, rfl, hcv⟩ := ho.val
  have hml : (loosK t.kids (b.drop 1)).length = t.kids.length := loosK_len _ _
  refine l_cons (o_st tbOk h4.box rfl rfl rfl rfl (by intro u hu; simp [Value.cells] at hu; rcases hu with rfl | rfl | rfl | rfl <;> rfl) rfl rfl ?_)
  intro w51 hw51 qw51 bew51
  have uw51 : UpdB _ _ _ := ⟨qw51, bew51⟩
  have sw51 := uw51.stp h4.inM hlow h4.ge
  have frw51 := qw51.2
  replace ho := ho.stp sw51 (fun x hx => frw51 x (ho.lt x hx).2 (d_ho_h4 x hx))
  replace h7 := h7.stp sw51 (frw51 b7 h7.lt ne_h4_h7.symm)
  replace hE := hE.trans sw51.below
  replace h2 := h2.stp sw51
  replace hk := hk.stp sw51
  replace hb := hb.stp sw51
  replace hsub := fun b h => sw51.sub b (hsub b h)
  replace hlow := sw51.low
  replace hB := Nat.le_trans hB sw51.upd.1
  replace h4 : MB w.heap.size _ w51 b4 _ [.int .u8 t.op, .string t.name, .int .i64 t.n, .slice av (loosK t.kids (b.drop 1)).length cv] := ⟨hw51, h4.inM, h4.ge⟩
  refine l_p 1 tbOk rfl (q1 (c_ret ?_))
  refine x_ret2st tbOk (fun j v hv => h4.cell j v hv) rfl rfl rfl rfl rfl rfl ?_
  have hfin := ty_mk op nm n64 (ho.sl (by omega) hlow0 hsub)
  rw [← loos_even hod] at hfin
  exact ⟨⟨_, rfl, hfin⟩, hE⟩

end Go.Proofs.Ytpoahmeacjggfaa
