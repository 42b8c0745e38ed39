/- Part 5 of the proof: rules, plain laws and walks, merged out of smaller texts. -/
import Derived.Test.YtpoahmeacjggfaaQ4
namespace Go.Proofs.Ytpoahmeacjggfaa
open Go Rw Go.RowKit
set_option maxRecDepth 100000
theorem put_own : ∀ (t : Ty) (n : Int) (row : Bool) (s : Ty) (M : Nat → Prop) (w : World) (B : Nat) (v u : Value) (F : Nat → Prop), OTy 25 B w t v F → (∀ c, F c → M c) → Rep.R M w u s → Low M w → B ≤ w.heap.size → psz s ≤ 2000000 → Calls Try.prog 71 #[v, .agg #[.int .i64 n, .bool row], u] w (Ret fun r w' => ∃ M' F', OTy 25 B w' (putF (varOp row) n s t) r F' ∧ (∀ c, F' c → M' c ∧ (F c ∨ w.heap.size ≤ c)) ∧ Stp B M M' w w' ∧ Kept w w' (Out F w)) := by
 refine Ty.ind fun t ih => ?_
 intro n row s M w B v u F ht hF hs Lw hB hzs
 have hT : Stp B M M w w := Stp.refl Lw
 have hfr : Kept w w (Out F w) := Kept.refl (fun x hx => hx.1)
 obtain ⟨kv, us, H, rfl, op, nm, n64, hkn, hr, hO, hH⟩ := oty_open ht
 have hkF := hr.inM
 replace hr := hr.keepV (M' := M) (fun b hb => hF b (hr.inM b hb)) (fun _ _ _ _ _ => rfl)
 have hF1 : ∀ c, H c → M c := fun c hc => hF c (hH c hc).1
 have hFn : ∀ c, H c → F c ∨ w.heap.size ≤ c := fun c hc => .inl (hH c hc).1
 have hul := hO.len
 have dd_hr_hO : ∀ x y, kv.ownBlock = some x → H y → x ≠ y := fun x y hx hy e => (hH y hy).2 (e ▸ hx)
 have dd_hr_hfr : ∀ x y, kv.ownBlock = some x → Out F w y → x ≠ y := fun x y hx hy e => hy.2 (e ▸ hkF x hx)
 obtain ⟨kvs, rfl, ops, nms, n64s, hks⟩ := tO hs
 refine cN (n := 53) Try.func71 rfl rfl rfl ?_
 refine q0 ?_
 refine lC (o_box rfl rfl rfl ?_)
 intro b3 w1 hb_b3 ew1 h3
 replace h3 : Box _ b3 25 [.int .u8 t.op, .string t.name, .int .i64 t.n, kv] := h3
 replace h3 := h3.at (nO Lw hb_b3)
 replace hT := hT.then (Stp.Y ew1 Lw hB)
 replace hr := hr.Y Lw hB ew1
 replace hO := hO.Y Lw hB ew1
 replace hfr := hfr.Y Lw hB ew1
 replace hs := Rep.Y hs ew1
 replace hks := hks.Y ew1
 replace Lw := Lw.Y ew1
 replace hB := ew1.z hB
 refine lC (o_box rfl rfl rfl ?_)
 intro b4 w2 hb_b4 ew2 h4
 replace h4 : Box _ b4 77 [.int .i64 n, .bool row] := h4
 replace h4 := h4.at (nO Lw hb_b4)
 replace hT := hT.then (Stp.Y ew2 Lw hB)
 replace hr := hr.Y Lw hB ew2
 replace hO := hO.Y Lw hB ew2
 replace hfr := hfr.Y Lw hB ew2
 replace hs := Rep.Y hs ew2
 replace hks := hks.Y ew2
 replace h3 := h3.Y ew2
 replace Lw := Lw.Y ew2
 replace hB := ew2.z hB
 refine lC (o_box rfl rfl rfl ?_)
 intro b5 w3 hb_b5 ew3 h5
 replace h5 : Box _ b5 25 [.int .u8 s.op, .string s.name, .int .i64 s.n, kvs] := h5
 replace h5 := h5.at (nO Lw hb_b5)
 replace hT := hT.then (Stp.Y ew3 Lw hB)
 replace hr := hr.Y Lw hB ew3
 replace hO := hO.Y Lw hB ew3
 replace hfr := hfr.Y Lw hB ew3
 replace hs := Rep.Y hs ew3
 replace hks := hks.Y ew3
 replace h3 := h3.Y ew3
 replace h4 := h4.Y ew3
 replace Lw := Lw.Y ew3
 replace hB := ew3.z hB
 refine lC (o_new tK rfl rfl rfl ?_)
 intro b6 w4 qb6 ew4 hb6
 have d_hr_h6 : ∀ x, (kv : Value).ownBlock = some x → x ≠ b6 := fun x hx => by have := (hr.lt x hx).2; omega
 have d_hO_h6 : ∀ x, H x → x ≠ b6 := fun x hx => by have := (hO.lt x hx).2; omega
 have d_hfr_h6 : ∀ x, (Out F w) x → x ≠ b6 := fun x hx => by have := (hfr.lt x hx).2; omega
 have sw4 := Stp.add ew4 Lw hB (lQ qb6.symm) hb6.lt
 have h6 : MB B (Rw.Add M b6) w4 b6 25 [.int .u8 0, .string ⟨#[]⟩, .int .i64 0, .slice none 0 0] := MB.mk' hb6 qb6 hB
 replace hT := hT.then sw4
 replace hr := hr.sp sw4 (fun x hx => ew4.block x (hr.lt x hx).2)
 replace hO := hO.sp sw4 (fun x hx => ew4.block x (hO.lt x hx).2)
 replace hfr := hfr.sp sw4 (fun x hx => ew4.block x (hfr.lt x hx).2)
 replace hs := Rep.sp hs sw4
 replace hks := hks.sp sw4
 replace h3 := h3.sp sw4
 replace h4 := h4.sp sw4
 replace h5 := h5.sp sw4
 replace hF1 := fun b h => sw4.sub b (hF1 b h)
 replace Lw := sw4.low
 replace hB := sw4.z hB
 refine q1 (cS (q0 (lP 1 tK rfl ?_)))
 refine lC (oD tK (h3.cell 2 _ rfl) rfl rfl rfl rfl rfl ?_)
 refine lP 1 tK rfl ?_
 refine lC (oD tK (h4.cell 0 _ rfl) rfl rfl rfl rfl rfl ?_)
 refine lP 2 tK rfl ?_
 refine lS 14 _ rfl (fun c1 => ?_) (fun c1 => ?_)
 ·refine lP 1 tK rfl ?_
  refine lC (oD tK (h3.cell 0 _ rfl) rfl rfl rfl rfl rfl ?_)
  refine lP 2 tK rfl ?_
  refine lS 18 _ rfl (fun c2 => ?_) (fun c2 => ?_)
  ·refine lP 1 tK rfl ?_
   refine lC (oD tK (h4.cell 1 _ rfl) rfl rfl rfl rfl rfl ?_)
   refine lP 3 tK rfl ?_
   refine l_splitB 23 _ rfl (fun c3 => ?_) (fun c3 => ?_)
   ·refine lP 9 tK rfl (q1 (cI rfl (q0 ?_)))
    refine lC (oL tK (fun j v hv => h5.cell j v hv) rfl rfl rfl rfl rfl rfl ?_)
    refine lC (oK fo67 rfl rfl rfl (copied_own s _ _ _ hs Lw hzs) ?_)
    rintro vc w5 ⟨hc, ew5⟩
    replace hc := hc.ge hB
    have hGl : ∀ c, Plus NoM w4 w5 c → w4.heap.size ≤ c := fun c h => h.elim (fun h => h.elim) (fun h => h.1)
    have l_h6 := h6.lt
    have hsz0 := hT.upd.1
    replace hT := hT.then (Stp.Y ew5 Lw hB)
    replace hr := hr.Y Lw hB ew5
    replace hO := hO.Y Lw hB ew5
    replace hfr := hfr.Y Lw hB ew5
    replace h6 := h6.Y Lw hB ew5
    replace hs := Rep.Y hs ew5
    replace hks := hks.Y ew5
    replace h3 := h3.Y ew5
    replace h4 := h4.Y ew5
    replace h5 := h5.Y ew5
    replace Lw := Lw.Y ew5
    replace hB := ew5.z hB
    generalize Plus NoM w4 w5 = G at hc hGl
    have d_hc_h6 : ∀ x, G x → x ≠ b6 := fun x hx => by have := hGl x hx; omega
    obtain ⟨kvc, usc, Hc, rfl, opc, nmc, n64c, hknc, hrc, hOc, hHc⟩ := oty_open hc
    refine lC (o_st tK h6.box rfl rfl rfl rfl hc.one rfl rfl ?_)
    intro w6 hw6 qw6 bew6
    have uw6 : UpdB _ _ _ := ⟨qw6, bew6⟩
    have sw6 := uw6.sp h6.inM Lw h6.ge
    have frw6 := qw6.2
    replace hT := hT.then sw6
    replace hr := hr.sp sw6 (fun x hx => frw6 x (hr.lt x hx).2 (d_hr_h6 x hx))
    replace hO := hO.sp sw6 (fun x hx => frw6 x (hO.lt x hx).2 (d_hO_h6 x hx))
    replace hfr := hfr.sp sw6 (fun x hx => frw6 x (hfr.lt x hx).2 (d_hfr_h6 x hx))
    replace hc := hc.sp sw6 (fun x hx => frw6 x (hc.lt x hx).2 (d_hc_h6 x hx))
    replace hs := Rep.sp hs sw6
    replace hks := hks.sp sw6
    replace h3 := h3.sp sw6
    replace h4 := h4.sp sw6
    replace h5 := h5.sp sw6
    replace hF1 := fun b h => sw6.sub b (hF1 b h)
    replace Lw := sw6.low
    replace hB := sw6.z hB
    replace h6 : MB B _ w6 b6 _ [.int .u8 s.op, .string s.name, .int .i64 s.n, kvc] := ⟨hw6, h6.inM, h6.ge⟩
    refine q1 (cR (xR ?_))
    refine x_ret1s tK (fun j v hv => h6.cell j v hv) rfl rfl rfl rfl rfl ?_
    have hit : t.n = n ∧ t.op = varOp row := by clear ih; cases row <;> simp_all [varOp]
    refine ⟨_, G, by rw [put_hit hit.1 hit.2]; exact hc, fun c hc' => ⟨.inr hc', .inr (by have := hGl c hc'; omega)⟩, hT.more (fun c hc' => ⟨by have := hGl c hc'; omega, (hc.lt c hc').2⟩), hfr⟩
   refine lP 1 tK rfl ?_
   refine lC (oD tK (h3.cell 0 _ rfl) rfl rfl rfl rfl rfl ?_)
   refine lP 2 tK rfl ?_
   refine lS 27 _ rfl (fun c4 => ?_) (fun c4 => ?_)
   ·refine lP 1 tK rfl ?_
    refine lC (oD tK (h4.cell 1 _ rfl) rfl rfl rfl rfl rfl ?_)
    refine lP 3 tK rfl (q1 ?_)
    refine c_if _ rfl (fun c5 => ?_) (fun c5 => ?_)
    ·refine q0 ?_
     refine lC (oL tK (fun j v hv => h5.cell j v hv) rfl rfl rfl rfl rfl rfl ?_)
     refine lC (oK fo67 rfl rfl rfl (copied_own s _ _ _ hs Lw hzs) ?_)
     rintro vc w7 ⟨hc, ew7⟩
     replace hc := hc.ge hB
     have hGl : ∀ c, Plus NoM w4 w7 c → w4.heap.size ≤ c := fun c h => h.elim (fun h => h.elim) (fun h => h.1)
     have l_h6 := h6.lt
     have hsz0 := hT.upd.1
     replace hT := hT.then (Stp.Y ew7 Lw hB)
     replace hr := hr.Y Lw hB ew7
     replace hO := hO.Y Lw hB ew7
     replace hfr := hfr.Y Lw hB ew7
     replace h6 := h6.Y Lw hB ew7
     replace hs := Rep.Y hs ew7
     replace hks := hks.Y ew7
     replace h3 := h3.Y ew7
     replace h4 := h4.Y ew7
     replace h5 := h5.Y ew7
     replace Lw := Lw.Y ew7
     replace hB := ew7.z hB
     generalize Plus NoM w4 w7 = G at hc hGl
     have d_hc_h6 : ∀ x, G x → x ≠ b6 := fun x hx => by have := hGl x hx; omega
     obtain ⟨kvc, usc, Hc, rfl, opc, nmc, n64c, hknc, hrc, hOc, hHc⟩ := oty_open hc
     refine lC (o_st tK h6.box rfl rfl rfl rfl hc.one rfl rfl ?_)
     intro w8 hw8 qw8 bew8
     have uw8 : UpdB _ _ _ := ⟨qw8, bew8⟩
     have sw8 := uw8.sp h6.inM Lw h6.ge
     have frw8 := qw8.2
     replace hT := hT.then sw8
     replace hr := hr.sp sw8 (fun x hx => frw8 x (hr.lt x hx).2 (d_hr_h6 x hx))
     replace hO := hO.sp sw8 (fun x hx => frw8 x (hO.lt x hx).2 (d_hO_h6 x hx))
     replace hfr := hfr.sp sw8 (fun x hx => frw8 x (hfr.lt x hx).2 (d_hfr_h6 x hx))
     replace hc := hc.sp sw8 (fun x hx => frw8 x (hc.lt x hx).2 (d_hc_h6 x hx))
     replace hs := Rep.sp hs sw8
     replace hks := hks.sp sw8
     replace h3 := h3.sp sw8
     replace h4 := h4.sp sw8
     replace h5 := h5.sp sw8
     replace hF1 := fun b h => sw8.sub b (hF1 b h)
     replace Lw := sw8.low
     replace hB := sw8.z hB
     replace h6 : MB B _ w8 b6 _ [.int .u8 s.op, .string s.name, .int .i64 s.n, kvc] := ⟨hw8, h6.inM, h6.ge⟩
     refine q1 (cR (xR ?_))
     refine x_ret1s tK (fun j v hv => h6.cell j v hv) rfl rfl rfl rfl rfl ?_
     have hit : t.n = n ∧ t.op = varOp row := by clear ih; cases row <;> simp_all [varOp]
     refine ⟨_, G, by rw [put_hit hit.1 hit.2]; exact hc, fun c hc' => ⟨.inr hc', .inr (by have := hGl c hc'; omega)⟩, hT.more (fun c hc' => ⟨by have := hGl c hc'; omega, (hc.lt c hc').2⟩), hfr⟩
    refine cK (xS (cS (q0 (lP 1 tK rfl ?_))))
    refine lC (oD tK (h3.cell 3 _ rfl) rfl rfl rfl rfl rfl ?_)
    refine lC (o_lenO tK hr rfl rfl rfl rfl rfl ?_)
    refine lP 1 tK rfl (q1 (cB ?_))
    refine c_loop4 (X := Nat) (Y := List (VN 3)) (Z := Nat → Prop) (U := Nat → Prop) (fun i us M1 F1 => [(3, .pointer (some ⟨b3, 0, none⟩)), (4, .pointer (some ⟨b4, 0, none⟩)), (5, .pointer (some ⟨b5, 0, none⟩)), (6, .pointer (some ⟨b6, 0, none⟩)), (36, kv), (37, .int .i64 (t.kids.length : Int)), (38, .int .i64 (i : Nat))]) (fun i us M1 F1 w' => i ≤ t.kids.length ∧ OwnSl 25 B M1 w' kv us ∧ OTs 25 B w' us (mapTo (putF (varOp row) n s) t.kids i) F1 ∧ (∀ c, F1 c → M1 c) ∧ (∀ c, F1 c → F c ∨ w.heap.size ≤ c) ∧ Kept w w' (Out F w) ∧ Stp B M M1 w w' ∧ Low M1 w' ∧ B ≤ w'.heap.size ∧ MB B M1 w' b6 25 [.int .u8 0, .string ⟨#[]⟩, .int .i64 0, .slice none 0 0] ∧ At M1 w' b3 0 [.int .u8 t.op, .string t.name, .int .i64 t.n, kv] ∧ At M1 w' b4 0 [.int .i64 n, .bool row] ∧ At M1 w' b5 0 [.int .u8 s.op, .string s.name, .int .i64 s.n, kvs] ∧ Rep.R M1 w' (.agg #[.int .u8 s.op, .string s.name, .int .i64 s.n, kvs]) s ∧ (∀ x y, (kv : Value).ownBlock = some x → F1 y → x ≠ y) ∧ (∀ x y, (kv : Value).ownBlock = some x → (Out F w) y → x ≠ y) ∧ (∀ x, (kv : Value).ownBlock = some x → x ≠ b6) ∧ (∀ x, F1 x → x ≠ b6) ∧ (∀ x, (Out F w) x → x ≠ b6)) (fun i us M1 F1 => t.kids.length - i) (0) (us) ((Rw.Add M b6)) (H) (s7 rfl rfl rfl rfl rfl (gN rfl (by omega)) rfl) ?_ ?_
    ·refine ⟨Nat.zero_le _, ?_⟩
     rw [mapTo_zero]
     exact ⟨hr, hO, hF1, hFn, hfr, hT, Lw, hB, h6, h3, h4, h5, hs, dd_hr_hO, dd_hr_hfr, d_hr_h6, d_hO_h6, d_hfr_h6⟩
    clear hF1 hFn hfr hT dd_hr_hO dd_hr_hfr d_hr_h6 d_hO_h6 d_hfr_h6 hul
    rintro i us M1 F1 w9 ⟨hi, hr, hO, hF1, hFn, hfr, hT, Lw, hB, h6, h3, h4, h5, hs, dd_hr_hO, dd_hr_hfr, d_hr_h6, d_hO_h6, d_hfr_h6⟩
    have hul := hO.len
    rw [mapTo_len] at hul
    refine q0 (lP 1 tK rfl (q1 (cS ?_)))
    refine cP _ rfl (fun c6 => ?_) (fun c6 => ?_)
    ·refine cK (xS (cS (cB (q0 (lP 1 tK rfl ?_)))))
     have hik : i < t.kids.length := by omega
     obtain ⟨⟨uv⟩, G, hui, hx, hGF, hOh⟩ := hO.take (mapTo_get hik)
     refine lC (o_ixO tK hr hui rfl rfl rfl rfl rfl rfl rfl rfl rfl ?_)
     intro ebx eux hobx hRx hX
     obtain ⟨e0, _⟩ := hRx
     replace e0 : eux = uv := e0
     subst e0
     obtain ⟨kvx, usx, Hx, rfl, opx, nmx, n64x, hknx, hrx, hOx, hHx⟩ := oty_open hx
     replace hX : OAt _ _ _ [.int .u8 t.kids[i].op, .string t.kids[i].name, .int .i64 t.kids[i].n, kvx] := hX
     refine lC (oL tK (fun j v hv => hX.cell j v hv) rfl rfl rfl rfl rfl rfl ?_)
     refine lC (o_new tK rfl rfl rfl ?_)
     intro b8 w10 qb8 ew10 hb8
     have nb8 := nO Lw qb8
     refine lP 1 tK rfl ?_
     refine lC (o_st tK hb8 rfl rfl rfl rfl hx.one rfl rfl ?_)
     intro w11 h8 uw11 bew11
     have ew11 : Ext w9 w11 := ew10.trans (bew11 _ (lQ qb8.symm))
     replace hT := hT.then (Stp.Y ew11 Lw hB)
     replace hr := hr.Y Lw hB ew11
     replace hfr := hfr.Y Lw hB ew11
     replace h6 := h6.Y Lw hB ew11
     replace hOh := hOh.Y Lw hB ew11
     replace hx := hx.Y Lw hB ew11
     replace h3 := h3.Y ew11
     replace h4 := h4.Y ew11
     replace h5 := h5.Y ew11
     replace hs := Rep.Y hs ew11
     replace Lw := Lw.Y ew11
     replace hB := ew11.z hB
     replace h8 : Box w11 b8 25 [.int .u8 t.kids[i].op, .string t.kids[i].name, .int .i64 t.kids[i].n, kvx] := h8
     replace h8 := h8.at nb8
     refine q1 ?_
     refine a_beg (Sof B M1) rfl ?_
     intro w12 ew12
     replace hT := hT.then (Stp.Y ew12 Lw hB)
     replace hr := hr.Y Lw hB ew12
     replace hfr := hfr.Y Lw hB ew12
     replace h6 := h6.Y Lw hB ew12
     replace hOh := hOh.Y Lw hB ew12
     replace hx := hx.Y Lw hB ew12
     replace h3 := h3.Y ew12
     replace h4 := h4.Y ew12
     replace h5 := h5.Y ew12
     replace hs := Rep.Y hs ew12
     replace h8 := h8.Y ew12
     replace Lw := Lw.Y ew12
     replace hB := ew12.z hB
     have hS : Stp B M1 M1 w12 w12 := Stp.refl Lw
     have D_h6 := h6.box
     have D_h3 := h3
     have D_h4 := h4
     have D_h5 := h5
     have D_h8 := h8
     refine a_p 0 tK rfl rfl rfl rfl (by kernel_rfl) i3 ⟨_, hS⟩ ?_
     refine a_ld 1 tK (fun _ hs => (D_h3.so hs).cell 3 _ rfl) rfl rfl rfl rfl rfl rfl (by kernel_rfl) i3 ⟨_, hS⟩ ?_
     refine a_p 2 tK rfl rfl rfl rfl (by kernel_rfl) i3 ⟨_, hS⟩ ?_
     refine a_lds 3 tK (fun _ hs j v hv => (D_h8.so hs).cell j v hv) rfl rfl rfl rfl rfl rfl rfl (by kernel_rfl) i3 ⟨_, hS⟩ ?_
     refine a_lds 4 tK (fun _ hs j v hv => (D_h4.so hs).cell j v hv) rfl rfl rfl rfl rfl rfl rfl (by kernel_rfl) i3 ⟨_, hS⟩ ?_
     refine a_lds 5 tK (fun _ hs j v hv => (D_h5.so hs).cell j v hv) rfl rfl rfl rfl rfl rfl rfl (by kernel_rfl) i3 ⟨_, hS⟩ ?_
     have l_h6 := h6.lt
     have hsz0 := hT.upd.1
     have lH := hOh.lt
     have lr := hr.lt
     refine a_one 6 rfl (by kernel_rfl) (oK fo71 rfl rfl rfl (ih _ (gM hik) n row s _ _ B _ _ G hx (fun c hc => hF1 c (hGF c hc)) hs Lw hB hzs) ?_)
     rintro vq w13 ⟨Mw13, Fw13, hq, hq2, sw13, kw13⟩
     have frw13 : ∀ x, x < w12.heap.size → ¬ G x → w13.heap[x]? = w12.heap[x]? := fun x hx hg => kw13.blk x ⟨hx, hg⟩
     replace hT := hT.then sw13
     replace hS := hS.then sw13
     replace hr := hr.sp sw13 (fun x hx => frw13 x (hr.lt x hx).2 (fun g => dd_hr_hO x x hx (hGF x g) rfl))
     replace hfr := hfr.sp sw13 (fun x hx => frw13 x (hfr.lt x hx).2 (fun g => (hFn x (hGF x g)).elim hx.2 (fun h => by have := hx.1; have := hfr.size; omega)))
     replace h6 := h6.sp sw13 (frw13 b6 h6.lt (fun g => d_hO_h6 _ (hGF _ g) rfl))
     replace hOh := hOh.sp sw13 (fun c hc hn => frw13 c (hOh.lt c hc).2 hn)
     replace h3 := h3.sp sw13
     replace h4 := h4.sp sw13
     replace h5 := h5.sp sw13
     replace hs := Rep.sp hs sw13
     replace h8 := h8.sp sw13
     replace hF1 := fun b h => sw13.sub b (hF1 b h)
     replace Lw := sw13.low
     replace hB := sw13.z hB
     refine ⟨⟨_, hS⟩, ?_⟩
     have hO := hOh.put hq (fun c hc => (hq2 c hc).2.elim .inl (fun h => .inr (fun hf => by have := (lH c hf).2; omega)))
     replace hF1 : ∀ c, F1 c ∨ Fw13 c → Mw13 c := fun c h => h.elim (hF1 c) (fun h => (hq2 c h).1)
     replace dd_hr_hO : ∀ x y, kv.ownBlock = some x → (F1 y ∨ Fw13 y) → x ≠ y := fun x y hx hy => hy.elim (dd_hr_hO x y hx) (fun h => (hq2 y h).2.elim (fun g => dd_hr_hO x y hx (hGF y g)) (fun h => by have := (lr x hx).2; omega))
     replace d_hO_h6 : ∀ x, (F1 x ∨ Fw13 x) → x ≠ b6 := fun x hx => hx.elim (d_hO_h6 x) (fun h => (hq2 x h).2.elim (fun g => d_hO_h6 x (hGF x g)) (fun h => by have := l_h6; omega))
     replace hFn : ∀ c, (F1 c ∨ Fw13 c) → F c ∨ w.heap.size ≤ c := fun c hc => hc.elim (hFn c) (fun h => (hq2 c h).2.elim (fun g => hFn c (hGF c g)) (fun h => .inr (by have := hsz0; omega)))
     refine a_ixO 7 tK hr hui rfl rfl rfl rfl rfl rfl rfl rfl rfl rfl (by kernel_rfl) i4 ⟨_, hS⟩ ?_
     intro ebz euz hobz hRz hatz
     refine a_bar 8 rfl (by kernel_rfl) (by kernel_rfl) (o_stO tK hr hobz (by omega) hq.vn Lw rfl rfl rfl rfl rfl rfl ?_)
     intro w14 hw14 sw14 frw14
     replace hT := hT.then sw14
     replace hS := hS.then sw14
     replace hfr := hfr.sp sw14 (fun x hx => frw14 x (hfr.lt x hx).2 (fun e => dd_hr_hfr _ x hobz hx e.symm))
     replace h6 := h6.sp sw14 (frw14 b6 h6.lt (fun e => d_hr_h6 _ hobz e.symm))
     replace hO := hO.sp sw14 (fun x hx => frw14 x (hO.lt x hx).2 (fun e => dd_hr_hO _ x hobz hx e.symm))
     replace h3 := h3.sp sw14
     replace h4 := h4.sp sw14
     replace h5 := h5.sp sw14
     replace hs := Rep.sp hs sw14
     replace h8 := h8.sp sw14
     replace hF1 := fun b h => sw14.sub b (hF1 b h)
     replace Lw := sw14.low
     replace hB := sw14.z hB
     replace hr := hw14
     clear hw14
     refine a_end (by kernel_rfl) ?_
     refine x_blk (xS (cG ?_))
     refine lC (o_ai rfl rfl rfl (by omega) rfl rfl ?_)
     refine lP 1 tK rfl (lN ?_)
     exact x_round4 (i + 1) (us.set i ⟨vq⟩) (Mw13) ((fun c => F1 c ∨ Fw13 c)) (s7 rfl rfl rfl rfl rfl rfl rfl) ⟨by omega, hr, by rw [← mapTo_set hik]; exact hO, hF1, hFn, hfr, hT, Lw, hB, h6, h3, h4, h5, hs, dd_hr_hO, dd_hr_hfr, d_hr_h6, d_hO_h6, d_hfr_h6⟩ (by omega)
    refine c_exit (xE (xE (x_blkE (xS (q0 ?_)))))
    refine lC (oL tK (fun j v hv => h3.cell j v hv) rfl rfl rfl rfl rfl rfl ?_)
    refine lC (o_st tK h6.box rfl rfl rfl rfl (own_ones hr) rfl rfl ?_)
    intro w15 hw15 qw15 bew15
    have uw15 : UpdB _ _ _ := ⟨qw15, bew15⟩
    have sw15 := uw15.sp h6.inM Lw h6.ge
    have frw15 := qw15.2
    replace hT := hT.then sw15
    replace hr := hr.sp sw15 (fun x hx => frw15 x (hr.lt x hx).2 (d_hr_h6 x hx))
    replace hO := hO.sp sw15 (fun x hx => frw15 x (hO.lt x hx).2 (d_hO_h6 x hx))
    replace hfr := hfr.sp sw15 (fun x hx => frw15 x (hfr.lt x hx).2 (d_hfr_h6 x hx))
    replace h3 := h3.sp sw15
    replace h4 := h4.sp sw15
    replace h5 := h5.sp sw15
    replace hs := Rep.sp hs sw15
    replace hF1 := fun b h => sw15.sub b (hF1 b h)
    replace Lw := sw15.low
    replace hB := sw15.z hB
    replace h6 : MB B _ w15 b6 _ [.int .u8 t.op, .string t.name, .int .i64 t.n, kv] := ⟨hw15, h6.inM, h6.ge⟩
    refine q1 (cR ?_)
    refine x_ret1s tK (fun j v hv => h6.cell j v hv) rfl rfl rfl rfl rfl ?_
    have hno : ¬ (t.n = n ∧ t.op = varOp row) := by clear ih; cases row <;> simp_all [varOp]
    obtain rfl : i = t.kids.length := by omega
    rw [mapTo_all (lR _)] at hO
    refine ⟨_, fun c => kv.ownBlock = some c ∨ F1 c, ?_, fun c hc => hc.elim (fun h => ⟨hr.inM c h, .inl (hkF c h)⟩) (fun h => ⟨hF1 c h, hFn c h⟩), hT, hfr⟩
    rw [put_no hno]
    exact oty_mk op nm n64 (by simpa using hkn) (fun c hc => hc.elim (hr.lt c) (hO.lt c)) (hr.keepV (fun b hb => .inl hb) (fun _ _ _ _ _ => rfl)) hO (fun c hc => ⟨.inr hc, fun e => dd_hr_hO c c e hc rfl⟩)
   refine lP 5 tK rfl (q1 (c_ifF rfl (cK (xS (cS (q0 (lP 1 tK rfl ?_)))))))
   refine lC (oD tK (h3.cell 3 _ rfl) rfl rfl rfl rfl rfl ?_)
   refine lC (o_lenO tK hr rfl rfl rfl rfl rfl ?_)
   refine lP 1 tK rfl (q1 (cB ?_))
   refine c_loop4 (X := Nat) (Y := List (VN 3)) (Z := Nat → Prop) (U := Nat → Prop) (fun i us M1 F1 => [(3, .pointer (some ⟨b3, 0, none⟩)), (4, .pointer (some ⟨b4, 0, none⟩)), (5, .pointer (some ⟨b5, 0, none⟩)), (6, .pointer (some ⟨b6, 0, none⟩)), (36, kv), (37, .int .i64 (t.kids.length : Int)), (38, .int .i64 (i : Nat))]) (fun i us M1 F1 w' => i ≤ t.kids.length ∧ OwnSl 25 B M1 w' kv us ∧ OTs 25 B w' us (mapTo (putF (varOp row) n s) t.kids i) F1 ∧ (∀ c, F1 c → M1 c) ∧ (∀ c, F1 c → F c ∨ w.heap.size ≤ c) ∧ Kept w w' (Out F w) ∧ Stp B M M1 w w' ∧ Low M1 w' ∧ B ≤ w'.heap.size ∧ MB B M1 w' b6 25 [.int .u8 0, .string ⟨#[]⟩, .int .i64 0, .slice none 0 0] ∧ At M1 w' b3 0 [.int .u8 t.op, .string t.name, .int .i64 t.n, kv] ∧ At M1 w' b4 0 [.int .i64 n, .bool row] ∧ At M1 w' b5 0 [.int .u8 s.op, .string s.name, .int .i64 s.n, kvs] ∧ Rep.R M1 w' (.agg #[.int .u8 s.op, .string s.name, .int .i64 s.n, kvs]) s ∧ (∀ x y, (kv : Value).ownBlock = some x → F1 y → x ≠ y) ∧ (∀ x y, (kv : Value).ownBlock = some x → (Out F w) y → x ≠ y) ∧ (∀ x, (kv : Value).ownBlock = some x → x ≠ b6) ∧ (∀ x, F1 x → x ≠ b6) ∧ (∀ x, (Out F w) x → x ≠ b6)) (fun i us M1 F1 => t.kids.length - i) (0) (us) ((Rw.Add M b6)) (H) (s7 rfl rfl rfl rfl rfl (gN rfl (by omega)) rfl) ?_ ?_
   ·refine ⟨Nat.zero_le _, ?_⟩
    rw [mapTo_zero]
    exact ⟨hr, hO, hF1, hFn, hfr, hT, Lw, hB, h6, h3, h4, h5, hs, dd_hr_hO, dd_hr_hfr, d_hr_h6, d_hO_h6, d_hfr_h6⟩
   clear hF1 hFn hfr hT dd_hr_hO dd_hr_hfr d_hr_h6 d_hO_h6 d_hfr_h6 hul
   rintro i us M1 F1 w16 ⟨hi, hr, hO, hF1, hFn, hfr, hT, Lw, hB, h6, h3, h4, h5, hs, dd_hr_hO, dd_hr_hfr, d_hr_h6, d_hO_h6, d_hfr_h6⟩
   have hul := hO.len
   rw [mapTo_len] at hul
   refine q0 (lP 1 tK rfl (q1 (cS ?_)))
   refine cP _ rfl (fun c7 => ?_) (fun c7 => ?_)
   ·refine cK (xS (cS (cB (q0 (lP 1 tK rfl ?_)))))
    have hik : i < t.kids.length := by omega
    obtain ⟨⟨uv⟩, G, hui, hx, hGF, hOh⟩ := hO.take (mapTo_get hik)
    refine lC (o_ixO tK hr hui rfl rfl rfl rfl rfl rfl rfl rfl rfl ?_)
    intro ebx eux hobx hRx hX
    obtain ⟨e0, _⟩ := hRx
    replace e0 : eux = uv := e0
    subst e0
    obtain ⟨kvx, usx, Hx, rfl, opx, nmx, n64x, hknx, hrx, hOx, hHx⟩ := oty_open hx
    replace hX : OAt _ _ _ [.int .u8 t.kids[i].op, .string t.kids[i].name, .int .i64 t.kids[i].n, kvx] := hX
    refine lC (oL tK (fun j v hv => hX.cell j v hv) rfl rfl rfl rfl rfl rfl ?_)
    refine lC (o_new tK rfl rfl rfl ?_)
    intro b8 w17 qb8 ew17 hb8
    have nb8 := nO Lw qb8
    refine lP 1 tK rfl ?_
    refine lC (o_st tK hb8 rfl rfl rfl rfl hx.one rfl rfl ?_)
    intro w18 h8 uw18 bew18
    have ew18 : Ext w16 w18 := ew17.trans (bew18 _ (lQ qb8.symm))
    replace hT := hT.then (Stp.Y ew18 Lw hB)
    replace hr := hr.Y Lw hB ew18
    replace hfr := hfr.Y Lw hB ew18
    replace h6 := h6.Y Lw hB ew18
    replace hOh := hOh.Y Lw hB ew18
    replace hx := hx.Y Lw hB ew18
    replace h3 := h3.Y ew18
    replace h4 := h4.Y ew18
    replace h5 := h5.Y ew18
    replace hs := Rep.Y hs ew18
    replace Lw := Lw.Y ew18
    replace hB := ew18.z hB
    replace h8 : Box w18 b8 25 [.int .u8 t.kids[i].op, .string t.kids[i].name, .int .i64 t.kids[i].n, kvx] := h8
    replace h8 := h8.at nb8
    refine q1 ?_
    refine a_beg (Sof B M1) rfl ?_
    intro w19 ew19
    replace hT := hT.then (Stp.Y ew19 Lw hB)
    replace hr := hr.Y Lw hB ew19
    replace hfr := hfr.Y Lw hB ew19
    replace h6 := h6.Y Lw hB ew19
    replace hOh := hOh.Y Lw hB ew19
    replace hx := hx.Y Lw hB ew19
    replace h3 := h3.Y ew19
    replace h4 := h4.Y ew19
    replace h5 := h5.Y ew19
    replace hs := Rep.Y hs ew19
    replace h8 := h8.Y ew19
    replace Lw := Lw.Y ew19
    replace hB := ew19.z hB
    have hS : Stp B M1 M1 w19 w19 := Stp.refl Lw
    have D_h6 := h6.box
    have D_h3 := h3
    have D_h4 := h4
    have D_h5 := h5
    have D_h8 := h8
    refine a_p 0 tK rfl rfl rfl rfl (by kernel_rfl) i3 ⟨_, hS⟩ ?_
    refine a_ld 1 tK (fun _ hs => (D_h3.so hs).cell 3 _ rfl) rfl rfl rfl rfl rfl rfl (by kernel_rfl) i3 ⟨_, hS⟩ ?_
    refine a_p 2 tK rfl rfl rfl rfl (by kernel_rfl) i3 ⟨_, hS⟩ ?_
    refine a_lds 3 tK (fun _ hs j v hv => (D_h8.so hs).cell j v hv) rfl rfl rfl rfl rfl rfl rfl (by kernel_rfl) i3 ⟨_, hS⟩ ?_
    refine a_lds 4 tK (fun _ hs j v hv => (D_h4.so hs).cell j v hv) rfl rfl rfl rfl rfl rfl rfl (by kernel_rfl) i3 ⟨_, hS⟩ ?_
    refine a_lds 5 tK (fun _ hs j v hv => (D_h5.so hs).cell j v hv) rfl rfl rfl rfl rfl rfl rfl (by kernel_rfl) i3 ⟨_, hS⟩ ?_
    have l_h6 := h6.lt
    have hsz0 := hT.upd.1
    have lH := hOh.lt
    have lr := hr.lt
    refine a_one 6 rfl (by kernel_rfl) (oK fo71 rfl rfl rfl (ih _ (gM hik) n row s _ _ B _ _ G hx (fun c hc => hF1 c (hGF c hc)) hs Lw hB hzs) ?_)
    rintro vq w20 ⟨Mw20, Fw20, hq, hq2, sw20, kw20⟩
    have frw20 : ∀ x, x < w19.heap.size → ¬ G x → w20.heap[x]? = w19.heap[x]? := fun x hx hg => kw20.blk x ⟨hx, hg⟩
    replace hT := hT.then sw20
    replace hS := hS.then sw20
    replace hr := hr.sp sw20 (fun x hx => frw20 x (hr.lt x hx).2 (fun g => dd_hr_hO x x hx (hGF x g) rfl))
    replace hfr := hfr.sp sw20 (fun x hx => frw20 x (hfr.lt x hx).2 (fun g => (hFn x (hGF x g)).elim hx.2 (fun h => by have := hx.1; have := hfr.size; omega)))
    replace h6 := h6.sp sw20 (frw20 b6 h6.lt (fun g => d_hO_h6 _ (hGF _ g) rfl))
    replace hOh := hOh.sp sw20 (fun c hc hn => frw20 c (hOh.lt c hc).2 hn)
    replace h3 := h3.sp sw20
    replace h4 := h4.sp sw20
    replace h5 := h5.sp sw20
    replace hs := Rep.sp hs sw20
    replace h8 := h8.sp sw20
    replace hF1 := fun b h => sw20.sub b (hF1 b h)
    replace Lw := sw20.low
    replace hB := sw20.z hB
    refine ⟨⟨_, hS⟩, ?_⟩
    have hO := hOh.put hq (fun c hc => (hq2 c hc).2.elim .inl (fun h => .inr (fun hf => by have := (lH c hf).2; omega)))
    replace hF1 : ∀ c, F1 c ∨ Fw20 c → Mw20 c := fun c h => h.elim (hF1 c) (fun h => (hq2 c h).1)
    replace dd_hr_hO : ∀ x y, kv.ownBlock = some x → (F1 y ∨ Fw20 y) → x ≠ y := fun x y hx hy => hy.elim (dd_hr_hO x y hx) (fun h => (hq2 y h).2.elim (fun g => dd_hr_hO x y hx (hGF y g)) (fun h => by have := (lr x hx).2; omega))
    replace d_hO_h6 : ∀ x, (F1 x ∨ Fw20 x) → x ≠ b6 := fun x hx => hx.elim (d_hO_h6 x) (fun h => (hq2 x h).2.elim (fun g => d_hO_h6 x (hGF x g)) (fun h => by have := l_h6; omega))
    replace hFn : ∀ c, (F1 c ∨ Fw20 c) → F c ∨ w.heap.size ≤ c := fun c hc => hc.elim (hFn c) (fun h => (hq2 c h).2.elim (fun g => hFn c (hGF c g)) (fun h => .inr (by have := hsz0; omega)))
    refine a_ixO 7 tK hr hui rfl rfl rfl rfl rfl rfl rfl rfl rfl rfl (by kernel_rfl) i4 ⟨_, hS⟩ ?_
    intro ebz euz hobz hRz hatz
    refine a_bar 8 rfl (by kernel_rfl) (by kernel_rfl) (o_stO tK hr hobz (by omega) hq.vn Lw rfl rfl rfl rfl rfl rfl ?_)
    intro w21 hw21 sw21 frw21
    replace hT := hT.then sw21
    replace hS := hS.then sw21
    replace hfr := hfr.sp sw21 (fun x hx => frw21 x (hfr.lt x hx).2 (fun e => dd_hr_hfr _ x hobz hx e.symm))
    replace h6 := h6.sp sw21 (frw21 b6 h6.lt (fun e => d_hr_h6 _ hobz e.symm))
    replace hO := hO.sp sw21 (fun x hx => frw21 x (hO.lt x hx).2 (fun e => dd_hr_hO _ x hobz hx e.symm))
    replace h3 := h3.sp sw21
    replace h4 := h4.sp sw21
    replace h5 := h5.sp sw21
    replace hs := Rep.sp hs sw21
    replace h8 := h8.sp sw21
    replace hF1 := fun b h => sw21.sub b (hF1 b h)
    replace Lw := sw21.low
    replace hB := sw21.z hB
    replace hr := hw21
    clear hw21
    refine a_end (by kernel_rfl) ?_
    refine x_blk (xS (cG ?_))
    refine lC (o_ai rfl rfl rfl (by omega) rfl rfl ?_)
    refine lP 1 tK rfl (lN ?_)
    exact x_round4 (i + 1) (us.set i ⟨vq⟩) (Mw20) ((fun c => F1 c ∨ Fw20 c)) (s7 rfl rfl rfl rfl rfl rfl rfl) ⟨by omega, hr, by rw [← mapTo_set hik]; exact hO, hF1, hFn, hfr, hT, Lw, hB, h6, h3, h4, h5, hs, dd_hr_hO, dd_hr_hfr, d_hr_h6, d_hO_h6, d_hfr_h6⟩ (by omega)
   refine c_exit (xE (xE (x_blkE (xS (q0 ?_)))))
   refine lC (oL tK (fun j v hv => h3.cell j v hv) rfl rfl rfl rfl rfl rfl ?_)
   refine lC (o_st tK h6.box rfl rfl rfl rfl (own_ones hr) rfl rfl ?_)
   intro w22 hw22 qw22 bew22
   have uw22 : UpdB _ _ _ := ⟨qw22, bew22⟩
   have sw22 := uw22.sp h6.inM Lw h6.ge
   have frw22 := qw22.2
   replace hT := hT.then sw22
   replace hr := hr.sp sw22 (fun x hx => frw22 x (hr.lt x hx).2 (d_hr_h6 x hx))
   replace hO := hO.sp sw22 (fun x hx => frw22 x (hO.lt x hx).2 (d_hO_h6 x hx))
   replace hfr := hfr.sp sw22 (fun x hx => frw22 x (hfr.lt x hx).2 (d_hfr_h6 x hx))
   replace h3 := h3.sp sw22
   replace h4 := h4.sp sw22
   replace h5 := h5.sp sw22
   replace hs := Rep.sp hs sw22
   replace hF1 := fun b h => sw22.sub b (hF1 b h)
   replace Lw := sw22.low
   replace hB := sw22.z hB
   replace h6 : MB B _ w22 b6 _ [.int .u8 t.op, .string t.name, .int .i64 t.n, kv] := ⟨hw22, h6.inM, h6.ge⟩
   refine q1 (cR ?_)
   refine x_ret1s tK (fun j v hv => h6.cell j v hv) rfl rfl rfl rfl rfl ?_
   have hno : ¬ (t.n = n ∧ t.op = varOp row) := by clear ih; cases row <;> simp_all [varOp]
   obtain rfl : i = t.kids.length := by omega
   rw [mapTo_all (lR _)] at hO
   refine ⟨_, fun c => kv.ownBlock = some c ∨ F1 c, ?_, fun c hc => hc.elim (fun h => ⟨hr.inM c h, .inl (hkF c h)⟩) (fun h => ⟨hF1 c h, hFn c h⟩), hT, hfr⟩
   rw [put_no hno]
   exact oty_mk op nm n64 (by simpa using hkn) (fun c hc => hc.elim (hr.lt c) (hO.lt c)) (hr.keepV (fun b hb => .inl hb) (fun _ _ _ _ _ => rfl)) hO (fun c hc => ⟨.inr hc, fun e => dd_hr_hO c c e hc rfl⟩)
  refine lP 6 tK rfl ?_
  refine lC (oD tK (h3.cell 0 _ rfl) rfl rfl rfl rfl rfl ?_)
  refine lP 2 tK rfl ?_
  refine lS 27 _ rfl (fun c8 => ?_) (fun c8 => ?_)
  ·refine lP 1 tK rfl ?_
   refine lC (oD tK (h4.cell 1 _ rfl) rfl rfl rfl rfl rfl ?_)
   refine lP 3 tK rfl (q1 ?_)
   refine c_if _ rfl (fun c9 => ?_) (fun c9 => ?_)
   ·refine q0 ?_
    refine lC (oL tK (fun j v hv => h5.cell j v hv) rfl rfl rfl rfl rfl rfl ?_)
    refine lC (oK fo67 rfl rfl rfl (copied_own s _ _ _ hs Lw hzs) ?_)
    rintro vc w23 ⟨hc, ew23⟩
    replace hc := hc.ge hB
    have hGl : ∀ c, Plus NoM w4 w23 c → w4.heap.size ≤ c := fun c h => h.elim (fun h => h.elim) (fun h => h.1)
    have l_h6 := h6.lt
    have hsz0 := hT.upd.1
    replace hT := hT.then (Stp.Y ew23 Lw hB)
    replace hr := hr.Y Lw hB ew23
    replace hO := hO.Y Lw hB ew23
    replace hfr := hfr.Y Lw hB ew23
    replace h6 := h6.Y Lw hB ew23
    replace hs := Rep.Y hs ew23
    replace hks := hks.Y ew23
    replace h3 := h3.Y ew23
    replace h4 := h4.Y ew23
    replace h5 := h5.Y ew23
    replace Lw := Lw.Y ew23
    replace hB := ew23.z hB
    generalize Plus NoM w4 w23 = G at hc hGl
    have d_hc_h6 : ∀ x, G x → x ≠ b6 := fun x hx => by have := hGl x hx; omega
    obtain ⟨kvc, usc, Hc, rfl, opc, nmc, n64c, hknc, hrc, hOc, hHc⟩ := oty_open hc
    refine lC (o_st tK h6.box rfl rfl rfl rfl hc.one rfl rfl ?_)
    intro w24 hw24 qw24 bew24
    have uw24 : UpdB _ _ _ := ⟨qw24, bew24⟩
    have sw24 := uw24.sp h6.inM Lw h6.ge
    have frw24 := qw24.2
    replace hT := hT.then sw24
    replace hr := hr.sp sw24 (fun x hx => frw24 x (hr.lt x hx).2 (d_hr_h6 x hx))
    replace hO := hO.sp sw24 (fun x hx => frw24 x (hO.lt x hx).2 (d_hO_h6 x hx))
    replace hfr := hfr.sp sw24 (fun x hx => frw24 x (hfr.lt x hx).2 (d_hfr_h6 x hx))
    replace hc := hc.sp sw24 (fun x hx => frw24 x (hc.lt x hx).2 (d_hc_h6 x hx))
    replace hs := Rep.sp hs sw24
    replace hks := hks.sp sw24
    replace h3 := h3.sp sw24
    replace h4 := h4.sp sw24
    replace h5 := h5.sp sw24
    replace hF1 := fun b h => sw24.sub b (hF1 b h)
    replace Lw := sw24.low
    replace hB := sw24.z hB
    replace h6 : MB B _ w24 b6 _ [.int .u8 s.op, .string s.name, .int .i64 s.n, kvc] := ⟨hw24, h6.inM, h6.ge⟩
    refine q1 (cR (xR ?_))
    refine x_ret1s tK (fun j v hv => h6.cell j v hv) rfl rfl rfl rfl rfl ?_
    have hit : t.n = n ∧ t.op = varOp row := by clear ih; cases row <;> simp_all [varOp]
    refine ⟨_, G, by rw [put_hit hit.1 hit.2]; exact hc, fun c hc' => ⟨.inr hc', .inr (by have := hGl c hc'; omega)⟩, hT.more (fun c hc' => ⟨by have := hGl c hc'; omega, (hc.lt c hc').2⟩), hfr⟩
   refine cK (xS (cS (q0 (lP 1 tK rfl ?_))))
   refine lC (oD tK (h3.cell 3 _ rfl) rfl rfl rfl rfl rfl ?_)
   refine lC (o_lenO tK hr rfl rfl rfl rfl rfl ?_)
   refine lP 1 tK rfl (q1 (cB ?_))
   refine c_loop4 (X := Nat) (Y := List (VN 3)) (Z := Nat → Prop) (U := Nat → Prop) (fun i us M1 F1 => [(3, .pointer (some ⟨b3, 0, none⟩)), (4, .pointer (some ⟨b4, 0, none⟩)), (5, .pointer (some ⟨b5, 0, none⟩)), (6, .pointer (some ⟨b6, 0, none⟩)), (36, kv), (37, .int .i64 (t.kids.length : Int)), (38, .int .i64 (i : Nat))]) (fun i us M1 F1 w' => i ≤ t.kids.length ∧ OwnSl 25 B M1 w' kv us ∧ OTs 25 B w' us (mapTo (putF (varOp row) n s) t.kids i) F1 ∧ (∀ c, F1 c → M1 c) ∧ (∀ c, F1 c → F c ∨ w.heap.size ≤ c) ∧ Kept w w' (Out F w) ∧ Stp B M M1 w w' ∧ Low M1 w' ∧ B ≤ w'.heap.size ∧ MB B M1 w' b6 25 [.int .u8 0, .string ⟨#[]⟩, .int .i64 0, .slice none 0 0] ∧ At M1 w' b3 0 [.int .u8 t.op, .string t.name, .int .i64 t.n, kv] ∧ At M1 w' b4 0 [.int .i64 n, .bool row] ∧ At M1 w' b5 0 [.int .u8 s.op, .string s.name, .int .i64 s.n, kvs] ∧ Rep.R M1 w' (.agg #[.int .u8 s.op, .string s.name, .int .i64 s.n, kvs]) s ∧ (∀ x y, (kv : Value).ownBlock = some x → F1 y → x ≠ y) ∧ (∀ x y, (kv : Value).ownBlock = some x → (Out F w) y → x ≠ y) ∧ (∀ x, (kv : Value).ownBlock = some x → x ≠ b6) ∧ (∀ x, F1 x → x ≠ b6) ∧ (∀ x, (Out F w) x → x ≠ b6)) (fun i us M1 F1 => t.kids.length - i) (0) (us) ((Rw.Add M b6)) (H) (s7 rfl rfl rfl rfl rfl (gN rfl (by omega)) rfl) ?_ ?_
   ·refine ⟨Nat.zero_le _, ?_⟩
    rw [mapTo_zero]
    exact ⟨hr, hO, hF1, hFn, hfr, hT, Lw, hB, h6, h3, h4, h5, hs, dd_hr_hO, dd_hr_hfr, d_hr_h6, d_hO_h6, d_hfr_h6⟩
   clear hF1 hFn hfr hT dd_hr_hO dd_hr_hfr d_hr_h6 d_hO_h6 d_hfr_h6 hul
   rintro i us M1 F1 w25 ⟨hi, hr, hO, hF1, hFn, hfr, hT, Lw, hB, h6, h3, h4, h5, hs, dd_hr_hO, dd_hr_hfr, d_hr_h6, d_hO_h6, d_hfr_h6⟩
   have hul := hO.len
   rw [mapTo_len] at hul
   refine q0 (lP 1 tK rfl (q1 (cS ?_)))
   refine cP _ rfl (fun c10 => ?_) (fun c10 => ?_)
   ·refine cK (xS (cS (cB (q0 (lP 1 tK rfl ?_)))))
    have hik : i < t.kids.length := by omega
    obtain ⟨⟨uv⟩, G, hui, hx, hGF, hOh⟩ := hO.take (mapTo_get hik)
    refine lC (o_ixO tK hr hui rfl rfl rfl rfl rfl rfl rfl rfl rfl ?_)
    intro ebx eux hobx hRx hX
    obtain ⟨e0, _⟩ := hRx
    replace e0 : eux = uv := e0
    subst e0
    obtain ⟨kvx, usx, Hx, rfl, opx, nmx, n64x, hknx, hrx, hOx, hHx⟩ := oty_open hx
    replace hX : OAt _ _ _ [.int .u8 t.kids[i].op, .string t.kids[i].name, .int .i64 t.kids[i].n, kvx] := hX
    refine lC (oL tK (fun j v hv => hX.cell j v hv) rfl rfl rfl rfl rfl rfl ?_)
    refine lC (o_new tK rfl rfl rfl ?_)
    intro b8 w26 qb8 ew26 hb8
    have nb8 := nO Lw qb8
    refine lP 1 tK rfl ?_
    refine lC (o_st tK hb8 rfl rfl rfl rfl hx.one rfl rfl ?_)
    intro w27 h8 uw27 bew27
    have ew27 : Ext w25 w27 := ew26.trans (bew27 _ (lQ qb8.symm))
    replace hT := hT.then (Stp.Y ew27 Lw hB)
    replace hr := hr.Y Lw hB ew27
    replace hfr := hfr.Y Lw hB ew27
    replace h6 := h6.Y Lw hB ew27
    replace hOh := hOh.Y Lw hB ew27
    replace hx := hx.Y Lw hB ew27
    replace h3 := h3.Y ew27
    replace h4 := h4.Y ew27
    replace h5 := h5.Y ew27
    replace hs := Rep.Y hs ew27
    replace Lw := Lw.Y ew27
    replace hB := ew27.z hB
    replace h8 : Box w27 b8 25 [.int .u8 t.kids[i].op, .string t.kids[i].name, .int .i64 t.kids[i].n, kvx] := h8
    replace h8 := h8.at nb8
    refine q1 ?_
    refine a_beg (Sof B M1) rfl ?_
    intro w28 ew28
    replace hT := hT.then (Stp.Y ew28 Lw hB)
    replace hr := hr.Y Lw hB ew28
    replace hfr := hfr.Y Lw hB ew28
    replace h6 := h6.Y Lw hB ew28
    replace hOh := hOh.Y Lw hB ew28
    replace hx := hx.Y Lw hB ew28
    replace h3 := h3.Y ew28
    replace h4 := h4.Y ew28
    replace h5 := h5.Y ew28
    replace hs := Rep.Y hs ew28
    replace h8 := h8.Y ew28
    replace Lw := Lw.Y ew28
    replace hB := ew28.z hB
    have hS : Stp B M1 M1 w28 w28 := Stp.refl Lw
    have D_h6 := h6.box
    have D_h3 := h3
    have D_h4 := h4
    have D_h5 := h5
    have D_h8 := h8
    refine a_p 0 tK rfl rfl rfl rfl (by kernel_rfl) i3 ⟨_, hS⟩ ?_
    refine a_ld 1 tK (fun _ hs => (D_h3.so hs).cell 3 _ rfl) rfl rfl rfl rfl rfl rfl (by kernel_rfl) i3 ⟨_, hS⟩ ?_
    refine a_p 2 tK rfl rfl rfl rfl (by kernel_rfl) i3 ⟨_, hS⟩ ?_
    refine a_lds 3 tK (fun _ hs j v hv => (D_h8.so hs).cell j v hv) rfl rfl rfl rfl rfl rfl rfl (by kernel_rfl) i3 ⟨_, hS⟩ ?_
    refine a_lds 4 tK (fun _ hs j v hv => (D_h4.so hs).cell j v hv) rfl rfl rfl rfl rfl rfl rfl (by kernel_rfl) i3 ⟨_, hS⟩ ?_
    refine a_lds 5 tK (fun _ hs j v hv => (D_h5.so hs).cell j v hv) rfl rfl rfl rfl rfl rfl rfl (by kernel_rfl) i3 ⟨_, hS⟩ ?_
    have l_h6 := h6.lt
    have hsz0 := hT.upd.1
    have lH := hOh.lt
    have lr := hr.lt
    refine a_one 6 rfl (by kernel_rfl) (oK fo71 rfl rfl rfl (ih _ (gM hik) n row s _ _ B _ _ G hx (fun c hc => hF1 c (hGF c hc)) hs Lw hB hzs) ?_)
    rintro vq w29 ⟨Mw29, Fw29, hq, hq2, sw29, kw29⟩
    have frw29 : ∀ x, x < w28.heap.size → ¬ G x → w29.heap[x]? = w28.heap[x]? := fun x hx hg => kw29.blk x ⟨hx, hg⟩
    replace hT := hT.then sw29
    replace hS := hS.then sw29
    replace hr := hr.sp sw29 (fun x hx => frw29 x (hr.lt x hx).2 (fun g => dd_hr_hO x x hx (hGF x g) rfl))
    replace hfr := hfr.sp sw29 (fun x hx => frw29 x (hfr.lt x hx).2 (fun g => (hFn x (hGF x g)).elim hx.2 (fun h => by have := hx.1; have := hfr.size; omega)))
    replace h6 := h6.sp sw29 (frw29 b6 h6.lt (fun g => d_hO_h6 _ (hGF _ g) rfl))
    replace hOh := hOh.sp sw29 (fun c hc hn => frw29 c (hOh.lt c hc).2 hn)
    replace h3 := h3.sp sw29
    replace h4 := h4.sp sw29
    replace h5 := h5.sp sw29
    replace hs := Rep.sp hs sw29
    replace h8 := h8.sp sw29
    replace hF1 := fun b h => sw29.sub b (hF1 b h)
    replace Lw := sw29.low
    replace hB := sw29.z hB
    refine ⟨⟨_, hS⟩, ?_⟩
    have hO := hOh.put hq (fun c hc => (hq2 c hc).2.elim .inl (fun h => .inr (fun hf => by have := (lH c hf).2; omega)))
    replace hF1 : ∀ c, F1 c ∨ Fw29 c → Mw29 c := fun c h => h.elim (hF1 c) (fun h => (hq2 c h).1)
    replace dd_hr_hO : ∀ x y, kv.ownBlock = some x → (F1 y ∨ Fw29 y) → x ≠ y := fun x y hx hy => hy.elim (dd_hr_hO x y hx) (fun h => (hq2 y h).2.elim (fun g => dd_hr_hO x y hx (hGF y g)) (fun h => by have := (lr x hx).2; omega))
    replace d_hO_h6 : ∀ x, (F1 x ∨ Fw29 x) → x ≠ b6 := fun x hx => hx.elim (d_hO_h6 x) (fun h => (hq2 x h).2.elim (fun g => d_hO_h6 x (hGF x g)) (fun h => by have := l_h6; omega))
    replace hFn : ∀ c, (F1 c ∨ Fw29 c) → F c ∨ w.heap.size ≤ c := fun c hc => hc.elim (hFn c) (fun h => (hq2 c h).2.elim (fun g => hFn c (hGF c g)) (fun h => .inr (by have := hsz0; omega)))
    refine a_ixO 7 tK hr hui rfl rfl rfl rfl rfl rfl rfl rfl rfl rfl (by kernel_rfl) i4 ⟨_, hS⟩ ?_
    intro ebz euz hobz hRz hatz
    refine a_bar 8 rfl (by kernel_rfl) (by kernel_rfl) (o_stO tK hr hobz (by omega) hq.vn Lw rfl rfl rfl rfl rfl rfl ?_)
    intro w30 hw30 sw30 frw30
    replace hT := hT.then sw30
    replace hS := hS.then sw30
    replace hfr := hfr.sp sw30 (fun x hx => frw30 x (hfr.lt x hx).2 (fun e => dd_hr_hfr _ x hobz hx e.symm))
    replace h6 := h6.sp sw30 (frw30 b6 h6.lt (fun e => d_hr_h6 _ hobz e.symm))
    replace hO := hO.sp sw30 (fun x hx => frw30 x (hO.lt x hx).2 (fun e => dd_hr_hO _ x hobz hx e.symm))
    replace h3 := h3.sp sw30
    replace h4 := h4.sp sw30
    replace h5 := h5.sp sw30
    replace hs := Rep.sp hs sw30
    replace h8 := h8.sp sw30
    replace hF1 := fun b h => sw30.sub b (hF1 b h)
    replace Lw := sw30.low
    replace hB := sw30.z hB
    replace hr := hw30
    clear hw30
    refine a_end (by kernel_rfl) ?_
    refine x_blk (xS (cG ?_))
    refine lC (o_ai rfl rfl rfl (by omega) rfl rfl ?_)
    refine lP 1 tK rfl (lN ?_)
    exact x_round4 (i + 1) (us.set i ⟨vq⟩) (Mw29) ((fun c => F1 c ∨ Fw29 c)) (s7 rfl rfl rfl rfl rfl rfl rfl) ⟨by omega, hr, by rw [← mapTo_set hik]; exact hO, hF1, hFn, hfr, hT, Lw, hB, h6, h3, h4, h5, hs, dd_hr_hO, dd_hr_hfr, d_hr_h6, d_hO_h6, d_hfr_h6⟩ (by omega)
   refine c_exit (xE (xE (x_blkE (xS (q0 ?_)))))
   refine lC (oL tK (fun j v hv => h3.cell j v hv) rfl rfl rfl rfl rfl rfl ?_)
   refine lC (o_st tK h6.box rfl rfl rfl rfl (own_ones hr) rfl rfl ?_)
   intro w31 hw31 qw31 bew31
   have uw31 : UpdB _ _ _ := ⟨qw31, bew31⟩
   have sw31 := uw31.sp h6.inM Lw h6.ge
   have frw31 := qw31.2
   replace hT := hT.then sw31
   replace hr := hr.sp sw31 (fun x hx => frw31 x (hr.lt x hx).2 (d_hr_h6 x hx))
   replace hO := hO.sp sw31 (fun x hx => frw31 x (hO.lt x hx).2 (d_hO_h6 x hx))
   replace hfr := hfr.sp sw31 (fun x hx => frw31 x (hfr.lt x hx).2 (d_hfr_h6 x hx))
   replace h3 := h3.sp sw31
   replace h4 := h4.sp sw31
   replace h5 := h5.sp sw31
   replace hs := Rep.sp hs sw31
   replace hF1 := fun b h => sw31.sub b (hF1 b h)
   replace Lw := sw31.low
   replace hB := sw31.z hB
   replace h6 : MB B _ w31 b6 _ [.int .u8 t.op, .string t.name, .int .i64 t.n, kv] := ⟨hw31, h6.inM, h6.ge⟩
   refine q1 (cR ?_)
   refine x_ret1s tK (fun j v hv => h6.cell j v hv) rfl rfl rfl rfl rfl ?_
   have hno : ¬ (t.n = n ∧ t.op = varOp row) := by clear ih; cases row <;> simp_all [varOp]
   obtain rfl : i = t.kids.length := by omega
   rw [mapTo_all (lR _)] at hO
   refine ⟨_, fun c => kv.ownBlock = some c ∨ F1 c, ?_, fun c hc => hc.elim (fun h => ⟨hr.inM c h, .inl (hkF c h)⟩) (fun h => ⟨hF1 c h, hFn c h⟩), hT, hfr⟩
   rw [put_no hno]
   exact oty_mk op nm n64 (by simpa using hkn) (fun c hc => hc.elim (hr.lt c) (hO.lt c)) (hr.keepV (fun b hb => .inl hb) (fun _ _ _ _ _ => rfl)) hO (fun c hc => ⟨.inr hc, fun e => dd_hr_hO c c e hc rfl⟩)
  refine lP 5 tK rfl (q1 (c_ifF rfl (cK (xS (cS (q0 (lP 1 tK rfl ?_)))))))
  refine lC (oD tK (h3.cell 3 _ rfl) rfl rfl rfl rfl rfl ?_)
  refine lC (o_lenO tK hr rfl rfl rfl rfl rfl ?_)
  refine lP 1 tK rfl (q1 (cB ?_))
  refine c_loop4 (X := Nat) (Y := List (VN 3)) (Z := Nat → Prop) (U := Nat → Prop) (fun i us M1 F1 => [(3, .pointer (some ⟨b3, 0, none⟩)), (4, .pointer (some ⟨b4, 0, none⟩)), (5, .pointer (some ⟨b5, 0, none⟩)), (6, .pointer (some ⟨b6, 0, none⟩)), (36, kv), (37, .int .i64 (t.kids.length : Int)), (38, .int .i64 (i : Nat))]) (fun i us M1 F1 w' => i ≤ t.kids.length ∧ OwnSl 25 B M1 w' kv us ∧ OTs 25 B w' us (mapTo (putF (varOp row) n s) t.kids i) F1 ∧ (∀ c, F1 c → M1 c) ∧ (∀ c, F1 c → F c ∨ w.heap.size ≤ c) ∧ Kept w w' (Out F w) ∧ Stp B M M1 w w' ∧ Low M1 w' ∧ B ≤ w'.heap.size ∧ MB B M1 w' b6 25 [.int .u8 0, .string ⟨#[]⟩, .int .i64 0, .slice none 0 0] ∧ At M1 w' b3 0 [.int .u8 t.op, .string t.name, .int .i64 t.n, kv] ∧ At M1 w' b4 0 [.int .i64 n, .bool row] ∧ At M1 w' b5 0 [.int .u8 s.op, .string s.name, .int .i64 s.n, kvs] ∧ Rep.R M1 w' (.agg #[.int .u8 s.op, .string s.name, .int .i64 s.n, kvs]) s ∧ (∀ x y, (kv : Value).ownBlock = some x → F1 y → x ≠ y) ∧ (∀ x y, (kv : Value).ownBlock = some x → (Out F w) y → x ≠ y) ∧ (∀ x, (kv : Value).ownBlock = some x → x ≠ b6) ∧ (∀ x, F1 x → x ≠ b6) ∧ (∀ x, (Out F w) x → x ≠ b6)) (fun i us M1 F1 => t.kids.length - i) (0) (us) ((Rw.Add M b6)) (H) (s7 rfl rfl rfl rfl rfl (gN rfl (by omega)) rfl) ?_ ?_
  ·refine ⟨Nat.zero_le _, ?_⟩
   rw [mapTo_zero]
   exact ⟨hr, hO, hF1, hFn, hfr, hT, Lw, hB, h6, h3, h4, h5, hs, dd_hr_hO, dd_hr_hfr, d_hr_h6, d_hO_h6, d_hfr_h6⟩
  clear hF1 hFn hfr hT dd_hr_hO dd_hr_hfr d_hr_h6 d_hO_h6 d_hfr_h6 hul
  rintro i us M1 F1 w32 ⟨hi, hr, hO, hF1, hFn, hfr, hT, Lw, hB, h6, h3, h4, h5, hs, dd_hr_hO, dd_hr_hfr, d_hr_h6, d_hO_h6, d_hfr_h6⟩
  have hul := hO.len
  rw [mapTo_len] at hul
  refine q0 (lP 1 tK rfl (q1 (cS ?_)))
  refine cP _ rfl (fun c11 => ?_) (fun c11 => ?_)
  ·refine cK (xS (cS (cB (q0 (lP 1 tK rfl ?_)))))
   have hik : i < t.kids.length := by omega
   obtain ⟨⟨uv⟩, G, hui, hx, hGF, hOh⟩ := hO.take (mapTo_get hik)
   refine lC (o_ixO tK hr hui rfl rfl rfl rfl rfl rfl rfl rfl rfl ?_)
   intro ebx eux hobx hRx hX
   obtain ⟨e0, _⟩ := hRx
   replace e0 : eux = uv := e0
   subst e0
   obtain ⟨kvx, usx, Hx, rfl, opx, nmx, n64x, hknx, hrx, hOx, hHx⟩ := oty_open hx
   replace hX : OAt _ _ _ [.int .u8 t.kids[i].op, .string t.kids[i].name, .int .i64 t.kids[i].n, kvx] := hX
   refine lC (oL tK (fun j v hv => hX.cell j v hv) rfl rfl rfl rfl rfl rfl ?_)
   refine lC (o_new tK rfl rfl rfl ?_)
   intro b8 w33 qb8 ew33 hb8
   have nb8 := nO Lw qb8
   refine lP 1 tK rfl ?_
   refine lC (o_st tK hb8 rfl rfl rfl rfl hx.one rfl rfl ?_)
   intro w34 h8 uw34 bew34
   have ew34 : Ext w32 w34 := ew33.trans (bew34 _ (lQ qb8.symm))
   replace hT := hT.then (Stp.Y ew34 Lw hB)
   replace hr := hr.Y Lw hB ew34
   replace hfr := hfr.Y Lw hB ew34
   replace h6 := h6.Y Lw hB ew34
   replace hOh := hOh.Y Lw hB ew34
   replace hx := hx.Y Lw hB ew34
   replace h3 := h3.Y ew34
   replace h4 := h4.Y ew34
   replace h5 := h5.Y ew34
   replace hs := Rep.Y hs ew34
   replace Lw := Lw.Y ew34
   replace hB := ew34.z hB
   replace h8 : Box w34 b8 25 [.int .u8 t.kids[i].op, .string t.kids[i].name, .int .i64 t.kids[i].n, kvx] := h8
   replace h8 := h8.at nb8
   refine q1 ?_
   refine a_beg (Sof B M1) rfl ?_
   intro w35 ew35
   replace hT := hT.then (Stp.Y ew35 Lw hB)
   replace hr := hr.Y Lw hB ew35
   replace hfr := hfr.Y Lw hB ew35
   replace h6 := h6.Y Lw hB ew35
   replace hOh := hOh.Y Lw hB ew35
   replace hx := hx.Y Lw hB ew35
   replace h3 := h3.Y ew35
   replace h4 := h4.Y ew35
   replace h5 := h5.Y ew35
   replace hs := Rep.Y hs ew35
   replace h8 := h8.Y ew35
   replace Lw := Lw.Y ew35
   replace hB := ew35.z hB
   have hS : Stp B M1 M1 w35 w35 := Stp.refl Lw
   have D_h6 := h6.box
   have D_h3 := h3
   have D_h4 := h4
   have D_h5 := h5
   have D_h8 := h8
   refine a_p 0 tK rfl rfl rfl rfl (by kernel_rfl) i3 ⟨_, hS⟩ ?_
   refine a_ld 1 tK (fun _ hs => (D_h3.so hs).cell 3 _ rfl) rfl rfl rfl rfl rfl rfl (by kernel_rfl) i3 ⟨_, hS⟩ ?_
   refine a_p 2 tK rfl rfl rfl rfl (by kernel_rfl) i3 ⟨_, hS⟩ ?_
   refine a_lds 3 tK (fun _ hs j v hv => (D_h8.so hs).cell j v hv) rfl rfl rfl rfl rfl rfl rfl (by kernel_rfl) i3 ⟨_, hS⟩ ?_
   refine a_lds 4 tK (fun _ hs j v hv => (D_h4.so hs).cell j v hv) rfl rfl rfl rfl rfl rfl rfl (by kernel_rfl) i3 ⟨_, hS⟩ ?_
   refine a_lds 5 tK (fun _ hs j v hv => (D_h5.so hs).cell j v hv) rfl rfl rfl rfl rfl rfl rfl (by kernel_rfl) i3 ⟨_, hS⟩ ?_
   have l_h6 := h6.lt
   have hsz0 := hT.upd.1
   have lH := hOh.lt
   have lr := hr.lt
   refine a_one 6 rfl (by kernel_rfl) (oK fo71 rfl rfl rfl (ih _ (gM hik) n row s _ _ B _ _ G hx (fun c hc => hF1 c (hGF c hc)) hs Lw hB hzs) ?_)
   rintro vq w36 ⟨Mw36, Fw36, hq, hq2, sw36, kw36⟩
   have frw36 : ∀ x, x < w35.heap.size → ¬ G x → w36.heap[x]? = w35.heap[x]? := fun x hx hg => kw36.blk x ⟨hx, hg⟩
   replace hT := hT.then sw36
   replace hS := hS.then sw36
   replace hr := hr.sp sw36 (fun x hx => frw36 x (hr.lt x hx).2 (fun g => dd_hr_hO x x hx (hGF x g) rfl))
   replace hfr := hfr.sp sw36 (fun x hx => frw36 x (hfr.lt x hx).2 (fun g => (hFn x (hGF x g)).elim hx.2 (fun h => by have := hx.1; have := hfr.size; omega)))
   replace h6 := h6.sp sw36 (frw36 b6 h6.lt (fun g => d_hO_h6 _ (hGF _ g) rfl))
   replace hOh := hOh.sp sw36 (fun c hc hn => frw36 c (hOh.lt c hc).2 hn)
   replace h3 := h3.sp sw36
   replace h4 := h4.sp sw36
   replace h5 := h5.sp sw36
   replace hs := Rep.sp hs sw36
   replace h8 := h8.sp sw36
   replace hF1 := fun b h => sw36.sub b (hF1 b h)
   replace Lw := sw36.low
   replace hB := sw36.z hB
   refine ⟨⟨_, hS⟩, ?_⟩
   have hO := hOh.put hq (fun c hc => (hq2 c hc).2.elim .inl (fun h => .inr (fun hf => by have := (lH c hf).2; omega)))
   replace hF1 : ∀ c, F1 c ∨ Fw36 c → Mw36 c := fun c h => h.elim (hF1 c) (fun h => (hq2 c h).1)
   replace dd_hr_hO : ∀ x y, kv.ownBlock = some x → (F1 y ∨ Fw36 y) → x ≠ y := fun x y hx hy => hy.elim (dd_hr_hO x y hx) (fun h => (hq2 y h).2.elim (fun g => dd_hr_hO x y hx (hGF y g)) (fun h => by have := (lr x hx).2; omega))
   replace d_hO_h6 : ∀ x, (F1 x ∨ Fw36 x) → x ≠ b6 := fun x hx => hx.elim (d_hO_h6 x) (fun h => (hq2 x h).2.elim (fun g => d_hO_h6 x (hGF x g)) (fun h => by have := l_h6; omega))
   replace hFn : ∀ c, (F1 c ∨ Fw36 c) → F c ∨ w.heap.size ≤ c := fun c hc => hc.elim (hFn c) (fun h => (hq2 c h).2.elim (fun g => hFn c (hGF c g)) (fun h => .inr (by have := hsz0; omega)))
   refine a_ixO 7 tK hr hui rfl rfl rfl rfl rfl rfl rfl rfl rfl rfl (by kernel_rfl) i4 ⟨_, hS⟩ ?_
   intro ebz euz hobz hRz hatz
   refine a_bar 8 rfl (by kernel_rfl) (by kernel_rfl) (o_stO tK hr hobz (by omega) hq.vn Lw rfl rfl rfl rfl rfl rfl ?_)
   intro w37 hw37 sw37 frw37
   replace hT := hT.then sw37
   replace hS := hS.then sw37
   replace hfr := hfr.sp sw37 (fun x hx => frw37 x (hfr.lt x hx).2 (fun e => dd_hr_hfr _ x hobz hx e.symm))
   replace h6 := h6.sp sw37 (frw37 b6 h6.lt (fun e => d_hr_h6 _ hobz e.symm))
   replace hO := hO.sp sw37 (fun x hx => frw37 x (hO.lt x hx).2 (fun e => dd_hr_hO _ x hobz hx e.symm))
   replace h3 := h3.sp sw37
   replace h4 := h4.sp sw37
   replace h5 := h5.sp sw37
   replace hs := Rep.sp hs sw37
   replace h8 := h8.sp sw37
   replace hF1 := fun b h => sw37.sub b (hF1 b h)
   replace Lw := sw37.low
   replace hB := sw37.z hB
   replace hr := hw37
   clear hw37
   refine a_end (by kernel_rfl) ?_
   refine x_blk (xS (cG ?_))
   refine lC (o_ai rfl rfl rfl (by omega) rfl rfl ?_)
   refine lP 1 tK rfl (lN ?_)
   exact x_round4 (i + 1) (us.set i ⟨vq⟩) (Mw36) ((fun c => F1 c ∨ Fw36 c)) (s7 rfl rfl rfl rfl rfl rfl rfl) ⟨by omega, hr, by rw [← mapTo_set hik]; exact hO, hF1, hFn, hfr, hT, Lw, hB, h6, h3, h4, h5, hs, dd_hr_hO, dd_hr_hfr, d_hr_h6, d_hO_h6, d_hfr_h6⟩ (by omega)
  refine c_exit (xE (xE (x_blkE (xS (q0 ?_)))))
  refine lC (oL tK (fun j v hv => h3.cell j v hv) rfl rfl rfl rfl rfl rfl ?_)
  refine lC (o_st tK h6.box rfl rfl rfl rfl (own_ones hr) rfl rfl ?_)
  intro w38 hw38 qw38 bew38
  have uw38 : UpdB _ _ _ := ⟨qw38, bew38⟩
  have sw38 := uw38.sp h6.inM Lw h6.ge
  have frw38 := qw38.2
  replace hT := hT.then sw38
  replace hr := hr.sp sw38 (fun x hx => frw38 x (hr.lt x hx).2 (d_hr_h6 x hx))
  replace hO := hO.sp sw38 (fun x hx => frw38 x (hO.lt x hx).2 (d_hO_h6 x hx))
  replace hfr := hfr.sp sw38 (fun x hx => frw38 x (hfr.lt x hx).2 (d_hfr_h6 x hx))
  replace h3 := h3.sp sw38
  replace h4 := h4.sp sw38
  replace h5 := h5.sp sw38
  replace hs := Rep.sp hs sw38
  replace hF1 := fun b h => sw38.sub b (hF1 b h)
  replace Lw := sw38.low
  replace hB := sw38.z hB
  replace h6 : MB B _ w38 b6 _ [.int .u8 t.op, .string t.name, .int .i64 t.n, kv] := ⟨hw38, h6.inM, h6.ge⟩
  refine q1 (cR ?_)
  refine x_ret1s tK (fun j v hv => h6.cell j v hv) rfl rfl rfl rfl rfl ?_
  have hno : ¬ (t.n = n ∧ t.op = varOp row) := by clear ih; cases row <;> simp_all [varOp]
  obtain rfl : i = t.kids.length := by omega
  rw [mapTo_all (lR _)] at hO
  refine ⟨_, fun c => kv.ownBlock = some c ∨ F1 c, ?_, fun c hc => hc.elim (fun h => ⟨hr.inM c h, .inl (hkF c h)⟩) (fun h => ⟨hF1 c h, hFn c h⟩), hT, hfr⟩
  rw [put_no hno]
  exact oty_mk op nm n64 (by simpa using hkn) (fun c hc => hc.elim (hr.lt c) (hO.lt c)) (hr.keepV (fun b hb => .inl hb) (fun _ _ _ _ _ => rfl)) hO (fun c hc => ⟨.inr hc, fun e => dd_hr_hO c c e hc rfl⟩)
 refine lP 18 tK rfl (q1 (c_ifF rfl (cK (xS (cS (q0 (lP 1 tK rfl ?_)))))))
 refine lC (oD tK (h3.cell 3 _ rfl) rfl rfl rfl rfl rfl ?_)
 refine lC (o_lenO tK hr rfl rfl rfl rfl rfl ?_)
 refine lP 1 tK rfl (q1 (cB ?_))
 refine c_loop4 (X := Nat) (Y := List (VN 3)) (Z := Nat → Prop) (U := Nat → Prop) (fun i us M1 F1 => [(3, .pointer (some ⟨b3, 0, none⟩)), (4, .pointer (some ⟨b4, 0, none⟩)), (5, .pointer (some ⟨b5, 0, none⟩)), (6, .pointer (some ⟨b6, 0, none⟩)), (36, kv), (37, .int .i64 (t.kids.length : Int)), (38, .int .i64 (i : Nat))]) (fun i us M1 F1 w' => i ≤ t.kids.length ∧ OwnSl 25 B M1 w' kv us ∧ OTs 25 B w' us (mapTo (putF (varOp row) n s) t.kids i) F1 ∧ (∀ c, F1 c → M1 c) ∧ (∀ c, F1 c → F c ∨ w.heap.size ≤ c) ∧ Kept w w' (Out F w) ∧ Stp B M M1 w w' ∧ Low M1 w' ∧ B ≤ w'.heap.size ∧ MB B M1 w' b6 25 [.int .u8 0, .string ⟨#[]⟩, .int .i64 0, .slice none 0 0] ∧ At M1 w' b3 0 [.int .u8 t.op, .string t.name, .int .i64 t.n, kv] ∧ At M1 w' b4 0 [.int .i64 n, .bool row] ∧ At M1 w' b5 0 [.int .u8 s.op, .string s.name, .int .i64 s.n, kvs] ∧ Rep.R M1 w' (.agg #[.int .u8 s.op, .string s.name, .int .i64 s.n, kvs]) s ∧ (∀ x y, (kv : Value).ownBlock = some x → F1 y → x ≠ y) ∧ (∀ x y, (kv : Value).ownBlock = some x → (Out F w) y → x ≠ y) ∧ (∀ x, (kv : Value).ownBlock = some x → x ≠ b6) ∧ (∀ x, F1 x → x ≠ b6) ∧ (∀ x, (Out F w) x → x ≠ b6)) (fun i us M1 F1 => t.kids.length - i) (0) (us) ((Rw.Add M b6)) (H) (s7 rfl rfl rfl rfl rfl (gN rfl (by omega)) rfl) ?_ ?_
 ·refine ⟨Nat.zero_le _, ?_⟩
  rw [mapTo_zero]
  exact ⟨hr, hO, hF1, hFn, hfr, hT, Lw, hB, h6, h3, h4, h5, hs, dd_hr_hO, dd_hr_hfr, d_hr_h6, d_hO_h6, d_hfr_h6⟩
 clear hF1 hFn hfr hT dd_hr_hO dd_hr_hfr d_hr_h6 d_hO_h6 d_hfr_h6 hul
 rintro i us M1 F1 w39 ⟨hi, hr, hO, hF1, hFn, hfr, hT, Lw, hB, h6, h3, h4, h5, hs, dd_hr_hO, dd_hr_hfr, d_hr_h6, d_hO_h6, d_hfr_h6⟩
 have hul := hO.len
 rw [mapTo_len] at hul
 refine q0 (lP 1 tK rfl (q1 (cS ?_)))
 refine cP _ rfl (fun c12 => ?_) (fun c12 => ?_)
 ·refine cK (xS (cS (cB (q0 (lP 1 tK rfl ?_)))))
  have hik : i < t.kids.length := by omega
  obtain ⟨⟨uv⟩, G, hui, hx, hGF, hOh⟩ := hO.take (mapTo_get hik)
  refine lC (o_ixO tK hr hui rfl rfl rfl rfl rfl rfl rfl rfl rfl ?_)
  intro ebx eux hobx hRx hX
  obtain ⟨e0, _⟩ := hRx
  replace e0 : eux = uv := e0
  subst e0
  obtain ⟨kvx, usx, Hx, rfl, opx, nmx, n64x, hknx, hrx, hOx, hHx⟩ := oty_open hx
  replace hX : OAt _ _ _ [.int .u8 t.kids[i].op, .string t.kids[i].name, .int .i64 t.kids[i].n, kvx] := hX
  refine lC (oL tK (fun j v hv => hX.cell j v hv) rfl rfl rfl rfl rfl rfl ?_)
  refine lC (o_new tK rfl rfl rfl ?_)
  intro b8 w40 qb8 ew40 hb8
  have nb8 := nO Lw qb8
  refine lP 1 tK rfl ?_
  refine lC (o_st tK hb8 rfl rfl rfl rfl hx.one rfl rfl ?_)
  intro w41 h8 uw41 bew41
  have ew41 : Ext w39 w41 := ew40.trans (bew41 _ (lQ qb8.symm))
  replace hT := hT.then (Stp.Y ew41 Lw hB)
  replace hr := hr.Y Lw hB ew41
  replace hfr := hfr.Y Lw hB ew41
  replace h6 := h6.Y Lw hB ew41
  replace hOh := hOh.Y Lw hB ew41
  replace hx := hx.Y Lw hB ew41
  replace h3 := h3.Y ew41
  replace h4 := h4.Y ew41
  replace h5 := h5.Y ew41
  replace hs := Rep.Y hs ew41
  replace Lw := Lw.Y ew41
  replace hB := ew41.z hB
  replace h8 : Box w41 b8 25 [.int .u8 t.kids[i].op, .string t.kids[i].name, .int .i64 t.kids[i].n, kvx] := h8
  replace h8 := h8.at nb8
  refine q1 ?_
  refine a_beg (Sof B M1) rfl ?_
  intro w42 ew42
  replace hT := hT.then (Stp.Y ew42 Lw hB)
  replace hr := hr.Y Lw hB ew42
  replace hfr := hfr.Y Lw hB ew42
  replace h6 := h6.Y Lw hB ew42
  replace hOh := hOh.Y Lw hB ew42
  replace hx := hx.Y Lw hB ew42
  replace h3 := h3.Y ew42
  replace h4 := h4.Y ew42
  replace h5 := h5.Y ew42
  replace hs := Rep.Y hs ew42
  replace h8 := h8.Y ew42
  replace Lw := Lw.Y ew42
  replace hB := ew42.z hB
  have hS : Stp B M1 M1 w42 w42 := Stp.refl Lw
  have D_h6 := h6.box
  have D_h3 := h3
  have D_h4 := h4
  have D_h5 := h5
  have D_h8 := h8
  refine a_p 0 tK rfl rfl rfl rfl (by kernel_rfl) i3 ⟨_, hS⟩ ?_
  refine a_ld 1 tK (fun _ hs => (D_h3.so hs).cell 3 _ rfl) rfl rfl rfl rfl rfl rfl (by kernel_rfl) i3 ⟨_, hS⟩ ?_
  refine a_p 2 tK rfl rfl rfl rfl (by kernel_rfl) i3 ⟨_, hS⟩ ?_
  refine a_lds 3 tK (fun _ hs j v hv => (D_h8.so hs).cell j v hv) rfl rfl rfl rfl rfl rfl rfl (by kernel_rfl) i3 ⟨_, hS⟩ ?_
  refine a_lds 4 tK (fun _ hs j v hv => (D_h4.so hs).cell j v hv) rfl rfl rfl rfl rfl rfl rfl (by kernel_rfl) i3 ⟨_, hS⟩ ?_
  refine a_lds 5 tK (fun _ hs j v hv => (D_h5.so hs).cell j v hv) rfl rfl rfl rfl rfl rfl rfl (by kernel_rfl) i3 ⟨_, hS⟩ ?_
  have l_h6 := h6.lt
  have hsz0 := hT.upd.1
  have lH := hOh.lt
  have lr := hr.lt
  refine a_one 6 rfl (by kernel_rfl) (oK fo71 rfl rfl rfl (ih _ (gM hik) n row s _ _ B _ _ G hx (fun c hc => hF1 c (hGF c hc)) hs Lw hB hzs) ?_)
  rintro vq w43 ⟨Mw43, Fw43, hq, hq2, sw43, kw43⟩
  have frw43 : ∀ x, x < w42.heap.size → ¬ G x → w43.heap[x]? = w42.heap[x]? := fun x hx hg => kw43.blk x ⟨hx, hg⟩
  replace hT := hT.then sw43
  replace hS := hS.then sw43
  replace hr := hr.sp sw43 (fun x hx => frw43 x (hr.lt x hx).2 (fun g => dd_hr_hO x x hx (hGF x g) rfl))
  replace hfr := hfr.sp sw43 (fun x hx => frw43 x (hfr.lt x hx).2 (fun g => (hFn x (hGF x g)).elim hx.2 (fun h => by have := hx.1; have := hfr.size; omega)))
  replace h6 := h6.sp sw43 (frw43 b6 h6.lt (fun g => d_hO_h6 _ (hGF _ g) rfl))
  replace hOh := hOh.sp sw43 (fun c hc hn => frw43 c (hOh.lt c hc).2 hn)
  replace h3 := h3.sp sw43
  replace h4 := h4.sp sw43
  replace h5 := h5.sp sw43
  replace hs := Rep.sp hs sw43
  replace h8 := h8.sp sw43
  replace hF1 := fun b h => sw43.sub b (hF1 b h)
  replace Lw := sw43.low
  replace hB := sw43.z hB
  refine ⟨⟨_, hS⟩, ?_⟩
  have hO := hOh.put hq (fun c hc => (hq2 c hc).2.elim .inl (fun h => .inr (fun hf => by have := (lH c hf).2; omega)))
  replace hF1 : ∀ c, F1 c ∨ Fw43 c → Mw43 c := fun c h => h.elim (hF1 c) (fun h => (hq2 c h).1)
  replace dd_hr_hO : ∀ x y, kv.ownBlock = some x → (F1 y ∨ Fw43 y) → x ≠ y := fun x y hx hy => hy.elim (dd_hr_hO x y hx) (fun h => (hq2 y h).2.elim (fun g => dd_hr_hO x y hx (hGF y g)) (fun h => by have := (lr x hx).2; omega))
  replace d_hO_h6 : ∀ x, (F1 x ∨ Fw43 x) → x ≠ b6 := fun x hx => hx.elim (d_hO_h6 x) (fun h => (hq2 x h).2.elim (fun g => d_hO_h6 x (hGF x g)) (fun h => by have := l_h6; omega))
  replace hFn : ∀ c, (F1 c ∨ Fw43 c) → F c ∨ w.heap.size ≤ c := fun c hc => hc.elim (hFn c) (fun h => (hq2 c h).2.elim (fun g => hFn c (hGF c g)) (fun h => .inr (by have := hsz0; omega)))
  refine a_ixO 7 tK hr hui rfl rfl rfl rfl rfl rfl rfl rfl rfl rfl (by kernel_rfl) i4 ⟨_, hS⟩ ?_
  intro ebz euz hobz hRz hatz
  refine a_bar 8 rfl (by kernel_rfl) (by kernel_rfl) (o_stO tK hr hobz (by omega) hq.vn Lw rfl rfl rfl rfl rfl rfl ?_)
  intro w44 hw44 sw44 frw44
  replace hT := hT.then sw44
  replace hS := hS.then sw44
  replace hfr := hfr.sp sw44 (fun x hx => frw44 x (hfr.lt x hx).2 (fun e => dd_hr_hfr _ x hobz hx e.symm))
  replace h6 := h6.sp sw44 (frw44 b6 h6.lt (fun e => d_hr_h6 _ hobz e.symm))
  replace hO := hO.sp sw44 (fun x hx => frw44 x (hO.lt x hx).2 (fun e => dd_hr_hO _ x hobz hx e.symm))
  replace h3 := h3.sp sw44
  replace h4 := h4.sp sw44
  replace h5 := h5.sp sw44
  replace hs := Rep.sp hs sw44
  replace h8 := h8.sp sw44
  replace hF1 := fun b h => sw44.sub b (hF1 b h)
  replace Lw := sw44.low
  replace hB := sw44.z hB
  replace hr := hw44
  clear hw44
  refine a_end (by kernel_rfl) ?_
  refine x_blk (xS (cG ?_))
  refine lC (o_ai rfl rfl rfl (by omega) rfl rfl ?_)
  refine lP 1 tK rfl (lN ?_)
  exact x_round4 (i + 1) (us.set i ⟨vq⟩) (Mw43) ((fun c => F1 c ∨ Fw43 c)) (s7 rfl rfl rfl rfl rfl rfl rfl) ⟨by omega, hr, by rw [← mapTo_set hik]; exact hO, hF1, hFn, hfr, hT, Lw, hB, h6, h3, h4, h5, hs, dd_hr_hO, dd_hr_hfr, d_hr_h6, d_hO_h6, d_hfr_h6⟩ (by omega)
 refine c_exit (xE (xE (x_blkE (xS (q0 ?_)))))
 refine lC (oL tK (fun j v hv => h3.cell j v hv) rfl rfl rfl rfl rfl rfl ?_)
 refine lC (o_st tK h6.box rfl rfl rfl rfl (own_ones hr) rfl rfl ?_)
 intro w45 hw45 qw45 bew45
 have uw45 : UpdB _ _ _ := ⟨qw45, bew45⟩
 have sw45 := uw45.sp h6.inM Lw h6.ge
 have frw45 := qw45.2
 replace hT := hT.then sw45
 replace hr := hr.sp sw45 (fun x hx => frw45 x (hr.lt x hx).2 (d_hr_h6 x hx))
 replace hO := hO.sp sw45 (fun x hx => frw45 x (hO.lt x hx).2 (d_hO_h6 x hx))
 replace hfr := hfr.sp sw45 (fun x hx => frw45 x (hfr.lt x hx).2 (d_hfr_h6 x hx))
 replace h3 := h3.sp sw45
 replace h4 := h4.sp sw45
 replace h5 := h5.sp sw45
 replace hs := Rep.sp hs sw45
 replace hF1 := fun b h => sw45.sub b (hF1 b h)
 replace Lw := sw45.low
 replace hB := sw45.z hB
 replace h6 : MB B _ w45 b6 _ [.int .u8 t.op, .string t.name, .int .i64 t.n, kv] := ⟨hw45, h6.inM, h6.ge⟩
 refine q1 (cR ?_)
 refine x_ret1s tK (fun j v hv => h6.cell j v hv) rfl rfl rfl rfl rfl ?_
 have hno : ¬ (t.n = n ∧ t.op = varOp row) := by clear ih; cases row <;> simp_all [varOp]
 obtain rfl : i = t.kids.length := by omega
 rw [mapTo_all (lR _)] at hO
 refine ⟨_, fun c => kv.ownBlock = some c ∨ F1 c, ?_, fun c hc => hc.elim (fun h => ⟨hr.inM c h, .inl (hkF c h)⟩) (fun h => ⟨hF1 c h, hFn c h⟩), hT, hfr⟩
 rw [put_no hno]
 exact oty_mk op nm n64 (by simpa using hkn) (fun c hc => hc.elim (hr.lt c) (hO.lt c)) (hr.keepV (fun b hb => .inl hb) (fun _ _ _ _ _ => rfl)) hO (fun c hc => ⟨.inr hc, fun e => dd_hr_hO c c e hc rfl⟩)
theorem Put_own (t s : Ty) (n : Int) (M : Nat → Prop) (w : World) (v u : Value) (ht : Rep.R M w v t) (hs : Rep.R M w u s) (hlow0 : Low M w) (hz : psz t ≤ 2000000) (hzs : psz s ≤ 2000000) :
  Calls Try.prog 28 #[v, .int .i64 n, u] w (Ret fun r w' => OTy 25 w.heap.size w' (PutF t n s) r (Plus NoM w w') ∧ Ext w w') := by
 have Lw := hlow0
 have hB := lR w.heap.size
 have hE := Below.refl w.heap.size w
 have hsub : ∀ b, M b → M b := fun _ h => h
 obtain ⟨kv, rfl, op, nm, n64, hk⟩ := tO ht
 obtain ⟨kvs, rfl, ops, nms, n64s, hks⟩ := tO hs
 refine cN (n := 25) Try.func28 rfl rfl rfl ?_
 refine q0 ?_
 refine lC (o_box rfl rfl rfl ?_)
 intro b3 w1 hb_b3 ew1 h3
 replace h3 : Box _ b3 25 [.int .u8 t.op, .string t.name, .int .i64 t.n, kv] := h3
 replace h3 := h3.at (nO Lw hb_b3)
 replace hE := ew1.bl hE hB
 replace ht := Rep.Y ht ew1
 replace hk := hk.Y ew1
 replace hs := Rep.Y hs ew1
 replace hks := hks.Y ew1
 replace Lw := Lw.Y ew1
 replace hB := ew1.z hB
 refine lC (o_box rfl rfl rfl ?_)
 intro b5 w2 hb_b5 ew2 h5
 replace h5 : Box _ b5 25 [.int .u8 s.op, .string s.name, .int .i64 s.n, kvs] := h5
 replace h5 := h5.at (nO Lw hb_b5)
 replace hE := ew2.bl hE hB
 replace ht := Rep.Y ht ew2
 replace hk := hk.Y ew2
 replace hs := Rep.Y hs ew2
 replace hks := hks.Y ew2
 replace h3 := h3.Y ew2
 replace Lw := Lw.Y ew2
 replace hB := ew2.z hB
 refine lC (o_new tK rfl rfl rfl ?_)
 intro b6 w3 qb6 ew3 hb6
 have sw3 := Stp.add ew3 Lw hB (lQ qb6.symm) hb6.lt
 have h6 : MB w.heap.size (Rw.Add M b6) w3 b6 25 [.int .u8 0, .string ⟨#[]⟩, .int .i64 0, .slice none 0 0] := MB.mk' hb6 qb6 hB
 replace hE := hE.trans sw3.below
 replace ht := Rep.sp ht sw3
 replace hk := hk.sp sw3
 replace hs := Rep.sp hs sw3
 replace hks := hks.sp sw3
 replace h3 := h3.sp sw3
 replace h5 := h5.sp sw3
 replace hsub := sw3.sb hsub
 replace Lw := sw3.low
 replace hB := sw3.z hB
 refine q1 (cS (q0 ?_))
 refine lC (oL tK (fun j v hv => h3.cell j v hv) rfl rfl rfl rfl rfl rfl ?_)
 refine lC (oK fo70 rfl rfl rfl (either_specB t _ _ _ ht Lw) ?_)
 rintro _ w4 ⟨rfl, ew4⟩
 replace h6 := h6.Y Lw hB ew4
 replace hE := ew4.bl hE hB
 replace ht := Rep.Y ht ew4
 replace hk := hk.Y ew4
 replace hs := Rep.Y hs ew4
 replace hks := hks.Y ew4
 replace h3 := h3.Y ew4
 replace h5 := h5.Y ew4
 replace Lw := Lw.Y ew4
 replace hB := ew4.z hB
 refine lP 2 tK rfl ?_
 refine l_splitB 10 _ rfl (fun c1 => ?_) (fun c1 => ?_)
 ·refine lP 4 tK rfl (q1 (cI rfl (q0 ?_)))
  refine lC (oL tK (fun j v hv => h3.cell j v hv) rfl rfl rfl rfl rfl rfl ?_)
  have l_h6 := h6.lt
  refine lC (oK fo67 rfl rfl rfl (copied_own t _ _ _ ht Lw hz) ?_)
  rintro vc w5 ⟨hc, ew5⟩
  replace hc := hc.ge hB
  have hGl : ∀ c, Plus NoM w4 w5 c → w4.heap.size ≤ c ∧ c < w5.heap.size := fun c h => h.elim (fun h => h.elim) id
  generalize Plus NoM w4 w5 = G at hc hGl
  have sw5 := (Stp.Y ew5 Lw hB).more hGl
  replace h6 := h6.sp sw5 (ew5.block b6 h6.lt)
  replace hE := hE.trans sw5.below
  replace ht := Rep.sp ht sw5
  replace hk := hk.sp sw5
  replace hs := Rep.sp hs sw5
  replace hks := hks.sp sw5
  replace h3 := h3.sp sw5
  replace h5 := h5.sp sw5
  replace hsub := sw5.sb hsub
  replace Lw := sw5.low
  replace hB := sw5.z hB
  have d_hc_h6 : ∀ x, G x → x ≠ b6 := fun x hx => by have := (hGl x hx).1; omega
  obtain ⟨kvc, usc, Hc, rfl, opc, nmc, n64c, hknc, hrc, hOc, hHc⟩ := oty_open hc
  refine lC (o_st tK h6.box rfl rfl rfl rfl hc.one rfl rfl ?_)
  intro w6 hw6 qw6 bew6
  have uw6 : UpdB _ _ _ := ⟨qw6, bew6⟩
  have sw6 := uw6.sp h6.inM Lw h6.ge
  have frw6 := qw6.2
  replace hc := hc.sp sw6 (fun x hx => frw6 x (hc.lt x hx).2 (d_hc_h6 x hx))
  replace hE := hE.trans sw6.below
  replace ht := Rep.sp ht sw6
  replace hk := hk.sp sw6
  replace hs := Rep.sp hs sw6
  replace hks := hks.sp sw6
  replace h3 := h3.sp sw6
  replace h5 := h5.sp sw6
  replace hsub := sw6.sb hsub
  replace Lw := sw6.low
  replace hB := sw6.z hB
  replace h6 : MB w.heap.size _ w6 b6 _ [.int .u8 t.op, .string t.name, .int .i64 t.n, kvc] := ⟨hw6, h6.inM, h6.ge⟩
  refine q1 (cR (xR ?_))
  refine x_ret1s tK (fun j v hv => h6.cell j v hv) rfl rfl rfl rfl rfl ?_
  have hfin : PutF t n s = t := by unfold PutF; rw [c1]; rfl
  rw [hfin]
  exact ⟨hc.mono (fun c h => .inr (hc.lt c h)) (fun c h => h.elim (fun h => h.elim) id), hE⟩
 refine lC (oL tK (fun j v hv => h5.cell j v hv) rfl rfl rfl rfl rfl rfl ?_)
 refine lC (oK fo70 rfl rfl rfl (either_specB s _ _ _ hs Lw) ?_)
 rintro _ w7 ⟨rfl, ew7⟩
 replace h6 := h6.Y Lw hB ew7
 replace hE := ew7.bl hE hB
 replace ht := Rep.Y ht ew7
 replace hk := hk.Y ew7
 replace hs := Rep.Y hs ew7
 replace hks := hks.Y ew7
 replace h3 := h3.Y ew7
 replace h5 := h5.Y ew7
 replace Lw := Lw.Y ew7
 replace hB := ew7.z hB
 refine lP 2 tK rfl (q1 ?_)
 refine c_ifB _ rfl (fun c2 => ?_) (fun c2 => ?_)
 ·refine q0 ?_
  refine lC (oL tK (fun j v hv => h3.cell j v hv) rfl rfl rfl rfl rfl rfl ?_)
  have l_h6 := h6.lt
  refine lC (oK fo67 rfl rfl rfl (copied_own t _ _ _ ht Lw hz) ?_)
  rintro vc w8 ⟨hc, ew8⟩
  replace hc := hc.ge hB
  have hGl : ∀ c, Plus NoM w7 w8 c → w7.heap.size ≤ c ∧ c < w8.heap.size := fun c h => h.elim (fun h => h.elim) id
  generalize Plus NoM w7 w8 = G at hc hGl
  have sw8 := (Stp.Y ew8 Lw hB).more hGl
  replace h6 := h6.sp sw8 (ew8.block b6 h6.lt)
  replace hE := hE.trans sw8.below
  replace ht := Rep.sp ht sw8
  replace hk := hk.sp sw8
  replace hs := Rep.sp hs sw8
  replace hks := hks.sp sw8
  replace h3 := h3.sp sw8
  replace h5 := h5.sp sw8
  replace hsub := sw8.sb hsub
  replace Lw := sw8.low
  replace hB := sw8.z hB
  have d_hc_h6 : ∀ x, G x → x ≠ b6 := fun x hx => by have := (hGl x hx).1; omega
  obtain ⟨kvc, usc, Hc, rfl, opc, nmc, n64c, hknc, hrc, hOc, hHc⟩ := oty_open hc
  refine lC (o_st tK h6.box rfl rfl rfl rfl hc.one rfl rfl ?_)
  intro w9 hw9 qw9 bew9
  have uw9 : UpdB _ _ _ := ⟨qw9, bew9⟩
  have sw9 := uw9.sp h6.inM Lw h6.ge
  have frw9 := qw9.2
  replace hc := hc.sp sw9 (fun x hx => frw9 x (hc.lt x hx).2 (d_hc_h6 x hx))
  replace hE := hE.trans sw9.below
  replace ht := Rep.sp ht sw9
  replace hk := hk.sp sw9
  replace hs := Rep.sp hs sw9
  replace hks := hks.sp sw9
  replace h3 := h3.sp sw9
  replace h5 := h5.sp sw9
  replace hsub := sw9.sb hsub
  replace Lw := sw9.low
  replace hB := sw9.z hB
  replace h6 : MB w.heap.size _ w9 b6 _ [.int .u8 t.op, .string t.name, .int .i64 t.n, kvc] := ⟨hw9, h6.inM, h6.ge⟩
  refine q1 (cR (xR ?_))
  refine x_ret1s tK (fun j v hv => h6.cell j v hv) rfl rfl rfl rfl rfl ?_
  have hfin : PutF t n s = t := by unfold PutF; rw [c1, c2]; rfl
  rw [hfin]
  exact ⟨hc.mono (fun c h => .inr (hc.lt c h)) (fun c h => h.elim (fun h => h.elim) id), hE⟩
 refine cK (xS (cS ?_))
 refine a_beg Ext rfl ?_
 intro w10 ew10
 replace h6 := h6.Y Lw hB ew10
 replace hE := ew10.bl hE hB
 replace ht := Rep.Y ht ew10
 replace hk := hk.Y ew10
 replace hs := Rep.Y hs ew10
 replace hks := hks.Y ew10
 replace h3 := h3.Y ew10
 replace h5 := h5.Y ew10
 replace Lw := Lw.Y ew10
 replace hB := ew10.z hB
 have hS : Ext w10 w10 := ext_refl _
 have D_hk := hk
 have D_hks := hks
 have D_h3 := h3
 have D_h5 := h5
 have D_h6 := h6.box
 refine a_lds 0 tK (fun _ hs j v hv => (D_h3.Y hs).cell j v hv) rfl rfl rfl rfl rfl rfl rfl (by kernel_rfl) i3 hS ?_
 refine a_p 2 tK rfl rfl rfl rfl (by kernel_rfl) i3 hS ?_
 refine a_lds 3 tK (fun _ hs j v hv => (D_h5.Y hs).cell j v hv) rfl rfl rfl rfl rfl rfl rfl (by kernel_rfl) i3 hS ?_
 refine a_lds 6 tK (fun _ hs j v hv => (D_h5.Y hs).cell j v hv) rfl rfl rfl rfl rfl rfl rfl (by kernel_rfl) i3 hS ?_
 have l_h6 := h6.lt
 refine a_one 1 rfl (by kernel_rfl) (oK fo67 rfl rfl rfl (copied_own t _ _ _ ht Lw hz) ?_)
 rintro vc w11 ⟨hc, ew11⟩
 replace hc := hc.ge hB
 have hGl : ∀ c, Plus NoM w10 w11 c → w10.heap.size ≤ c ∧ c < w11.heap.size := fun c h => h.elim (fun h => h.elim) id
 generalize Plus NoM w10 w11 = G at hc hGl
 have sw11 := (Stp.Y ew11 Lw hB).more hGl
 replace hS := hS.then ew11
 replace h6 := h6.sp sw11 (ew11.block b6 h6.lt)
 replace hE := hE.trans sw11.below
 replace ht := Rep.sp ht sw11
 replace hk := hk.sp sw11
 replace hs := Rep.sp hs sw11
 replace hks := hks.sp sw11
 replace h3 := h3.sp sw11
 replace h5 := h5.sp sw11
 replace hsub := sw11.sb hsub
 replace Lw := sw11.low
 replace hB := sw11.z hB
 refine ⟨hS, ?_⟩
 have d_hc_h6 : ∀ x, G x → x ≠ b6 := fun x hx => by have := (hGl x hx).1; omega
 refine a_one 4 rfl (by kernel_rfl) (oK fo18 rfl rfl rfl (kRow_specB s _ _ _ hs Lw) ?_)
 rintro _ w12 ⟨rfl, ew12⟩
 replace hS := hS.then ew12
 replace h6 := h6.Y Lw hB ew12
 replace hc := hc.Y Lw hB ew12
 replace hE := ew12.bl hE hB
 replace ht := Rep.Y ht ew12
 replace hk := hk.Y ew12
 replace hs := Rep.Y hs ew12
 replace hks := hks.Y ew12
 replace h3 := h3.Y ew12
 replace h5 := h5.Y ew12
 replace Lw := Lw.Y ew12
 replace hB := ew12.z hB
 refine ⟨hS, ?_⟩
 refine a_build (cells := [.int .i64 n, .bool (rowB s)]) (css := [[.int .i64 n], [.bool (rowB s)]]) 5 bd77 rfl rfl rfl rfl rfl rfl (by kernel_rfl) i3 hS ?_
 have l2_h6 := h6.lt
 have lc := hc.lt
 refine a_barS Ext 7 rfl (by kernel_rfl) (by kernel_rfl) (oK fo71 rfl rfl rfl (put_own t n (rowB s) s _ _ w.heap.size _ _ G hc (fun c hc => .inr hc) hs Lw hB hzs) ?_)
 rintro vq w13 ⟨Mw13, Fw13, hq, hq2, sw13, kw13⟩
 replace h6 := h6.sp sw13 (kw13.blk b6 ⟨h6.lt, fun g => d_hc_h6 _ g rfl⟩)
 replace hE := hE.trans sw13.below
 replace ht := Rep.sp ht sw13
 replace hk := hk.sp sw13
 replace hs := Rep.sp hs sw13
 replace hks := hks.sp sw13
 replace h3 := h3.sp sw13
 replace h5 := h5.sp sw13
 replace hsub := sw13.sb hsub
 replace Lw := sw13.low
 replace hB := sw13.z hB
 replace hS : Ext w13 w13 := ext_refl _
 have d_hq_h6 : ∀ x, Fw13 x → x ≠ b6 := fun x hx => (hq2 x hx).2.elim (d_hc_h6 x) (fun h => by omega)
 obtain ⟨kvq, usq, Hq, rfl, opq, nmq, n64q, hknq, hrq, hOq, hHq⟩ := oty_open hq
 have D_hk := hk
 have D_hks := hks
 have D_h3 := h3
 have D_h5 := h5
 have D_h6 := h6.box
 refine a_barS Ext 8 rfl (by kernel_rfl) (by kernel_rfl) (o_st tK h6.box rfl rfl rfl rfl hq.one rfl rfl ?_)
 intro w14 hw14 qw14 bew14
 have uw14 : UpdB _ _ _ := ⟨qw14, bew14⟩
 have sw14 := uw14.sp h6.inM Lw h6.ge
 have frw14 := qw14.2
 replace hq := hq.sp sw14 (fun x hx => frw14 x (hq.lt x hx).2 (d_hq_h6 x hx))
 replace hE := hE.trans sw14.below
 replace ht := Rep.sp ht sw14
 replace hk := hk.sp sw14
 replace hs := Rep.sp hs sw14
 replace hks := hks.sp sw14
 replace h3 := h3.sp sw14
 replace h5 := h5.sp sw14
 replace hsub := sw14.sb hsub
 replace Lw := sw14.low
 replace hB := sw14.z hB
 replace hS : Ext w14 w14 := ext_refl _
 replace h6 : MB w.heap.size _ w14 b6 _ [.int .u8 (putF (varOp (rowB s)) n s t).op, .string (putF (varOp (rowB s)) n s t).name, .int .i64 (putF (varOp (rowB s)) n s t).n, kvq] := ⟨hw14, h6.inM, h6.ge⟩
 have D_hk := hk
 have D_hks := hks
 have D_h3 := h3
 have D_h5 := h5
 have D_h6 := h6.box
 refine a_end (by kernel_rfl) ?_
 refine xS (cR ?_)
 refine x_ret1s tK (fun j v hv => h6.cell j v hv) rfl rfl rfl rfl rfl ?_
 have hfin : PutF t n s = putF (varOp (rowB s)) n s t := by unfold PutF; rw [c1, c2]; rfl
 rw [hfin]
 exact ⟨hq.mono (fun c h => .inr (hq.lt c h)) (fun c h => h.elim (fun h => h.elim) id), hE⟩
theorem refPut_spec : ∀ (t : Ty) (o n : Int) (s : Ty) (M : Nat → Prop) (w : World) (v u : Value), Rep.R M w v t → Rep.R M w u s → Low M w → psz t ≤ 2000000 → Calls Try.prog 29 #[v, .int .u8 o, .int .i64 n, u] w (Ret fun r w' => Rep.R M w' r (putF o n s t) ∧ Ext w w') := by
 refine Ty.ind fun t ih => ?_
 intro o n s M w v u ht hs hlow0 hsz
 have Lw := hlow0
 have hB := lR w.heap.size
 have hE := Below.refl w.heap.size w
 have hsub : ∀ b, M b → M b := fun _ h => h
 obtain ⟨kv, rfl, op, nm, n64, hk⟩ := tO ht
 obtain ⟨kvs, rfl, ops, nms, n64s, hks⟩ := tO hs
 have hps := psz_eq t
 have hkl := len_psz t.kids
 refine cN (n := 51) Try.func29 rfl rfl rfl ?_
 refine q0 ?_
 refine lC (o_box rfl rfl rfl ?_)
 intro b4 w1 hb_b4 ew1 h4
 replace h4 : Box _ b4 25 [.int .u8 t.op, .string t.name, .int .i64 t.n, kv] := h4
 replace h4 := h4.at (nO Lw hb_b4)
 replace hE := ew1.bl hE hB
 replace ht := Rep.Y ht ew1
 replace hk := hk.Y ew1
 replace hs := Rep.Y hs ew1
 replace hks := hks.Y ew1
 replace Lw := Lw.Y ew1
 replace hB := ew1.z hB
 refine lC (o_box rfl rfl rfl ?_)
 intro b7 w2 hb_b7 ew2 h7
 replace h7 : Box _ b7 25 [.int .u8 s.op, .string s.name, .int .i64 s.n, kvs] := h7
 replace h7 := h7.at (nO Lw hb_b7)
 replace hE := ew2.bl hE hB
 replace ht := Rep.Y ht ew2
 replace hk := hk.Y ew2
 replace hs := Rep.Y hs ew2
 replace hks := hks.Y ew2
 replace h4 := h4.Y ew2
 replace Lw := Lw.Y ew2
 replace hB := ew2.z hB
 refine lC (o_new tK rfl rfl rfl ?_)
 intro b8 w3 qb8 ew3 hb8
 have sw3 := Stp.add ew3 Lw hB (lQ qb8.symm) hb8.lt
 have h8 : MB w.heap.size (Rw.Add M b8) w3 b8 25 [.int .u8 0, .string ⟨#[]⟩, .int .i64 0, .slice none 0 0] := MB.mk' hb8 qb8 hB
 replace hE := hE.trans sw3.below
 replace ht := Rep.sp ht sw3
 replace hk := hk.sp sw3
 replace hs := Rep.sp hs sw3
 replace hks := hks.sp sw3
 replace h4 := h4.sp sw3
 replace h7 := h7.sp sw3
 replace hsub := sw3.sb hsub
 replace Lw := sw3.low
 replace hB := sw3.z hB
 refine q1 (cS (q0 (lP 1 tK rfl ?_)))
 refine lC (oD tK (h4.cell 0 _ rfl) rfl rfl rfl rfl rfl ?_)
 refine lP 3 tK rfl ?_
 refine lS 15 _ rfl (fun c1 => ?_) (fun c1 => ?_)
 ·refine lP 1 tK rfl ?_
  refine lC (oD tK (h4.cell 2 _ rfl) rfl rfl rfl rfl rfl ?_)
  refine lP 3 tK rfl (q1 ?_)
  refine cP _ rfl (fun c2 => ?_) (fun c2 => ?_)
  ·refine q0 ?_
   refine lC (oL tK (fun j v hv => h7.cell j v hv) rfl rfl rfl rfl rfl rfl ?_)
   refine lC (o_st tK h8.box rfl rfl rfl rfl (Rep.one hs) rfl rfl ?_)
   intro w4 hw4 qw4 bew4
   have uw4 : UpdB _ _ _ := ⟨qw4, bew4⟩
   have sw4 := uw4.sp h8.inM Lw h8.ge
   have frw4 := qw4.2
   replace hE := hE.trans sw4.below
   replace ht := Rep.sp ht sw4
   replace hk := hk.sp sw4
   replace hs := Rep.sp hs sw4
   replace hks := hks.sp sw4
   replace h4 := h4.sp sw4
   replace h7 := h7.sp sw4
   replace hsub := sw4.sb hsub
   replace Lw := sw4.low
   replace hB := sw4.z hB
   replace h8 : MB w.heap.size _ w4 b8 _ [.int .u8 s.op, .string s.name, .int .i64 s.n, kvs] := ⟨hw4, h8.inM, h8.ge⟩
   refine q1 (cR (xR ?_))
   refine x_ret1s tK (fun j v hv => h8.cell j v hv) rfl rfl rfl rfl rfl ?_
   rw [put_hit (by clear ih; simp_all) (by clear ih; simp_all)]
   exact ⟨Rep.wk hs (fun b _ h => hsub b h), hE⟩
  refine cK (xS (q0 (lP 1 tK rfl ?_)))
  refine lC (oD tK (h4.cell 0 _ rfl) rfl rfl rfl rfl rfl ?_)
  refine lP 1 tK rfl ?_
  refine lC (oD tK (h4.cell 1 _ rfl) rfl rfl rfl rfl rfl ?_)
  refine lP 1 tK rfl ?_
  refine lC (oD tK (h4.cell 2 _ rfl) rfl rfl rfl rfl rfl ?_)
  refine lC (o_build (cells := [.int .u8 t.op, .string t.name, .int .i64 t.n, .slice none 0 0]) (css := [[.int .u8 t.op], [.string t.name], [.int .i64 t.n]]) bd25 rfl rfl rfl rfl rfl ?_)
  refine lC (o_new tK rfl rfl rfl ?_)
  intro b9 w5 qb9 ew5 hb9
  have ne_h8_h9 : b8 ≠ b9 := by have := h8.lt; omega
  have sw5 := Stp.add ew5 Lw hB (lQ qb9.symm) hb9.lt
  have h9 : MB w.heap.size (Rw.Add (Rw.Add M b8) b9) w5 b9 25 [.int .u8 0, .string ⟨#[]⟩, .int .i64 0, .slice none 0 0] := MB.mk' hb9 qb9 hB
  replace h8 := h8.sp sw5 (ew5.block b8 h8.lt)
  replace hE := hE.trans sw5.below
  replace ht := Rep.sp ht sw5
  replace hk := hk.sp sw5
  replace hs := Rep.sp hs sw5
  replace hks := hks.sp sw5
  replace h4 := h4.sp sw5
  replace h7 := h7.sp sw5
  replace hsub := sw5.sb hsub
  replace Lw := sw5.low
  replace hB := sw5.z hB
  refine lC (o_st tK h9.box rfl rfl rfl rfl (by intro u hu; simp [Value.cells] at hu; rcases hu with rfl | rfl | rfl | rfl <;> rfl) rfl rfl ?_)
  intro w6 hw6 qw6 bew6
  have uw6 : UpdB _ _ _ := ⟨qw6, bew6⟩
  have sw6 := uw6.sp h9.inM Lw h9.ge
  have frw6 := qw6.2
  replace h8 := h8.sp sw6 (frw6 b8 h8.lt ne_h8_h9)
  replace hE := hE.trans sw6.below
  replace ht := Rep.sp ht sw6
  replace hk := hk.sp sw6
  replace hs := Rep.sp hs sw6
  replace hks := hks.sp sw6
  replace h4 := h4.sp sw6
  replace h7 := h7.sp sw6
  replace hsub := sw6.sb hsub
  replace Lw := sw6.low
  replace hB := sw6.z hB
  replace h9 : MB w.heap.size _ w6 b9 _ [.int .u8 t.op, .string t.name, .int .i64 t.n, .slice none 0 0] := ⟨hw6, h9.inM, h9.ge⟩
  refine q1 (cS (q0 (lP 1 tK rfl (q1 (cB ?_)))))
  have d_ho_h8 : ∀ x, (.slice none 0 0 : Value).ownBlock = some x → x ≠ b8 := fun x hx => by simp [Value.ownBlock] at hx
  have d_ho_h9 : ∀ x, (.slice none 0 0 : Value).ownBlock = some x → x ≠ b9 := fun x hx => by simp [Value.ownBlock] at hx
  refine c_loop3 (X := Nat) (Y := Value) (Z := Nat → Prop) (fun i wv M1 => [(1, .int .u8 o), (2, .int .i64 n), (7, .pointer (some ⟨b7, 0, none⟩)), (4, .pointer (some ⟨b4, 0, none⟩)), (8, .pointer (some ⟨b8, 0, none⟩)), (9, .pointer (some ⟨b9, 0, none⟩)), (10, .int .i64 (i : Nat))]) (fun i wv M1 w' => i ≤ t.kids.length ∧ OwnSl 25 w.heap.size M1 w' wv ((t.kids.take i).map (putF o n s)) ∧ MB w.heap.size M1 w' b8 25 [.int .u8 0, .string ⟨#[]⟩, .int .i64 0, .slice none 0 0] ∧ MB w.heap.size M1 w' b9 25 [.int .u8 t.op, .string t.name, .int .i64 t.n, wv] ∧ At M1 w' b4 0 [.int .u8 t.op, .string t.name, .int .i64 t.n, kv] ∧ (∀ x, (wv : Value).ownBlock = some x → x ≠ b8) ∧ (∀ x, (wv : Value).ownBlock = some x → x ≠ b9) ∧ Sl M1 w' kv t.kids ∧ At M1 w' b7 0 [.int .u8 s.op, .string s.name, .int .i64 s.n, kvs] ∧ Rep.R M1 w' (.agg #[.int .u8 s.op, .string s.name, .int .i64 s.n, kvs]) s ∧ Low M1 w' ∧ (∀ b, M b → M1 b) ∧ Below w.heap.size w w' ∧ w.heap.size ≤ w'.heap.size) (fun i wv M1 => t.kids.length - i) (0) (.slice none 0 0) ((Rw.Add (Rw.Add M b8) b9)) (s7 rfl rfl rfl rfl rfl rfl rfl) ?_ ?_
  ·exact ⟨Nat.zero_le _, own_nil, h8, h9, h4, d_ho_h8, d_ho_h9, hk, h7, hs, Lw, hsub, hE, hB⟩
  rintro i wv M1 w7 ⟨hi, ho, h8, h9, h4, d_ho_h8, d_ho_h9, hk, h7, hs, Lw, hsub, hE, hB⟩
  refine cS (q0 (lP 2 tK rfl ?_))
  refine lC (oD tK (h4.cell 3 _ rfl) rfl rfl rfl rfl rfl ?_)
  refine lC (o_len tK hk rfl rfl rfl rfl rfl ?_)
  refine lP 1 tK rfl (q1 ?_)
  refine cP _ rfl (fun c3 => ?_) (fun c3 => ?_)
  ·refine cK (xS (cS (cB ?_)))
   refine a_beg Ext rfl ?_
   intro w8 ew8
   replace ho := ho.Y Lw hB ew8
   replace h8 := h8.Y Lw hB ew8
   replace h9 := h9.Y Lw hB ew8
   replace hE := ew8.bl hE hB
   replace h4 := h4.Y ew8
   replace hk := hk.Y ew8
   replace h7 := h7.Y ew8
   replace hs := Rep.Y hs ew8
   replace Lw := Lw.Y ew8
   replace hB := ew8.z hB
   have hS : Ext w8 w8 := ext_refl _
   have D_h8 := h8.box
   have D_h9 := h9.box
   have D_h4 := h4
   have D_hk := hk
   have D_h7 := h7
   refine a_p 0 tK rfl rfl rfl rfl (by kernel_rfl) i3 hS ?_
   refine a_ld 1 tK (fun _ hs => (D_h9.Y hs).cell 3 _ rfl) rfl rfl rfl rfl rfl rfl (by kernel_rfl) i3 hS ?_
   refine a_p 2 tK rfl rfl rfl rfl (by kernel_rfl) i3 hS ?_
   refine a_ld 3 tK (fun _ hs => (D_h4.Y hs).cell 3 _ rfl) rfl rfl rfl rfl rfl rfl (by kernel_rfl) i3 hS ?_
   refine a_p 4 tK rfl rfl rfl rfl (by kernel_rfl) i3 hS ?_
   have hik : i < t.kids.length := by omega
   have hp1 := psz_get hik
   refine a_ixS 5 tK D_hk (gE hik) rfl rfl rfl rfl rfl rfl rfl rfl rfl rfl (by kernel_rfl) i4 hS ?_
   intro ebx eox eux hyx hX
   obtain ⟨kvx, rfl, opx, nmx, n64x, hkx⟩ := tO hyx
   replace hX : At M1 w8 ebx eox [.int .u8 t.kids[i].op, .string t.kids[i].name, .int .i64 t.kids[i].n, kvx] := hX
   refine a_lds 6 tK (fun _ hs j v hv => (hX.Y hs).cell j v hv) rfl rfl rfl rfl rfl rfl rfl (by kernel_rfl) i3 hS ?_
   refine a_p 7 tK rfl rfl rfl rfl (by kernel_rfl) i3 hS ?_
   refine a_p 8 tK rfl rfl rfl rfl (by kernel_rfl) i3 hS ?_
   refine a_lds 9 tK (fun _ hs j v hv => (D_h7.Y hs).cell j v hv) rfl rfl rfl rfl rfl rfl rfl (by kernel_rfl) i3 hS ?_
   refine a_one 10 rfl (by kernel_rfl) (oK fo29 rfl rfl rfl (ih _ (gM hik) o n s _ _ _ _ hyx hs Lw (by omega)) ?_)
   rintro vc w9 ⟨hc, ew9⟩
   replace hS := hS.then ew9
   replace ho := ho.Y Lw hB ew9
   replace h8 := h8.Y Lw hB ew9
   replace h9 := h9.Y Lw hB ew9
   replace hE := ew9.bl hE hB
   replace h4 := h4.Y ew9
   replace hk := hk.Y ew9
   replace h7 := h7.Y ew9
   replace hs := Rep.Y hs ew9
   replace hyx := Rep.Y hyx ew9
   replace hkx := hkx.Y ew9
   replace hX := hX.Y ew9
   replace Lw := Lw.Y ew9
   replace hB := ew9.z hB
   refine ⟨hS, ?_⟩
   refine a_one 11 rfl (by kernel_rfl) (o_bs tK rfl rfl rfl rfl rfl rfl rfl (sz1 (Rep.size hc)) rfl rfl rfl ?_)
   intro bw10 w10 qbw10 ew10 hbw10
   have nbw10 := nO Lw qbw10
   replace hS := hS.then ew10
   replace ho := ho.Y Lw hB ew10
   replace h8 := h8.Y Lw hB ew10
   replace h9 := h9.Y Lw hB ew10
   replace hE := ew10.bl hE hB
   replace h4 := h4.Y ew10
   replace hk := hk.Y ew10
   replace h7 := h7.Y ew10
   replace hs := Rep.Y hs ew10
   replace hyx := Rep.Y hyx ew10
   replace hkx := hkx.Y ew10
   replace hX := hX.Y ew10
   replace hc := Rep.Y hc ew10
   replace Lw := Lw.Y ew10
   replace hB := ew10.z hB
   refine ⟨hS, ?_⟩
   refine a_barS Ext 12 rfl (by kernel_rfl) (by kernel_rfl) (o_app1 tK ho hbw10 nbw10 hc Lw hB rfl rfl rfl rfl rfl rfl rfl (by simp; omega) (by show (_ + _) * 56 ≤ _; simp; omega) rfl rfl ?_)
   intro vw11 w11 Mw11 hw11 sw11 frw11 blw11
   have zd_ho_h8 := d_ho_h8
   replace d_ho_h8 : ∀ x, (vw11 : Value).ownBlock = some x → x ≠ b8 := fun x hx => (blw11 x hx).elim (d_ho_h8 x) (fun h e => by have := h8.lt; omega)
   have zd_ho_h9 := d_ho_h9
   replace d_ho_h9 : ∀ x, (vw11 : Value).ownBlock = some x → x ≠ b9 := fun x hx => (blw11 x hx).elim (d_ho_h9 x) (fun h e => by have := h9.lt; omega)
   replace h8 := h8.sp sw11 (frw11 b8 h8.lt (fun e => zd_ho_h8 _ e.symm rfl))
   replace h9 := h9.sp sw11 (frw11 b9 h9.lt (fun e => zd_ho_h9 _ e.symm rfl))
   replace hE := hE.trans sw11.below
   replace h4 := h4.sp sw11
   replace hk := hk.sp sw11
   replace h7 := h7.sp sw11
   replace hs := Rep.sp hs sw11
   replace hyx := Rep.sp hyx sw11
   replace hkx := hkx.sp sw11
   replace hX := hX.sp sw11
   replace hc := Rep.sp hc sw11
   replace hsub := sw11.sb hsub
   replace Lw := sw11.low
   replace hB := sw11.z hB
   replace hS : Ext w11 w11 := ext_refl _
   replace ho := hw11
   clear hw11
   have D_h8 := h8.box
   have D_h9 := h9.box
   have D_h4 := h4
   have D_hk := hk
   have D_h7 := h7
   have D_hkx := hkx
   have D_hatx := hX
   refine a_p 13 tK rfl rfl rfl rfl (by kernel_rfl) i3 hS ?_
   obtain ⟨av6, cv6, rfl, _⟩ := ho.val
   refine a_barS Ext 14 rfl (by kernel_rfl) (by kernel_rfl) (o_st tK h9.box rfl rfl rfl rfl (by simp [Value.cells, Value.oneCell']) rfl rfl ?_)
   intro w12 hw12 qw12 bew12
   have uw12 : UpdB _ _ _ := ⟨qw12, bew12⟩
   have sw12 := uw12.sp h9.inM Lw h9.ge
   have frw12 := qw12.2
   replace ho := ho.sp sw12 (fun x hx => frw12 x (ho.lt x hx).2 (d_ho_h9 x hx))
   replace h8 := h8.sp sw12 (frw12 b8 h8.lt ne_h8_h9)
   replace hE := hE.trans sw12.below
   replace h4 := h4.sp sw12
   replace hk := hk.sp sw12
   replace h7 := h7.sp sw12
   replace hs := Rep.sp hs sw12
   replace hyx := Rep.sp hyx sw12
   replace hkx := hkx.sp sw12
   replace hX := hX.sp sw12
   replace hc := Rep.sp hc sw12
   replace hsub := sw12.sb hsub
   replace Lw := sw12.low
   replace hB := sw12.z hB
   replace hS : Ext w12 w12 := ext_refl _
   replace h9 : MB w.heap.size _ w12 b9 _ [.int .u8 t.op, .string t.name, .int .i64 t.n, (.slice av6 ((t.kids.take i).map (putF o n s) ++ [(putF o n s) t.kids[i]]).length cv6)] := ⟨hw12, h9.inM, h9.ge⟩
   have D_h8 := h8.box
   have D_h9 := h9.box
   have D_h4 := h4
   have D_hk := hk
   have D_h7 := h7
   have D_hkx := hkx
   have D_hatx := hX
   refine a_end (by kernel_rfl) ?_
   refine x_blk (xS (cG (lP 1 tK rfl ?_)))
   refine lC (o_ai rfl rfl rfl (by omega) rfl rfl ?_)
   refine lP 1 tK rfl (lN ?_)
   exact x_round3 (i + 1) ((.slice av6 ((t.kids.take i).map (putF o n s) ++ [(putF o n s) t.kids[i]]).length cv6)) (Mw11) (s7 rfl rfl rfl rfl rfl rfl (gN rfl (by omega))) ⟨by omega, by rw [List.take_succ_eq_append_getElem hik, List.map_append]; exact ho, h8, h9, h4, d_ho_h8, d_ho_h9, hk, h7, hs, Lw, hsub, hE, hB⟩ (by omega)
  refine c_exit (xE (xE (x_blkE (xS (q0 ?_)))))
  refine lC (oL tK (fun j v hv => h9.cell j v hv) rfl rfl rfl rfl rfl rfl ?_)
  obtain rfl : i = t.kids.length := by omega
  rw [List.take_of_length_le (lR _)] at ho
  obtain ⟨av, cv, rfl, hcv⟩ := ho.val
  have hml : (t.kids.map (putF o n s)).length = t.kids.length := List.length_map _
  refine lC (o_st tK h8.box rfl rfl rfl rfl (by intro u hu; simp [Value.cells] at hu; rcases hu with rfl | rfl | rfl | rfl <;> rfl) rfl rfl ?_)
  intro w13 hw13 qw13 bew13
  have uw13 : UpdB _ _ _ := ⟨qw13, bew13⟩
  have sw13 := uw13.sp h8.inM Lw h8.ge
  have frw13 := qw13.2
  replace ho := ho.sp sw13 (fun x hx => frw13 x (ho.lt x hx).2 (d_ho_h8 x hx))
  replace h9 := h9.sp sw13 (frw13 b9 h9.lt ne_h8_h9.symm)
  replace hE := hE.trans sw13.below
  replace h4 := h4.sp sw13
  replace hk := hk.sp sw13
  replace h7 := h7.sp sw13
  replace hs := Rep.sp hs sw13
  replace hsub := sw13.sb hsub
  replace Lw := sw13.low
  replace hB := sw13.z hB
  replace h8 : MB w.heap.size _ w13 b8 _ [.int .u8 t.op, .string t.name, .int .i64 t.n, .slice av (t.kids.map (putF o n s)).length cv] := ⟨hw13, h8.inM, h8.ge⟩
  refine q1 (cR ?_)
  refine x_ret1s tK (fun j v hv => h8.cell j v hv) rfl rfl rfl rfl rfl ?_
  have hfin := ty_mk op nm n64 (ho.sl (by omega) hlow0 hsub)
  rw [← put_no (by clear ih; simp_all)] at hfin
  exact ⟨hfin, hE⟩
 refine lP 5 tK rfl (q1 (c_ifF rfl (cK (xS (q0 (lP 1 tK rfl ?_))))))
 refine lC (oD tK (h4.cell 0 _ rfl) rfl rfl rfl rfl rfl ?_)
 refine lP 1 tK rfl ?_
 refine lC (oD tK (h4.cell 1 _ rfl) rfl rfl rfl rfl rfl ?_)
 refine lP 1 tK rfl ?_
 refine lC (oD tK (h4.cell 2 _ rfl) rfl rfl rfl rfl rfl ?_)
 refine lC (o_build (cells := [.int .u8 t.op, .string t.name, .int .i64 t.n, .slice none 0 0]) (css := [[.int .u8 t.op], [.string t.name], [.int .i64 t.n]]) bd25 rfl rfl rfl rfl rfl ?_)
 refine lC (o_new tK rfl rfl rfl ?_)
 intro b9 w14 qb9 ew14 hb9
 have ne_h8_h9 : b8 ≠ b9 := by have := h8.lt; omega
 have sw14 := Stp.add ew14 Lw hB (lQ qb9.symm) hb9.lt
 have h9 : MB w.heap.size (Rw.Add (Rw.Add M b8) b9) w14 b9 25 [.int .u8 0, .string ⟨#[]⟩, .int .i64 0, .slice none 0 0] := MB.mk' hb9 qb9 hB
 replace h8 := h8.sp sw14 (ew14.block b8 h8.lt)
 replace hE := hE.trans sw14.below
 replace ht := Rep.sp ht sw14
 replace hk := hk.sp sw14
 replace hs := Rep.sp hs sw14
 replace hks := hks.sp sw14
 replace h4 := h4.sp sw14
 replace h7 := h7.sp sw14
 replace hsub := sw14.sb hsub
 replace Lw := sw14.low
 replace hB := sw14.z hB
 refine lC (o_st tK h9.box rfl rfl rfl rfl (by intro u hu; simp [Value.cells] at hu; rcases hu with rfl | rfl | rfl | rfl <;> rfl) rfl rfl ?_)
 intro w15 hw15 qw15 bew15
 have uw15 : UpdB _ _ _ := ⟨qw15, bew15⟩
 have sw15 := uw15.sp h9.inM Lw h9.ge
 have frw15 := qw15.2
 replace h8 := h8.sp sw15 (frw15 b8 h8.lt ne_h8_h9)
 replace hE := hE.trans sw15.below
 replace ht := Rep.sp ht sw15
 replace hk := hk.sp sw15
 replace hs := Rep.sp hs sw15
 replace hks := hks.sp sw15
 replace h4 := h4.sp sw15
 replace h7 := h7.sp sw15
 replace hsub := sw15.sb hsub
 replace Lw := sw15.low
 replace hB := sw15.z hB
 replace h9 : MB w.heap.size _ w15 b9 _ [.int .u8 t.op, .string t.name, .int .i64 t.n, .slice none 0 0] := ⟨hw15, h9.inM, h9.ge⟩
 refine q1 (cS (q0 (lP 1 tK rfl (q1 (cB ?_)))))
 have d_ho_h8 : ∀ x, (.slice none 0 0 : Value).ownBlock = some x → x ≠ b8 := fun x hx => by simp [Value.ownBlock] at hx
 have d_ho_h9 : ∀ x, (.slice none 0 0 : Value).ownBlock = some x → x ≠ b9 := fun x hx => by simp [Value.ownBlock] at hx
 refine c_loop3 (X := Nat) (Y := Value) (Z := Nat → Prop) (fun i wv M1 => [(1, .int .u8 o), (2, .int .i64 n), (7, .pointer (some ⟨b7, 0, none⟩)), (4, .pointer (some ⟨b4, 0, none⟩)), (8, .pointer (some ⟨b8, 0, none⟩)), (9, .pointer (some ⟨b9, 0, none⟩)), (10, .int .i64 (i : Nat))]) (fun i wv M1 w' => i ≤ t.kids.length ∧ OwnSl 25 w.heap.size M1 w' wv ((t.kids.take i).map (putF o n s)) ∧ MB w.heap.size M1 w' b8 25 [.int .u8 0, .string ⟨#[]⟩, .int .i64 0, .slice none 0 0] ∧ MB w.heap.size M1 w' b9 25 [.int .u8 t.op, .string t.name, .int .i64 t.n, wv] ∧ At M1 w' b4 0 [.int .u8 t.op, .string t.name, .int .i64 t.n, kv] ∧ (∀ x, (wv : Value).ownBlock = some x → x ≠ b8) ∧ (∀ x, (wv : Value).ownBlock = some x → x ≠ b9) ∧ Sl M1 w' kv t.kids ∧ At M1 w' b7 0 [.int .u8 s.op, .string s.name, .int .i64 s.n, kvs] ∧ Rep.R M1 w' (.agg #[.int .u8 s.op, .string s.name, .int .i64 s.n, kvs]) s ∧ Low M1 w' ∧ (∀ b, M b → M1 b) ∧ Below w.heap.size w w' ∧ w.heap.size ≤ w'.heap.size) (fun i wv M1 => t.kids.length - i) (0) (.slice none 0 0) ((Rw.Add (Rw.Add M b8) b9)) (s7 rfl rfl rfl rfl rfl rfl rfl) ?_ ?_
 ·exact ⟨Nat.zero_le _, own_nil, h8, h9, h4, d_ho_h8, d_ho_h9, hk, h7, hs, Lw, hsub, hE, hB⟩
 rintro i wv M1 w16 ⟨hi, ho, h8, h9, h4, d_ho_h8, d_ho_h9, hk, h7, hs, Lw, hsub, hE, hB⟩
 refine cS (q0 (lP 2 tK rfl ?_))
 refine lC (oD tK (h4.cell 3 _ rfl) rfl rfl rfl rfl rfl ?_)
 refine lC (o_len tK hk rfl rfl rfl rfl rfl ?_)
 refine lP 1 tK rfl (q1 ?_)
 refine cP _ rfl (fun c4 => ?_) (fun c4 => ?_)
 ·refine cK (xS (cS (cB ?_)))
  refine a_beg Ext rfl ?_
  intro w17 ew17
  replace ho := ho.Y Lw hB ew17
  replace h8 := h8.Y Lw hB ew17
  replace h9 := h9.Y Lw hB ew17
  replace hE := ew17.bl hE hB
  replace h4 := h4.Y ew17
  replace hk := hk.Y ew17
  replace h7 := h7.Y ew17
  replace hs := Rep.Y hs ew17
  replace Lw := Lw.Y ew17
  replace hB := ew17.z hB
  have hS : Ext w17 w17 := ext_refl _
  have D_h8 := h8.box
  have D_h9 := h9.box
  have D_h4 := h4
  have D_hk := hk
  have D_h7 := h7
  refine a_p 0 tK rfl rfl rfl rfl (by kernel_rfl) i3 hS ?_
  refine a_ld 1 tK (fun _ hs => (D_h9.Y hs).cell 3 _ rfl) rfl rfl rfl rfl rfl rfl (by kernel_rfl) i3 hS ?_
  refine a_p 2 tK rfl rfl rfl rfl (by kernel_rfl) i3 hS ?_
  refine a_ld 3 tK (fun _ hs => (D_h4.Y hs).cell 3 _ rfl) rfl rfl rfl rfl rfl rfl (by kernel_rfl) i3 hS ?_
  refine a_p 4 tK rfl rfl rfl rfl (by kernel_rfl) i3 hS ?_
  have hik : i < t.kids.length := by omega
  have hp1 := psz_get hik
  refine a_ixS 5 tK D_hk (gE hik) rfl rfl rfl rfl rfl rfl rfl rfl rfl rfl (by kernel_rfl) i4 hS ?_
  intro ebx eox eux hyx hX
  obtain ⟨kvx, rfl, opx, nmx, n64x, hkx⟩ := tO hyx
  replace hX : At M1 w17 ebx eox [.int .u8 t.kids[i].op, .string t.kids[i].name, .int .i64 t.kids[i].n, kvx] := hX
  refine a_lds 6 tK (fun _ hs j v hv => (hX.Y hs).cell j v hv) rfl rfl rfl rfl rfl rfl rfl (by kernel_rfl) i3 hS ?_
  refine a_p 7 tK rfl rfl rfl rfl (by kernel_rfl) i3 hS ?_
  refine a_p 8 tK rfl rfl rfl rfl (by kernel_rfl) i3 hS ?_
  refine a_lds 9 tK (fun _ hs j v hv => (D_h7.Y hs).cell j v hv) rfl rfl rfl rfl rfl rfl rfl (by kernel_rfl) i3 hS ?_
  refine a_one 10 rfl (by kernel_rfl) (oK fo29 rfl rfl rfl (ih _ (gM hik) o n s _ _ _ _ hyx hs Lw (by omega)) ?_)
  rintro vc w18 ⟨hc, ew18⟩
  replace hS := hS.then ew18
  replace ho := ho.Y Lw hB ew18
  replace h8 := h8.Y Lw hB ew18
  replace h9 := h9.Y Lw hB ew18
  replace hE := ew18.bl hE hB
  replace h4 := h4.Y ew18
  replace hk := hk.Y ew18
  replace h7 := h7.Y ew18
  replace hs := Rep.Y hs ew18
  replace hyx := Rep.Y hyx ew18
  replace hkx := hkx.Y ew18
  replace hX := hX.Y ew18
  replace Lw := Lw.Y ew18
  replace hB := ew18.z hB
  refine ⟨hS, ?_⟩
  refine a_one 11 rfl (by kernel_rfl) (o_bs tK rfl rfl rfl rfl rfl rfl rfl (sz1 (Rep.size hc)) rfl rfl rfl ?_)
  intro bw19 w19 qbw19 ew19 hbw19
  have nbw19 := nO Lw qbw19
  replace hS := hS.then ew19
  replace ho := ho.Y Lw hB ew19
  replace h8 := h8.Y Lw hB ew19
  replace h9 := h9.Y Lw hB ew19
  replace hE := ew19.bl hE hB
  replace h4 := h4.Y ew19
  replace hk := hk.Y ew19
  replace h7 := h7.Y ew19
  replace hs := Rep.Y hs ew19
  replace hyx := Rep.Y hyx ew19
  replace hkx := hkx.Y ew19
  replace hX := hX.Y ew19
  replace hc := Rep.Y hc ew19
  replace Lw := Lw.Y ew19
  replace hB := ew19.z hB
  refine ⟨hS, ?_⟩
  refine a_barS Ext 12 rfl (by kernel_rfl) (by kernel_rfl) (o_app1 tK ho hbw19 nbw19 hc Lw hB rfl rfl rfl rfl rfl rfl rfl (by simp; omega) (by show (_ + _) * 56 ≤ _; simp; omega) rfl rfl ?_)
  intro vw20 w20 Mw20 hw20 sw20 frw20 blw20
  have zd_ho_h8 := d_ho_h8
  replace d_ho_h8 : ∀ x, (vw20 : Value).ownBlock = some x → x ≠ b8 := fun x hx => (blw20 x hx).elim (d_ho_h8 x) (fun h e => by have := h8.lt; omega)
  have zd_ho_h9 := d_ho_h9
  replace d_ho_h9 : ∀ x, (vw20 : Value).ownBlock = some x → x ≠ b9 := fun x hx => (blw20 x hx).elim (d_ho_h9 x) (fun h e => by have := h9.lt; omega)
  replace h8 := h8.sp sw20 (frw20 b8 h8.lt (fun e => zd_ho_h8 _ e.symm rfl))
  replace h9 := h9.sp sw20 (frw20 b9 h9.lt (fun e => zd_ho_h9 _ e.symm rfl))
  replace hE := hE.trans sw20.below
  replace h4 := h4.sp sw20
  replace hk := hk.sp sw20
  replace h7 := h7.sp sw20
  replace hs := Rep.sp hs sw20
  replace hyx := Rep.sp hyx sw20
  replace hkx := hkx.sp sw20
  replace hX := hX.sp sw20
  replace hc := Rep.sp hc sw20
  replace hsub := sw20.sb hsub
  replace Lw := sw20.low
  replace hB := sw20.z hB
  replace hS : Ext w20 w20 := ext_refl _
  replace ho := hw20
  clear hw20
  have D_h8 := h8.box
  have D_h9 := h9.box
  have D_h4 := h4
  have D_hk := hk
  have D_h7 := h7
  have D_hkx := hkx
  have D_hatx := hX
  refine a_p 13 tK rfl rfl rfl rfl (by kernel_rfl) i3 hS ?_
  obtain ⟨av6, cv6, rfl, _⟩ := ho.val
  refine a_barS Ext 14 rfl (by kernel_rfl) (by kernel_rfl) (o_st tK h9.box rfl rfl rfl rfl (by simp [Value.cells, Value.oneCell']) rfl rfl ?_)
  intro w21 hw21 qw21 bew21
  have uw21 : UpdB _ _ _ := ⟨qw21, bew21⟩
  have sw21 := uw21.sp h9.inM Lw h9.ge
  have frw21 := qw21.2
  replace ho := ho.sp sw21 (fun x hx => frw21 x (ho.lt x hx).2 (d_ho_h9 x hx))
  replace h8 := h8.sp sw21 (frw21 b8 h8.lt ne_h8_h9)
  replace hE := hE.trans sw21.below
  replace h4 := h4.sp sw21
  replace hk := hk.sp sw21
  replace h7 := h7.sp sw21
  replace hs := Rep.sp hs sw21
  replace hyx := Rep.sp hyx sw21
  replace hkx := hkx.sp sw21
  replace hX := hX.sp sw21
  replace hc := Rep.sp hc sw21
  replace hsub := sw21.sb hsub
  replace Lw := sw21.low
  replace hB := sw21.z hB
  replace hS : Ext w21 w21 := ext_refl _
  replace h9 : MB w.heap.size _ w21 b9 _ [.int .u8 t.op, .string t.name, .int .i64 t.n, (.slice av6 ((t.kids.take i).map (putF o n s) ++ [(putF o n s) t.kids[i]]).length cv6)] := ⟨hw21, h9.inM, h9.ge⟩
  have D_h8 := h8.box
  have D_h9 := h9.box
  have D_h4 := h4
  have D_hk := hk
  have D_h7 := h7
  have D_hkx := hkx
  have D_hatx := hX
  refine a_end (by kernel_rfl) ?_
  refine x_blk (xS (cG (lP 1 tK rfl ?_)))
  refine lC (o_ai rfl rfl rfl (by omega) rfl rfl ?_)
  refine lP 1 tK rfl (lN ?_)
  exact x_round3 (i + 1) ((.slice av6 ((t.kids.take i).map (putF o n s) ++ [(putF o n s) t.kids[i]]).length cv6)) (Mw20) (s7 rfl rfl rfl rfl rfl rfl (gN rfl (by omega))) ⟨by omega, by rw [List.take_succ_eq_append_getElem hik, List.map_append]; exact ho, h8, h9, h4, d_ho_h8, d_ho_h9, hk, h7, hs, Lw, hsub, hE, hB⟩ (by omega)
 refine c_exit (xE (xE (x_blkE (xS (q0 ?_)))))
 refine lC (oL tK (fun j v hv => h9.cell j v hv) rfl rfl rfl rfl rfl rfl ?_)
 obtain rfl : i = t.kids.length := by omega
 rw [List.take_of_length_le (lR _)] at ho
 obtain ⟨av, cv, rfl, hcv⟩ := ho.val
 have hml : (t.kids.map (putF o n s)).length = t.kids.length := List.length_map _
 refine lC (o_st tK h8.box rfl rfl rfl rfl (by intro u hu; simp [Value.cells] at hu; rcases hu with rfl | rfl | rfl | rfl <;> rfl) rfl rfl ?_)
 intro w22 hw22 qw22 bew22
 have uw22 : UpdB _ _ _ := ⟨qw22, bew22⟩
 have sw22 := uw22.sp h8.inM Lw h8.ge
 have frw22 := qw22.2
 replace ho := ho.sp sw22 (fun x hx => frw22 x (ho.lt x hx).2 (d_ho_h8 x hx))
 replace h9 := h9.sp sw22 (frw22 b9 h9.lt ne_h8_h9.symm)
 replace hE := hE.trans sw22.below
 replace h4 := h4.sp sw22
 replace hk := hk.sp sw22
 replace h7 := h7.sp sw22
 replace hs := Rep.sp hs sw22
 replace hsub := sw22.sb hsub
 replace Lw := sw22.low
 replace hB := sw22.z hB
 replace h8 : MB w.heap.size _ w22 b8 _ [.int .u8 t.op, .string t.name, .int .i64 t.n, .slice av (t.kids.map (putF o n s)).length cv] := ⟨hw22, h8.inM, h8.ge⟩
 refine q1 (cR ?_)
 refine x_ret1s tK (fun j v hv => h8.cell j v hv) rfl rfl rfl rfl rfl ?_
 have hfin := ty_mk op nm n64 (ho.sl (by omega) hlow0 hsub)
 rw [← put_no (by clear ih; simp_all)] at hfin
 exact ⟨hfin, hE⟩
theorem rec_own (t : Ty) (M : Nat → Prop) (w : World) (v : Value) (ht : Rep.R M w v t) (hlow0 : Low M w) (hzt : psz t ≤ 2000000) :
  Calls Try.prog 31 #[v] w (Ret fun r w' => OTy 25 w.heap.size w' (Ty.mk 5 ⟨#[]⟩ 0 [t]) r (Plus NoM w w') ∧ Ext w w') := by
 have Lw := hlow0
 have hB := lR w.heap.size
 have hE := Below.refl w.heap.size w
 have hsub : ∀ b, M b → M b := fun _ h => h
 obtain ⟨kvt, rfl, opt, nmt, n64t, hkt⟩ := tO ht
 refine cN (n := 7) Try.func31 rfl rfl rfl ?_
 refine q0 ?_
 refine lC (o_box rfl rfl rfl ?_)
 intro b5 w1 hb_b5 ew1 h5
 replace h5 : Box _ b5 25 [.int .u8 t.op, .string t.name, .int .i64 t.n, kvt] := h5
 replace h5 := h5.at (nO Lw hb_b5)
 replace hE := ew1.bl hE hB
 replace ht := Rep.Y ht ew1
 replace hkt := hkt.Y ew1
 replace Lw := Lw.Y ew1
 replace hB := ew1.z hB
 refine lC (o_new tK rfl rfl rfl ?_)
 intro b9 w2 qb9 ew2 hb9
 have sw2 := Stp.add ew2 Lw hB (lQ qb9.symm) hb9.lt
 have h9 : MB w.heap.size (Rw.Add M b9) w2 b9 25 [.int .u8 0, .string ⟨#[]⟩, .int .i64 0, .slice none 0 0] := MB.mk' hb9 qb9 hB
 replace hE := hE.trans sw2.below
 replace ht := Rep.sp ht sw2
 replace hkt := hkt.sp sw2
 replace h5 := h5.sp sw2
 replace hsub := sw2.sb hsub
 replace Lw := sw2.low
 replace hB := sw2.z hB
 refine q1 (q0 ?_)
 refine lC (oL tK (fun j v hv => h5.cell j v hv) rfl rfl rfl rfl rfl rfl ?_)
 have l_h9 := h9.lt
 refine lC (oK fo67 rfl rfl rfl (copied_own t _ _ _ ht Lw hzt) ?_)
 rintro vct w3 ⟨hct, ew3⟩
 replace hct := hct.ge hB
 have hGlt : ∀ c, Plus NoM w2 w3 c → w2.heap.size ≤ c ∧ c < w3.heap.size := fun c h => h.elim (fun h => h.elim) id
 generalize Plus NoM w2 w3 = Gt at hct hGlt
 have sw3 := (Stp.Y ew3 Lw hB).more hGlt
 replace h9 := h9.sp sw3 (ew3.block b9 h9.lt)
 replace hE := hE.trans sw3.below
 replace ht := Rep.sp ht sw3
 replace hkt := hkt.sp sw3
 replace h5 := h5.sp sw3
 replace hsub := sw3.sb hsub
 replace Lw := sw3.low
 replace hB := sw3.z hB
 have d_hct_h9 : ∀ x, Gt x → x ≠ b9 := fun x hx => by have := (hGlt x hx).1; omega
 have l_hct := hct.lt
 have l9 := h9.lt
 have hB0 := hB
 refine lC (o_bs tK rfl rfl rfl rfl rfl rfl rfl (sz1 hct.size) rfl rfl rfl ?_)
 intro bw4 w4 qbw4 ew4 hbbw4
 have sw4 := Stp.add ew4 Lw hB (lQ qbw4.symm) hbbw4.lt
 replace h9 := h9.sp sw4 (ew4.block b9 h9.lt)
 replace hct := hct.sp sw4 (fun x hx => ew4.block x (hct.lt x hx).2)
 replace hE := hE.trans sw4.below
 replace ht := Rep.sp ht sw4
 replace hkt := hkt.sp sw4
 replace h5 := h5.sp sw4
 replace hsub := sw4.sb hsub
 replace Lw := sw4.low
 replace hB := sw4.z hB
 have hrs : Rs (α := VN 3) (fun c => c = bw4) w4 [vct] [⟨vct⟩] := ⟨hct.vn, trivial⟩
 have hown : OwnSl 25 w.heap.size (fun c => c = bw4) w4 (.slice (some ⟨bw4, 0, none⟩) 1 1) ([⟨vct⟩] : List (VN 3)) := own_lit hbbw4 hrs rfl (by omega) (by simp [maxLen])
 have hts := (ots_nil (E := 25) (B := w.heap.size) (w := w4) (F := NoM) (fun _ h => h.elim)).app hct (fun _ _ h => h)
 have hbl := hbbw4.lt
 refine lC (o_build (cells := [.int .u8 5, .string ⟨#[]⟩, .int .i64 0, .slice (some ⟨bw4, 0, none⟩) 1 1]) bd25 rfl rfl rfl rfl rfl ?_)
 have hnew : OTy 25 w.heap.size w4 (Ty.mk 5 ⟨#[]⟩ 0 [t]) (.agg #[.int .u8 5, .string ⟨#[]⟩, .int .i64 0, .slice (some ⟨bw4, 0, none⟩) 1 1]) (fun c => c = bw4 ∨ (NoM c ∨ Gt c)) := oty_mk (by decide) (by decide) ⟨by decide, by decide⟩ (by simp) (fun c hc2 => hc2.elim (fun h => by subst h; omega) (fun h => h.elim (fun h => h.elim) (hct.lt c))) (hown.keepV (fun x hx => .inl (hown.inM x hx)) (fun _ _ _ _ _ => rfl)) hts (fun c hc2 => ⟨.inr hc2, fun e => by simp [Value.ownBlock] at e; subst e; exact (fun h => h.elim id (fun h => by have := (l_hct _ h).2; omega)) hc2⟩)
 have d_hnew_h9 : ∀ x, (fun c => c = bw4 ∨ (NoM c ∨ Gt c)) x → x ≠ b9 := fun x hx => hx.elim (fun h => by omega) (fun h => h.elim (fun h => h.elim) (d_hct_h9 x))
 refine lC (o_st tK h9.box rfl rfl rfl rfl (by intro u hu; simp [Value.cells] at hu; rcases hu with rfl | rfl | rfl | rfl <;> rfl) rfl rfl ?_)
 intro w5 hw5 qw5 bew5
 have uw5 : UpdB _ _ _ := ⟨qw5, bew5⟩
 have sw5 := uw5.sp h9.inM Lw h9.ge
 have frw5 := qw5.2
 replace hnew := hnew.sp sw5 (fun x hx => frw5 x (hnew.lt x hx).2 (d_hnew_h9 x hx))
 replace hE := hE.trans sw5.below
 replace ht := Rep.sp ht sw5
 replace hkt := hkt.sp sw5
 replace h5 := h5.sp sw5
 replace hsub := sw5.sb hsub
 replace Lw := sw5.low
 replace hB := sw5.z hB
 replace h9 : MB w.heap.size _ w5 b9 _ [.int .u8 5, .string ⟨#[]⟩, .int .i64 0, .slice (some ⟨bw4, 0, none⟩) 1 1] := ⟨hw5, h9.inM, h9.ge⟩
 refine q1 (cR ?_)
 refine x_ret1s tK (fun j v hv => h9.cell j v hv) rfl rfl rfl rfl rfl ?_
 exact ⟨hnew.mono (fun c hc => .inr (hnew.lt c hc)) (fun c hc => hc.elim (fun h => h.elim) id), hE⟩
end Go.Proofs.Ytpoahmeacjggfaa
namespace Rw
open Go Go.RowKit
/-- Part i of a block's cells. -/
def quad (cs : List Value) (i : Nat) : List Value := (cs.drop (i * 4)).take 4
theorem quad_get {cs : List Value} {i q : Nat} (hq : q < 4) : (quad cs i)[q]? = cs[i * 4 + q]? := by
  unfold quad
  rw [List.getElem?_take_of_lt hq, List.getElem?_drop]
theorem quad_len {cs : List Value} {i n : Nat} (hi : i < n) (hn : n * 4 ≤ cs.length) : (quad cs i).length = 4 := by
  have : (i + 1) * 4 ≤ n * 4 := Nat.mul_le_mul_right _ hi
  unfold quad
  rw [List.length_take, List.length_drop]; omega
theorem quad_eq {cs u : List Value} {i : Nat} (hu : u.length = 4) (h : ∀ q c, u[q]? = some c → cs[i * 4 + q]? = some c) : quad cs i = u := by
  apply List.ext_getElem?
  intro q
  by_cases hq : q < 4
  · have hq' : q < u.length := by omega
    rw [quad_get hq, h q u[q] (gE hq'), gE hq']
  · rw [List.getElem?_eq_none (by unfold quad; rw [List.length_take]; omega), List.getElem?_eq_none (by omega)]
/-- One part written over. -/
def over (cs u : List Value) (j : Nat) : List Value := cs.take (j * 4) ++ u ++ cs.drop (j * 4 + u.length)
theorem over_len {cs u : List Value} {j : Nat} (hu : u.length = 4) (hj : j * 4 + 4 ≤ cs.length) : (over cs u j).length = cs.length := by
  unfold over
  simp only [List.length_append, List.length_take, List.length_drop]; omega
theorem over_get {cs u : List Value} {j p : Nat} (hu : u.length = 4) (hj : j * 4 + 4 ≤ cs.length) : (over cs u j)[p]? = if j * 4 ≤ p ∧ p < j * 4 + 4 then u[p - j * 4]? else cs[p]? := by
  unfold over
  have h1 : (cs.take (j * 4)).length = j * 4 := by rw [List.length_take]; omega
  rw [List.append_assoc]
  by_cases h : p < j * 4
  · rw [List.getElem?_append_left (by omega), List.getElem?_take_of_lt h, if_neg (by omega)]
  · rw [List.getElem?_append_right (by omega), h1]
    by_cases h2 : p < j * 4 + 4
    · rw [List.getElem?_append_left (by omega), if_pos ⟨by omega, h2⟩]
    · rw [List.getElem?_append_right (by omega), List.getElem?_drop, if_neg (by omega), hu]
      congr 1; omega
theorem quad_over {cs u : List Value} {i j : Nat} (hu : u.length = 4) (hj : j * 4 + 4 ≤ cs.length) : quad (over cs u j) i = if i = j then u else quad cs i := by
  apply List.ext_getElem?
  intro q
  by_cases hq : q < 4
  · rw [quad_get hq, over_get hu hj]
    by_cases e : i = j
    · subst e
      rw [if_pos rfl, if_pos (by omega)]
      congr 1; omega
    · rw [if_neg e, quad_get hq]
      have : i * 4 + 4 ≤ j * 4 ∨ j * 4 + 4 ≤ i * 4 := by omega
      rw [if_neg (by omega)]
  · have h0 : ∀ l : List Value, (quad l i)[q]? = none := fun l => List.getElem?_eq_none (by unfold quad; rw [List.length_take]; omega)
    rw [h0]
    split
    · rw [List.getElem?_eq_none (by omega)]
    · rw [h0]
def AlT (E : Nat) (F : Nat → Prop) (w : World) : Nat → Value → Prop
  | 0, _ => False
  | n + 1, v => ∃ (o : Int) (s : ByteArray) (k : Int) (kv : Value), v = .agg #[.int .u8 o, .string s, .int .i64 k, kv] ∧
      (kv = .slice none 0 0 ∨ ∃ (b len cap : Nat) (cs : List Value), kv = .slice (some ⟨b, 0, none⟩) len cap ∧ len < 140737488355328 ∧ F b ∧ Box w b E cs ∧ len * 4 ≤ cs.length ∧ ∀ i, i < len → AlT E F w n (.agg (quad cs i).toArray))
section
variable {E : Nat} {F F' : Nat → Prop} {w w' : World} {v : Value} {n m : Nat}
theorem AlT.leaf {o k : Int} {s : ByteArray} : AlT E F w (n + 1) (.agg #[.int .u8 o, .string s, .int .i64 k, .slice none 0 0]) := ⟨o, s, k, _, rfl, .inl rfl⟩
theorem AlT.mono : ∀ {n m : Nat} {v : Value}, AlT E F w n v → n ≤ m → AlT E F w m v
  | 0, _, _, h, _ => h.elim
  | n + 1, 0, _, _, h => by omega
  | _ + 1, m + 1, _, ⟨o, s, k, kv, hv, h⟩, hm => ⟨o, s, k, kv, hv, h.imp id fun ⟨b, len, cap, cs, h1, h2, h3, h4, h5, h6⟩ => ⟨b, len, cap, cs, h1, h2, h3, h4, h5, fun i hi => AlT.mono (h6 i hi) (by omega)⟩⟩
theorem AlT.more (hF : ∀ c, F c → F' c) : ∀ {n : Nat} {v : Value}, AlT E F w n v → AlT E F' w n v
  | 0, _, h => h.elim
  | _ + 1, _, ⟨o, s, k, kv, hv, h⟩ => ⟨o, s, k, kv, hv, h.imp id fun ⟨b, len, cap, cs, h1, h2, h3, h4, h5, h6⟩ => ⟨b, len, cap, cs, h1, h2, hF b h3, h4, h5, fun i hi => AlT.more hF (h6 i hi)⟩⟩
theorem AlT.keep (hw : ∀ c, F c → w'.heap[c]? = w.heap[c]?) : ∀ {n : Nat} {v : Value}, AlT E F w n v → AlT E F w' n v
  | 0, _, h => h.elim
  | _ + 1, _, ⟨o, s, k, kv, hv, h⟩ => ⟨o, s, k, kv, hv, h.imp id fun ⟨b, len, cap, cs, h1, h2, h3, h4, h5, h6⟩ => ⟨b, len, cap, cs, h1, h2, h3, ⟨(hw b h3).trans h4.heap⟩, h5, fun i hi => AlT.keep hw (h6 i hi)⟩⟩
theorem AlT.shape : ∀ {n : Nat} {v : Value}, AlT E F w n v → ∃ (o : Int) (s : ByteArray) (k : Int) (p : Option Addr) (len cap : Nat), v = .agg #[.int .u8 o, .string s, .int .i64 k, .slice p len cap] ∧ len < 140737488355328
  | 0, _, h => h.elim
  | _ + 1, _, ⟨o, s, k, kv, hv, h⟩ => by
    rcases h with rfl | ⟨b, len, cap, cs, rfl, h2, _⟩
    · exact ⟨o, s, k, _, _, _, hv, by omega⟩
    · exact ⟨o, s, k, _, _, _, hv, h2⟩
theorem AlT.kid {o k : Int} {s : ByteArray} {p : Option Addr} {len cap i : Nat} (h : AlT E F w (n + 1) (.agg #[.int .u8 o, .string s, .int .i64 k, .slice p len cap])) (hi : i < len) :
    ∃ b cs, p = some ⟨b, 0, none⟩ ∧ F b ∧ Box w b E cs ∧ len * 4 ≤ cs.length ∧ AlT E F w n (.agg (quad cs i).toArray) := by
  obtain ⟨o', s', k', kv, hv, h⟩ := h
  obtain rfl : Value.slice p len cap = kv := by
    have e := congrArg (fun v : Value => match v with | .agg cs => cs[3]? | _ => none) hv
    simpa using e
  rcases h with h | ⟨b, len', cap', cs, h1, h2, h3, h4, h5, h6⟩
  · simp only [Value.slice.injEq] at h; omega
  · simp only [Value.slice.injEq] at h1
    obtain ⟨rfl, rfl, rfl⟩ := h1
    exact ⟨b, cs, rfl, h3, h4, h5, h6 i hi⟩
theorem Box.quad {b i : Nat} {cs : List Value} (h : Box w b E cs) (q : Nat) (u : Value) (hq : (Rw.quad cs i)[q]? = some u) : w.cell? ⟨b, 0 + i * 4 + q, none⟩ = some u := by
  have h4 : q < 4 := by
    have h1 := (List.getElem?_eq_some_iff.1 hq).1
    unfold Rw.quad at h1
    rw [List.length_take] at h1; omega
  rw [quad_get h4] at hq
  have := h.cell (i * 4 + q) u hq
  rwa [Nat.add_assoc]
theorem AlT.set {b0 j : Nat} {cs0 u : List Value} {o k : Int} {s : ByteArray} (hb : Box w b0 E cs0) (hj : j * 4 + 4 ≤ cs0.length) (hu : u = [.int .u8 o, .string s, .int .i64 k, .slice none 0 0]) (hb' : Box w' b0 E (over cs0 u j)) (hw : ∀ x, x < w.heap.size → x ≠ b0 → w'.heap[x]? = w.heap[x]?) :
    ∀ {n : Nat} {v : Value}, AlT E F w n v → AlT E F w' n v
  | 0, _, h => h.elim
  | n + 1, v, ⟨o', s', k', kv, hv, h⟩ => by
    refine ⟨o', s', k', kv, hv, h.imp id ?_⟩
    rintro ⟨b, len, cap, cs, h1, h2, h3, h4, h5, h6⟩
    by_cases e : b = b0
    · subst e
      have hc : cs = cs0 := by
        have := h4.heap.symm.trans hb.heap
        simpa using this
      subst hc
      have hul : u.length = 4 := by rw [hu]; rfl
      refine ⟨b, len, cap, _, h1, h2, h3, hb', by rw [over_len hul hj]; exact h5, fun i hi => ?_⟩
      rw [quad_over hul hj]
      split
      · have := h6 i hi
        cases n with
        | zero => exact this.elim
        | succ n => rw [hu]; exact AlT.leaf
      · exact AlT.set hb hj hu hb' hw (h6 i hi)
    · exact ⟨b, len, cap, cs, h1, h2, h3, ⟨(hw b h4.lt e).trans h4.heap⟩, h5, fun i hi => AlT.set hb hj hu hb' hw (h6 i hi)⟩
theorem OTy.alt {B : Nat} {t : Ty} (h : OTy E B w t v F) : AlT E F w (psz t) v := by
  induction h with
  | @mk op n name kids kv us Fs F hop hs hn hl hlt hr hlen hu hF hd ih =>
    rw [psz_eq]
    refine ⟨op, name, n, kv, rfl, ?_⟩
    obtain ⟨vs, hrow, hrs⟩ := hr.row
    rcases hrow.2 with ⟨rfl, h0⟩ | ⟨g, cap, cur, rfl, hB, hg, hc, hcm, hcs, htake⟩
    · exact .inl rfl
    · refine .inr ⟨g, us.length, cap, cur.toList, rfl, by omega, hr.inM g rfl, ⟨hg⟩, ?_, fun i hi => ?_⟩
      · have h4 : Rep.sz (VN 3) = 4 := rfl
        rw [h4] at hcs
        have := Nat.mul_le_mul_right 4 hc
        have hl : cur.toList.length = cur.size := Array.length_toList
        omega
      · have hk : i < kids.length := by omega
        have h1 := ih i kids[i] us[i] (gE hk) (gE hi)
        obtain ⟨u, hu1, hu2, hsz, _⟩ := hrs.get (gE hi)
        rw [hu2] at hsz
        have hsl : us[i].v.cells.toList.length = 4 := by rw [Array.length_toList]; exact hsz
        have hq : quad cur.toList i = us[i].v.cells.toList := by
          refine quad_eq hsl fun q c hq => ?_
          have h4 : Rep.sz (VN 3) = 4 := rfl
          have hq4 : q < 4 := by have := (List.getElem?_eq_some_iff.1 hq).1; omega
          have := hrs.flat_get hu1 q c (by rw [hu2]; exact hq)
          rw [h4] at this htake
          rw [← htake, List.getElem?_take] at this
          split at this
          · exact this
          · cases this
        have hk1 : psz kids[i] ≤ pszs kids := psz_get hk
        have h2 : AlT E (Fs i) w (psz kids[i]) us[i].v := h1
        have h3 : us[i].v = .agg (quad cur.toList i).toArray := by
          rw [hq]
          obtain ⟨m, hm⟩ : ∃ m, psz kids[i] = m + 1 := ⟨psz kids[i] - 1, by have := psz_pos kids[i]; omega⟩
          rw [hm] at h2
          obtain ⟨o, s, k, kv, hv, _⟩ := h2
          rw [hv]; rfl
        rw [← h3]
        exact (h2.mono hk1).more fun c hc => (hF i c hk hc).1
/-! ## Types that are read, and whose values are such -/
/-- Besides, the value is such a tree. -/
def AlX (E : Nat) (F M : Nat → Prop) (w : World) (v : Value) : Prop := (∃ n, AlT E F w n v) ∧ ∀ c, F c → ¬ M c ∧ c < w.heap.size
theorem AlX.upd {M : Nat → Prop} (h : AlX E F M w v) (e : Upd M w w') : AlX E F M w' v :=
  ⟨let ⟨n, hn⟩ := h.1; ⟨n, hn.keep fun c hc => e.2 c (h.2 c hc).2 (h.2 c hc).1⟩, fun c hc => ⟨(h.2 c hc).1, lT (h.2 c hc).2 e.1⟩⟩
theorem AlX.wk {M M' : Nat → Prop} (h : AlX E F M w v) (e : ∀ b, b < w.heap.size → M' b → M b) : AlX E F M' w v :=
  ⟨h.1, fun c hc => ⟨fun hm => (h.2 c hc).1 (e c (h.2 c hc).2 hm), (h.2 c hc).2⟩⟩
@[reducible] def altD (E : Nat) (F : Nat → Prop) : TData where
  R := fun M w v t => TyR M w t v ∧ AlX E F M w v
  size := fun h => Rep.size (α := Ty) h.1
  one := fun h => Rep.one (α := Ty) h.1
  upd := fun h e => ⟨Rep.upd (α := Ty) h.1 e, h.2.upd e⟩
  wk := fun h e => ⟨Rep.wk (α := Ty) h.1 e, h.2.wk e⟩
@[reducible] def altT (E : Nat) (F : Nat → Prop) : TRep where
  d := altD E F
  op := by
    rintro M w v t ⟨h, ⟨n, hn⟩, hF⟩
    obtain ⟨kv, rfl, h1, h2, h3, a, cap, rfl, h4, h5, h6⟩ := tO (show Rep.R M w v t from h)
    refine ⟨_, rfl, h1, h2, h3, a, cap, rfl, h4, h5, ?_⟩
    rcases h6 with h6 | ⟨b, off, rfl, hel⟩
    · exact .inl h6
    · refine .inr ⟨b, off, rfl, fun i x hx => ?_⟩
      obtain ⟨u, hu, hat⟩ := hel i x hx
      refine ⟨u, ⟨hu, ?_, hF⟩, hat⟩
      cases n with
      | zero => exact hn.elim
      | succ n =>
        obtain ⟨o, s, k, kv, hv, hk⟩ := hn
        have hi := (List.getElem?_eq_some_iff.1 hx).1
        obtain rfl : Value.slice (some ⟨b, off, none⟩) t.kids.length cap = kv := by
          have e := congrArg (fun v : Value => match v with | .agg cs => cs[3]? | _ => none) hv
          simpa using e
        rcases hk with hk | ⟨b', len, cap', cs, hkv, _, _, hbx, hcs, hall⟩
        · cases hk
        · simp only [Value.slice.injEq, Option.some.injEq, Addr.mk.injEq] at hkv
          obtain ⟨⟨rfl, rfl, _⟩, rfl, rfl⟩ := hkv
          refine ⟨n, ?_⟩
          have h8 := hall i hi
          obtain ⟨kv2, rfl, _⟩ := tO hu
          rw [quad_eq (u := [.int .u8 x.op, .string x.name, .int .i64 x.n, kv2]) rfl (fun q c hq => ?_)] at h8
          · exact h8
          · have h9 := hat.cell q c hq
            have hz : Rep.sz Ty = 4 := rfl
            rw [hz, Nat.zero_add] at h9
            unfold World.cell? at h9
            simp only [hbx.heap] at h9
            simpa using h9
theorem alt_mk {M : Nat → Prop} {t : Ty} (h : Rep.R M w v t) (hA : AlT E F w n v) (hF : ∀ c, F c → ¬ M c ∧ c < w.heap.size) : @Rep.R Ty (@tyG (altT E F)) M w v t := ⟨h, ⟨n, hA⟩, hF⟩
end
theorem Rs.toV {α : Type} [Rep α] {k : Nat} (hk : Rep.sz α = k + 1) {M : Nat → Prop} {w : World} : ∀ {vs : List Value} {l : List α}, Rs M w vs l → Rs (α := VN k) M w vs (vs.map VN.mk) ∧ ∀ (i : Nat) (u : Value) (x : α), vs[i]? = some u → l[i]? = some x → Rep.R M w u x
  | [], [], _ => ⟨trivial, fun i u x h => by simp at h⟩
  | v :: vs, x :: l, h => by
    obtain ⟨h1, h2⟩ := Rs.toV hk h.2
    refine ⟨⟨⟨rfl, by rw [Rep.size h.1, hk], Rep.one h.1⟩, h1⟩, fun i u y hu hy => ?_⟩
    cases i with
    | zero => simp at hu hy; subst hu; subst hy; exact h.1
    | succ i => exact h2 i u y (by simpa using hu) (by simpa using hy)
  | [], _ :: _, h => h.elim
  | _ :: _, [], h => h.elim
theorem OwnSl.toV {α : Type} [Rep α] {k e B : Nat} {M : Nat → Prop} {w : World} {v : Value} {l : List α} (hk : Rep.sz α = k + 1) (h : OwnSl e B M w v l) : ∃ us : List (VN k), OwnSl e B M w v us ∧ us.length = l.length ∧ ∀ (i : Nat) (u : VN k) (x : α), us[i]? = some u → l[i]? = some x → Rep.R M w u.v x := by
  obtain ⟨vs, hr, hs⟩ := h.row
  obtain ⟨h1, h2⟩ := Rs.toV hk hs
  have hl : vs.length = l.length := hs.length
  refine ⟨vs.map VN.mk, ⟨⟨vs, ?_, h1⟩, h.inM⟩, by rw [List.length_map, hl], fun i u x hu hx => ?_⟩
  · rw [List.length_map, hl]
    have e : Rep.sz (VN k) = Rep.sz α := hk.symm
    rw [e]; exact hr
  · rw [List.getElem?_map] at hu
    cases e : vs[i]? with
    | none => rw [e] at hu; cases hu
    | some v0 => rw [e] at hu; cases hu; exact h2 i v0 x e hx
/-- Fields whose types are such trees. -/
def AlF (E : Nat) (F : Nat → Prop) (w : World) (us : List (VN 4)) : Prop := ∀ (i : Nat) (u : VN 4), us[i]? = some u → ∃ (nm : ByteArray) (o : Int) (s : ByteArray) (k : Int) (kv : Value) (n : Nat), u.v = .agg #[.string nm, .int .u8 o, .string s, .int .i64 k, kv] ∧ AlT E F w n (.agg #[.int .u8 o, .string s, .int .i64 k, kv])
theorem AlF.map {E : Nat} {F : Nat → Prop} {w w' : World} {us : List (VN 4)} (h : AlF E F w us) (hw : ∀ n v, AlT E F w n v → AlT E F w' n v) : AlF E F w' us := fun i u hu => by
  obtain ⟨nm, o, s, k, kv, n, h1, h2⟩ := h i u hu
  exact ⟨nm, o, s, k, kv, n, h1, hw _ _ h2⟩
theorem alF_of {E e B : Nat} {F M : Nat → Prop} {w : World} {v : Value} {l : List Fld} (h : @OwnSl Fld (@fldG (altT E F)) e B M w v l) : ∃ us : List (VN 4), OwnSl e B M w v us ∧ us.length = l.length ∧ AlF E F w us := by
  obtain ⟨us, h1, h2, h3⟩ := @OwnSl.toV Fld (@fldG (altT E F)) 4 _ _ _ _ _ _ rfl h
  refine ⟨us, h1, h2, fun i u hu => ?_⟩
  have hi : i < l.length := by have := (List.getElem?_eq_some_iff.1 hu).1; omega
  obtain ⟨_, kv, h4, _, ⟨n, h5⟩, _⟩ := h3 i u l[i] hu (gE hi)
  exact ⟨_, _, _, _, kv, n, h4, h5⟩
/-- What Flat tells, while it is written over. -/
structure AlW (E : Nat) (F : Nat → Prop) (B : Nat) (w : World) (us : List (VN 4)) (tv : Value) : Prop where
  lt : ∀ c, F c → B ≤ c ∧ c < w.heap.size
  fl : AlF E F w us
  tl : ∃ n, AlT E F w n tv
section
variable {E B : Nat} {F : Nat → Prop} {w w' : World} {us : List (VN 4)} {tv : Value}
theorem AlW.spo (h : AlW E F B w us tv) (hs : w.heap.size ≤ w'.heap.size) (k : ∀ n v, AlT E F w n v → AlT E F w' n v) : AlW E F B w' us tv :=
  ⟨fun c hc => ⟨(h.lt c hc).1, lT (h.lt c hc).2 hs⟩, h.fl.map k, let ⟨n, hn⟩ := h.tl; ⟨n, k n _ hn⟩⟩
theorem AlW.Y (h : AlW E F B w us tv) (e : Ext w w') : AlW E F B w' us tv := h.spo e.size fun _ _ hn => hn.keep fun c hc => e.block c (h.lt c hc).2
end
end Rw
namespace Go.Proofs.Ytpoahmeacjggfaa
open Go Rw Go.RowKit
set_option maxRecDepth 100000
theorem spoil_spec (F : Nat → Prop) (B : Nat) : ∀ (n : Nat) (w : World) (v : Value), AlT 25 F w n v → Low F w → (∀ c, F c → B ≤ c) → B ≤ w.heap.size →
    Calls Try.prog 53 #[v] w (Ret fun r w' => r = .tuple #[] ∧ Stp B F F w w' ∧ ∀ m u, AlT 25 F w m u → AlT 25 F w' m u)
  | 0, _, _, h, _, _, _ => h.elim
  | n + 1, w, v, ha, Lw, hF, hB => by
    obtain ⟨o, s, k, p, len, cap, rfl, hlen⟩ := ha.shape
    have hlow0 := Lw
    have hT : Stp B F F w w := Stp.refl Lw
    have hkp : ∀ m u, AlT 25 F w m u → AlT 25 F w m u := fun _ _ h => h
    refine cN (n := 21) Try.func53 rfl rfl rfl ?_
    refine q0 ?_
    refine lC (o_box rfl rfl rfl ?_)
    intro b1 w1 hb_b1 ew1 h1
    replace h1 : Box _ b1 25 [.int .u8 o, .string s, .int .i64 k, .slice p len cap] := h1
    replace h1 := h1.at (nO Lw hb_b1)
    replace hT := hT.then (Stp.Y ew1 Lw hB)
    replace Lw := Lw.Y ew1
    replace hB := ew1.z hB
    replace ha := ha.keep (w' := w1) fun c hc => ew1.block c (hlow0 c hc)
    replace hkp : ∀ m u, AlT 25 F w m u → AlT 25 F w1 m u := fun m u h => h.keep fun c hc => ew1.block c (hlow0 c hc)
    refine q1 (q0 (lP 1 tK rfl (q1 (cB ?_))))
    refine c_loop (X := Nat) (fun i => [(1, .pointer (some ⟨b1, 0, none⟩)), (2, .int .i64 (i : Nat))]) (fun i w' => i ≤ len ∧ AlT 25 F w' (n + 1) (.agg #[.int .u8 o, .string s, .int .i64 k, .slice p len cap]) ∧ At F w' b1 0 [.int .u8 o, .string s, .int .i64 k, .slice p len cap] ∧ Stp B F F w w' ∧ (∀ m u, AlT 25 F w m u → AlT 25 F w' m u) ∧ Low F w' ∧ B ≤ w'.heap.size) (fun i => len - i) (0) (s2 rfl rfl) ?_ ?_
    · exact ⟨Nat.zero_le _, ha, h1, hT, hkp, Lw, hB⟩
    clear ha h1 hT hkp Lw hB
    rintro i w2 ⟨hi, ha, h1, hT, hkp, Lw, hB⟩
    refine cS (q0 (lP 2 tK rfl ?_))
    refine lC (oD tK (h1.cell 3 _ rfl) rfl rfl rfl rfl rfl ?_)
    refine lP 2 tK rfl (q1 ?_)
    refine cP _ rfl (fun c1 => ?_) (fun c1 => ?_)
    · refine cK (xS (cS (cB (q0 (lP 1 tK rfl ?_)))))
      refine lC (oD tK (h1.cell 3 _ rfl) rfl rfl rfl rfl rfl ?_)
      refine lP 1 tK rfl ?_
      have hil : i < len := by omega
      obtain ⟨b, cs, rfl, hFb, hbx, hcl, hkid⟩ := ha.kid hil
      refine lC (o_ix tK rfl rfl rfl rfl rfl (j := i) (by omega) hil rfl rfl ?_)
      refine lC (oL tK (cs := quad cs i) (fun q u hq => hbx.quad q u hq) rfl rfl rfl (quad_len hil hcl) rfl rfl ?_)
      refine lC (oK fo53 rfl rfl rfl (spoil_spec F B n _ _ hkid Lw hF hB) ?_)
      rintro _ w3 ⟨rfl, sw3, kw3⟩
      replace ha := kw3 _ _ ha
      replace hkp : ∀ m u, AlT 25 F w m u → AlT 25 F w3 m u := fun m u h => kw3 m u (hkp m u h)
      replace hT := hT.then sw3
      replace h1 := h1.sp sw3
      replace Lw := sw3.low
      replace hB := sw3.z hB
      refine q1 (cG (lP 1 tK rfl ?_))
      refine lC (oD tK (h1.cell 3 _ rfl) rfl rfl rfl rfl rfl ?_)
      refine lP 1 tK rfl ?_
      refine lC (o_build (cells := [.int .u8 3, .string ⟨#[]⟩, .int .i64 0, .slice none 0 0]) (css := [[.int .u8 3]]) bd25 rfl rfl rfl rfl rfl ?_)
      obtain ⟨b2, cs2, hp2, _, hbx2, hcl2, _⟩ := ha.kid hil
      obtain rfl : b = b2 := by simpa using hp2
      have hj2 : i * 4 + 4 ≤ cs2.length := by omega
      refine lC (o_ix tK rfl rfl rfl rfl rfl (j := i) (by omega) hil rfl rfl ?_)
      refine lC (o_st tK hbx2 rfl rfl rfl rfl (by intro u hu; simp [Value.cells] at hu; rcases hu with rfl | rfl | rfl | rfl <;> rfl) (Nat.ble_eq_true_of_le (show 0 + i * 4 + 4 ≤ cs2.length by omega)) rfl ?_)
      intro w4 hbw4 qw4 bew4
      have hbo : Box w4 b 25 (over cs2 [.int .u8 3, .string ⟨#[]⟩, .int .i64 0, .slice none 0 0] i) := by unfold over; rw [← Nat.zero_add (i * 4)]; exact hbw4
      have sw4 := Upd.sp qw4 hFb Lw bew4 (hF b hFb)
      replace ha := ha.set hbx2 hj2 rfl hbo qw4.2
      replace hkp : ∀ m u, AlT 25 F w m u → AlT 25 F w4 m u := fun m u h => (hkp m u h).set hbx2 hj2 rfl hbo qw4.2
      replace hT := hT.then sw4
      replace h1 := h1.sp sw4
      replace Lw := sw4.low
      replace hB := sw4.z hB
      refine q2 (xS (cG (lP 1 tK rfl ?_)))
      refine lC (o_ai rfl rfl rfl (by omega) rfl rfl ?_)
      refine lP 1 tK rfl (lN ?_)
      exact x_round (i + 1) (s2 rfl (gN rfl (by omega))) ⟨by omega, ha, h1, hT, hkp, Lw, hB⟩ (by omega)
    refine c_exit (xE (xE (x_blkE ?_)))
    refine x_ret0n rfl ?_
    exact ⟨rfl, hT, hkp⟩
open Go Rw Go.RowKit
set_option maxRecDepth 100000
theorem Flat_alt (t : Ty) (M : Nat → Prop) (w : World) (v : Value) (ht : Rep.R M w v t) (hlow0 : Low M w) (hsz : psz t ≤ 2000000) :
    Calls Try.prog 25 #[v] w (Ret fun r w' => (∃ x tv F us n, r = .tuple #[x, tv] ∧ Sl F w' x us ∧ AlF 25 F w' us ∧ AlT 25 F w' n tv ∧ ∀ c, F c → w.heap.size ≤ c ∧ c < w'.heap.size) ∧ Ext w w') := by
  have Lw := hlow0
  have hB := lR w.heap.size
  have hE := Below.refl w.heap.size w
  have hsub : ∀ b, M b → M b := fun _ h => h
  obtain ⟨kv, rfl, op, nm, n64, hk⟩ := tO ht
  have hsl := spine_len t
  have hfl0 := fieldsF_len (spineF t).1
  refine cN (n := 18) Try.func25 rfl rfl rfl ?_
  refine q0 ?_
  refine lC (o_box rfl rfl rfl ?_)
  intro b1 w1 hb_b1 ew1 h1
  replace h1 : Box _ b1 25 [.int .u8 t.op, .string t.name, .int .i64 t.n, kv] := h1
  replace h1 := h1.at (nO Lw hb_b1)
  replace hE := ew1.bl hE hB
  replace ht := Rep.Y ht ew1
  replace hk := hk.Y ew1
  replace Lw := Lw.Y ew1
  replace hB := ew1.z hB
  refine lP 1 tK rfl ?_
  refine lC (o_new tK rfl rfl rfl ?_)
  intro b3 w2 qb3 ew2 hb3
  have sw2 := Stp.add ew2 Lw hB (lQ qb3.symm) hb3.lt
  have h3 : MB w.heap.size (Rw.Add M b3) w2 b3 25 [.int .u8 0, .string ⟨#[]⟩, .int .i64 0, .slice none 0 0] := MB.mk' hb3 qb3 hB
  replace hE := hE.trans sw2.below
  replace ht := Rep.sp ht sw2
  replace hk := hk.sp sw2
  replace h1 := h1.sp sw2
  replace hsub := sw2.sb hsub
  replace Lw := sw2.low
  replace hB := sw2.z hB
  refine q1 (cS (q0 ?_))
  refine lC (oL tK (fun j v hv => h1.cell j v hv) rfl rfl rfl rfl rfl rfl ?_)
  refine lC (oK fo18 rfl rfl rfl (kRow_spec t _ _ _ ht Lw) ?_)
  rintro _ w3 ⟨rfl, ew3⟩
  replace h3 := h3.Y Lw hB ew3
  replace hE := ew3.bl hE hB
  replace ht := Rep.Y ht ew3
  replace hk := hk.Y ew3
  replace h1 := h1.Y ew3
  replace Lw := Lw.Y ew3
  replace hB := ew3.z hB
  refine lP 1 tK rfl (q1 ?_)
  refine c_ifB _ rfl (fun hc => ?_) (fun hc => ?_)
  · refine q0 ?_
    refine lC (o_build (cells := [.int .u8 0, .string ⟨#[]⟩, .int .i64 0, .slice none 0 0]) (css := []) bd25 rfl rfl rfl rfl rfl ?_)
    refine lP 1 tK rfl ?_
    refine lC (o_st tK h3.box rfl rfl rfl rfl (by intro u hu; simp [Value.cells] at hu; rcases hu with rfl | rfl | rfl | rfl <;> rfl) rfl rfl ?_)
    intro w4 hw4 qw4 bew4
    have uw4 : UpdB _ _ _ := ⟨qw4, bew4⟩
    have sw4 := uw4.sp h3.inM Lw h3.ge
    have frw4 := qw4.2
    replace hE := hE.trans sw4.below
    replace ht := Rep.sp ht sw4
    replace hk := hk.sp sw4
    replace h1 := h1.sp sw4
    replace hsub := sw4.sb hsub
    replace Lw := sw4.low
    replace hB := sw4.z hB
    replace h3 : MB w.heap.size _ w4 b3 _ [.int .u8 0, .string ⟨#[]⟩, .int .i64 0, .slice none 0 0] := ⟨hw4, h3.inM, h3.ge⟩
    refine q1 (cR (xR ?_))
    refine x_ret2ts tK (fun j v hv => h3.cell j v hv) rfl rfl rfl rfl rfl rfl ?_
    exact ⟨⟨_, _, NoM, [], 1, rfl, sl_nil, fun i u h => by simp at h, AlT.leaf, fun _ h => h.elim⟩, hE⟩
  have hB0 : rowB t = true := by rw [← rowB_law]; exact hc
  have hsh : shapeF t 114 = true := by unfold rowB at hB0; rw [Bool.and_eq_true] at hB0; exact hB0.1
  refine cK (xS (q0 ?_))
  refine lC (oL tK (fun j v hv => h1.cell j v hv) rfl rfl rfl rfl rfl rfl ?_)
  have l_h3 := h3.lt
  have hsz0 := hB
  refine lC (oK fo67 rfl rfl rfl (copied_own t _ _ _ ht Lw hsz) ?_)
  rintro vr w5 ⟨hr, ew5⟩
  have hGl : ∀ c, Plus NoM w3 w5 c → w3.heap.size ≤ c ∧ c < w5.heap.size := fun c h => h.elim (fun h => h.elim) id
  generalize Plus NoM w3 w5 = F at hr hGl
  have halt := hr.alt
  have hrF : ∀ c, F c → ¬ (Rw.Add M b3) c ∧ c < w5.heap.size := fun c h => ⟨fun hm => by have := Lw c hm; have := (hGl c h).1; omega, (hGl c h).2⟩
  have hra := alt_mk (hr.rep fun c h => (hrF c h).1) halt hrF
  have hlow1 := Lw.Y ew5
  refine lC (oK fo69 rfl rfl rfl (flat_gen (TR := altT 25 F) t _ _ _ hsh hra hlow1 hsz) ?_)
  rintro _ w6 ⟨xv, tv, M2, rfl, ho2, ⟨htl, ⟨n, hal⟩, _⟩, sw6⟩
  have e2 : Ext w5 w6 := sw6.below
  have ew6 : Ext w3 w6 := ew5.then e2
  have hF2 : ∀ c, F c → w3.heap.size ≤ c ∧ c < w6.heap.size := fun c h => ⟨(hGl c h).1, lT (hGl c h).2 e2.size⟩
  have tw6 := (Stp.Y ew6 Lw hB).more hF2
  obtain ⟨us, ho3, hul, haf⟩ := alF_of ho2
  have hfl := ho3.slV (M0 := Or2 (Rw.Add M b3) F) (by omega) (fun b hb hm => by
    have h1 := (ho3.lt b hb).1
    have h2 := ew5.size
    exact hm.elim (fun h => by have := Lw b h; omega) (fun h => by have := (hGl b h).2; omega))
  replace h3 := h3.sp tw6 (ew6.block b3 h3.lt)
  replace hE := hE.trans tw6.below
  replace ht := Rep.sp ht tw6
  replace hk := hk.sp tw6
  replace h1 := h1.sp tw6
  replace hsub := tw6.sb hsub
  replace Lw := tw6.low
  replace hB := tw6.z hB
  have hfr : Kept w6 w6 F := Kept.refl (fun x hx => (hF2 x hx).2)
  have d_hfr_h3 : ∀ x, F x → x ≠ b3 := fun x hx e => by have := (hGl x hx).1; have := l_h3; omega
  replace htl : Rep.R M2 w6 tv (spineF t).2 := htl
  obtain ⟨kve, rfl, ope, nme, n64e, _⟩ := tO htl
  have hone := Rep.one htl
  refine lP 3 tK rfl ?_
  refine lC (o_new tK rfl rfl rfl ?_)
  intro b5 w7 qb5 ew7 hb5
  have nb5 := nO Lw qb5
  refine lP 1 tK rfl ?_
  refine lC (o_st tK hb5 rfl rfl rfl rfl hone rfl rfl ?_)
  intro w8 h5 uw8 bew8
  have ew8 : Ext w6 w8 := ew7.trans (bew8 _ (lQ qb5.symm))
  replace h3 := h3.Y Lw hB ew8
  replace hfr := hfr.Y Lw hB ew8
  replace hE := ew8.bl hE hB
  replace ht := Rep.Y ht ew8
  replace hk := hk.Y ew8
  replace h1 := h1.Y ew8
  replace hfl := hfl.Y ew8
  replace Lw := Lw.Y ew8
  replace hB := ew8.z hB
  replace h5 : Box w8 b5 25 [.int .u8 (spineF t).2.op, .string (spineF t).2.name, .int .i64 (spineF t).2.n, kve] := h5
  replace h5 := h5.at nb5
  refine q1 (cS ?_)
  refine a_beg Ext rfl ?_
  intro w9 ew9
  replace h3 := h3.Y Lw hB ew9
  replace hfr := hfr.Y Lw hB ew9
  replace hE := ew9.bl hE hB
  replace ht := Rep.Y ht ew9
  replace hk := hk.Y ew9
  replace h1 := h1.Y ew9
  replace hfl := hfl.Y ew9
  replace h5 := h5.Y ew9
  replace Lw := Lw.Y ew9
  replace hB := ew9.z hB
  have hS : Ext w9 w9 := ext_refl _
  have D_hk := hk
  have D_h1 := h1
  have D_h3 := h3.box
  have D_hfl := hfl
  have D_h5 := h5
  refine a_p 0 tK rfl rfl rfl rfl (by kernel_rfl) i3 hS ?_
  refine a_lds 1 tK (fun _ hs j v hv => (D_h5.Y hs).cell j v hv) rfl rfl rfl rfl rfl rfl rfl (by kernel_rfl) i3 hS ?_
  refine a_p 2 tK rfl rfl rfl rfl (by kernel_rfl) i3 hS ?_
  refine a_barS Ext 3 rfl (by kernel_rfl) (by kernel_rfl) (o_st tK h3.box rfl rfl rfl rfl hone rfl rfl ?_)
  intro w10 hw10 qw10 bew10
  have uw10 : UpdB _ _ _ := ⟨qw10, bew10⟩
  have sw10 := uw10.sp h3.inM Lw h3.ge
  have frw10 := qw10.2
  replace hfr := hfr.sp sw10 (fun x hx => frw10 x (hfr.lt x hx).2 (d_hfr_h3 x hx))
  replace hE := hE.trans sw10.below
  replace ht := Rep.sp ht sw10
  replace hk := hk.sp sw10
  replace h1 := h1.sp sw10
  replace hfl := hfl.sp sw10
  replace h5 := h5.sp sw10
  replace hsub := sw10.sb hsub
  replace Lw := sw10.low
  replace hB := sw10.z hB
  replace hS : Ext w10 w10 := ext_refl _
  replace h3 : MB w.heap.size _ w10 b3 _ [.int .u8 (spineF t).2.op, .string (spineF t).2.name, .int .i64 (spineF t).2.n, kve] := ⟨hw10, h3.inM, h3.ge⟩
  have D_hk := hk
  have D_h1 := h1
  have D_h3 := h3.box
  have D_hfl := hfl
  have D_h5 := h5
  refine a_end (by kernel_rfl) ?_
  refine xS (cR ?_)
  refine x_ret2ts tK (fun j v hv => h3.cell j v hv) rfl rfl rfl rfl rfl rfl ?_
  exact ⟨⟨_, _, F, us, n, rfl, hfl.wk (fun b _ h => .inr h), haf.map (fun m u h => h.keep hfr.blk), hal.keep hfr.blk, fun c hc => ⟨Nat.le_trans hsz0 (hGl c hc).1, lT (hF2 c hc).2 hfr.size⟩⟩, hE⟩
end Go.Proofs.Ytpoahmeacjggfaa
namespace Rw
theorem ren_op (g : Int → Int) (t : Ty) : (renF g t).op = t.op := by rw [renF_eq]; rfl
theorem ren_name (g : Int → Int) (t : Ty) : (renF g t).name = t.name := by rw [renF_eq]; rfl
theorem ren_kids (g : Int → Int) (t : Ty) : (renF g t).kids = t.kids.map (renF g) := by rw [renF_eq]; rfl
theorem ren_n (g : Int → Int) (t : Ty) : (renF g t).n = bif numB t.op then g t.n else t.n := by rw [renF_eq]; rfl
theorem ren_ren (h g : Int → Int) (t : Ty) : renF h (renF g t) = renF (fun n => h (g n)) t := by
  induction t using Ty.ind with
  | h t ih =>
    rw [renF_eq h, ren_op, ren_name, ren_kids, ren_n, renF_eq _ t, List.map_map]
    congr 1
    · cases numB t.op <;> rfl
    · exact List.map_congr_left fun x hx => ih x hx
theorem parts_ren (g : Int → Int) (t : Ty) : partsL (renF g t) = (partsL t).map (renF g) := by
  induction t using Ty.ind with
  | h t ih =>
    rw [partsL_eq, partsL_eq t, ren_kids, List.map_cons]
    congr 1
    rw [List.flatMap_map, List.map_flatMap]
    have : ∀ l : List Ty, (∀ x ∈ l, partsL (renF g x) = (partsL x).map (renF g)) → l.flatMap (fun a => partsL (renF g a)) = l.flatMap fun a => (partsL a).map (renF g) := by
      intro l
      induction l with
      | nil => intro _; rfl
      | cons x r ihr =>
        intro hl
        rw [List.flatMap_cons, List.flatMap_cons, hl x List.mem_cons_self, ihr fun y hy => hl y (List.mem_cons_of_mem _ hy)]
    exact this _ ih
/-! ## Rows -/
def renFld (g : Int → Int) (f : Fld) : Fld := ⟨f.name, renF g f.ty⟩
theorem ren_ofF (g : Int → Int) (e : Ty) : ∀ l : List Fld, renF g (ofF l e) = ofF (l.map (renFld g)) (renF g e)
  | [] => rfl
  | f :: l => by
    rw [ofF_cons, renF_eq, List.map_cons, ofF_cons, ← ren_ofF g e l]; rfl
theorem spine_ren (g : Int → Int) (t : Ty) : spineF (renF g t) = ((spineF t).1.map (renFld g), renF g (spineF t).2) := by
  induction t using Ty.ind with
  | h t ih =>
    by_cases ho : t.op = 11
    · rcases e : t.kids with _ | ⟨k, _ | ⟨r, _ | ⟨x, l⟩⟩⟩
      · rw [spineF_eq (renF g t), ren_kids, e, spineF_eq t, e]; rfl
      · rw [spineF_eq (renF g t), ren_kids, e, spineF_eq t, e]; rfl
      · rw [spine_yes (t := renF g t) (k := renF g k) (r := renF g r) (by rw [ren_op]; exact ho) (by rw [ren_kids, e]; rfl), spine_yes ho e, ih r (by rw [e]; simp), ren_name]; rfl
      · rw [spineF_eq (renF g t), ren_kids, e, spineF_eq t, e]; rfl
    · rw [spine_no (t := renF g t) (by rw [ren_op]; exact ho), spine_no ho]; rfl
theorem insF_ren (g : Int → Int) (f : Fld) : ∀ l : List Fld, insF (renFld g f) (l.map (renFld g)) = (insF f l).map (renFld g)
  | [] => rfl
  | x :: r => by
    rw [List.map_cons]
    unfold insF
    show (if cmpN f.name x.name < 0 then _ else _) = _
    by_cases h : cmpN f.name x.name < 0
    · rw [if_pos h, if_pos h]; rfl
    · rw [if_neg h, if_neg h, insF_ren g f r]; rfl
theorem fieldsF_ren (g : Int → Int) (l : List Fld) : fieldsF (l.map (renFld g)) = (fieldsF l).map (renFld g) := by
  have : ∀ (l acc : List Fld), (l.map (renFld g)).foldl (fun acc f => insF f acc) (acc.map (renFld g)) = (l.foldl (fun acc f => insF f acc) acc).map (renFld g) := by
    intro l
    induction l with
    | nil => intro acc; rfl
    | cons f l ih => intro acc; rw [List.map_cons, List.foldl_cons, List.foldl_cons, insF_ren, ih]
  exact this l []
theorem canon_ren (g : Int → Int) : ∀ (n : Nat) (t : Ty), psz t ≤ n → canonF (renF g t) = renF g (canonF t)
  | 0, t, h => by have := psz_pos t; omega
  | n + 1, t, h => by
    by_cases ho : t.op = 11
    · rw [canon_row (t := renF g t) (by rw [ren_op]; exact ho), canon_row ho, spine_ren, ren_ofF, fieldsF_ren, List.map_map, List.map_map]
      congr 1
      refine List.map_congr_left fun f hf => ?_
      have h1 := fields_psz hf
      show canonFld (renFld g f) = renFld g (canonFld f)
      unfold canonFld renFld
      simp only
      rw [canon_ren g n f.ty (by omega)]
    · rw [canon_other (t := renF g t) (by rw [ren_op]; exact ho), canon_other ho, renF_eq g (Ty.mk _ _ _ _), ren_op, ren_name, ren_kids, ren_n]
      show Ty.mk t.op t.name _ _ = Ty.mk t.op t.name _ ((t.kids.map canonF).map (renF g))
      rw [List.map_map, List.map_map]
      congr 1
      refine List.map_congr_left fun x hx => ?_
      have := kid_psz hx
      exact canon_ren g n x (by omega)
/-! ## Variables -/
theorem addV_ren {g : Int → Int} {l : List Int} {n : Int} (h : ∀ a ∈ l, g a = g n → a = n) : addV (l.map g) (g n) = (addV l n).map g := by
  unfold addV
  by_cases hn : n ∈ l
  · rw [if_pos hn, if_pos (List.mem_map.2 ⟨n, hn, rfl⟩)]
  · rw [if_neg hn, if_neg (fun hm => by
      obtain ⟨a, ha, e⟩ := List.mem_map.1 hm
      exact hn (h a ha e ▸ ha)), List.map_append]; rfl
theorem varsTo_ren (g : Int → Int) : ∀ (ps : List Ty) (l : List Int), (∀ a ∈ varsTo l ps, ∀ b ∈ varsTo l ps, g a = g b → a = b) → varsTo (l.map g) (ps.map (renF g)) = (varsTo l ps).map g
  | [], _, _ => rfl
  | x :: ps, l, h => by
    have e : varsTo l (x :: ps) = varsTo (bif numB x.op then addV l x.n else l) ps := rfl
    have e2 : varsTo (l.map g) ((x :: ps).map (renF g)) = varsTo (bif numB (renF g x).op then addV (l.map g) (renF g x).n else l.map g) (ps.map (renF g)) := rfl
    rw [e] at h ⊢
    rw [e2, ren_op, ren_n, ← varsTo_ren g ps _ h]
    congr 1
    cases hx : numB x.op with
    | false => rfl
    | true =>
      rw [hx] at h
      simp only [cond_true] at h ⊢
      exact addV_ren fun a ha => h a (mem_varsTo.2 (.inl (mem_addV.2 (.inl ha)))) x.n (mem_varsTo.2 (.inl (mem_addV.2 (.inr rfl))))
theorem atOf_mem {l : List Int} {n : Int} (h : n ∈ l) : ∃ (k : Nat) (hk : k < l.length), atOf l n = (k : Int) ∧ l[k] = n := by
  unfold atOf
  cases e : l.findIdx? (fun x => decide (x = n)) with
  | none =>
    rw [List.findIdx?_eq_none_iff] at e
    have := e n h
    simp at this
  | some i =>
    rw [List.findIdx?_eq_some_iff_getElem] at e
    obtain ⟨hi, h1, _⟩ := e
    exact ⟨i, hi, rfl, by simpa using h1⟩
theorem atOf_inj {l : List Int} : ∀ a ∈ l, ∀ b ∈ l, atOf l a = atOf l b → a = b := fun a ha b hb e => by
  obtain ⟨k, hk, e1, h1⟩ := atOf_mem ha
  obtain ⟨j, hj, e2, h2⟩ := atOf_mem hb
  have : k = j := by omega
  subst this
  rw [← h1, h2]
theorem atOf_map {l : List Int} {g : Int → Int} (hg : ∀ a ∈ l, ∀ b ∈ l, g a = g b → a = b) (hl : l.Nodup) {n : Int} (h : n ∈ l) : atOf (l.map g) (g n) = atOf l n := by
  obtain ⟨k, hk, e, h1⟩ := atOf_mem h
  rw [e]
  refine atOf_found (by simpa using hk) (by rw [List.getElem_map, h1]) fun j hj hm => ?_
  rw [List.getElem?_map, gE (by omega)] at hm
  have h2 := hg _ (gM (by omega)) n h (Option.some.inj hm)
  have := (List.getElem_inj (h₀ := by omega) (h₁ := hk) hl).1 (h2.trans h1.symm)
  omega
/-! ## Numbers -/
theorem vars_number {t : Ty} {c : UInt8} (h : shapeF t c = true) : varsF (numberF t) = (varsF t).map (atOf (varsF t)) := by
  unfold varsF numberF
  rw [canon_ren _ _ _ (lR _), canon_idem _ t c (lR _) h, parts_ren]
  exact varsTo_ren _ (partsL (canonF t)) [] fun a ha b hb e => atOf_inj a ha b hb e
theorem number_canon {t : Ty} {c : UInt8} (h : shapeF t c = true) : canonF (numberF t) = numberF t := by
  unfold numberF
  rw [canon_ren _ _ _ (lR _), canon_idem _ t c (lR _) h]
theorem var_mem {t x : Ty} (hx : x ∈ partsL (canonF t)) (hn : numB x.op = true) : x.n ∈ varsF t := mem_varsTo.2 (.inr ⟨x, hx, hn, rfl⟩)
theorem number_idem {t : Ty} {c : UInt8} (h : shapeF t c = true) : numberF (numberF t) = numberF t := by
  show renF (atOf (varsF (numberF t))) (canonF (numberF t)) = _
  rw [number_canon h, vars_number h]
  unfold numberF
  rw [ren_ren]
  exact renF_congr _ fun x hx hn => atOf_map (fun a ha b hb => atOf_inj a ha b hb) (varsTo_nodup (by simp) _) (var_mem hx hn)
theorem shape_ren {g : Int → Int} (t : Ty) : ∀ (c : UInt8), shapeF t c = true → (∀ x ∈ partsL t, numB x.op = true → 0 ≤ g x.n) → shapeF (renF g t) c = true := by
  induction t using Ty.ind with
  | h t ih =>
    intro c h hg
    obtain ⟨ks, hk, hl, hall, hh, h5⟩ := shape_pos h
    refine shape_yes (t := renF g t) (ks := ks) (by rw [ren_op]; exact hk) (by rw [ren_kids, List.length_map]; exact hl) (by rw [ren_op]; exact h5) ?_ fun j x d hx hd => ?_
    · rw [ren_op, ren_name, ren_n]
      have h0 := hg t (by rw [partsL_eq]; exact List.mem_cons_self)
      cases hn : numB t.op with
      | false => exact hh
      | true =>
        rw [hn] at h0
        have h0' := h0 rfl
        unfold numB at hn
        unfold headOk at hh ⊢
        simp only [Bool.and_eq_true, Bool.or_eq_true, decide_eq_true_eq, cond_true] at hh hn ⊢
        exact ⟨hh.1, h0', hn.elim .inl fun h => .inr (.inl h)⟩
    · rw [ren_kids, List.getElem?_map] at hx
      cases e : t.kids[j]? with
      | none => rw [e] at hx; simp at hx
      | some y =>
        rw [e] at hx
        simp at hx
        subst hx
        have hy := List.mem_of_getElem? e
        exact ih y hy d (hall j y d e hd) fun z hz hn => hg z (by rw [partsL_eq]; exact List.mem_cons_of_mem _ (List.mem_flatMap.2 ⟨y, hy, hz⟩)) hn
theorem once_ren {g : Int → Int} {t : Ty} (h : onceB t = true) (hg : ∀ x ∈ partsL t, ∀ y ∈ partsL t, numB x.op = true → numB y.op = true → g x.n = g y.n → x.n = y.n) : onceB (renF g t) = true := by
  rw [once_true] at h ⊢
  rw [parts_ren]
  intro x hx y hy ⟨h7, h10, hn⟩
  obtain ⟨x', hx', rfl⟩ := List.mem_map.1 hx
  obtain ⟨y', hy', rfl⟩ := List.mem_map.1 hy
  rw [ren_op] at h7 h10
  have n1 : numB x'.op = true := by rw [h7]; rfl
  have n2 : numB y'.op = true := by rw [h10]; rfl
  rw [ren_n, ren_n, n1, n2] at hn
  exact h x' hx' y' hy' ⟨h7, h10, hg x' hx' y' hy' n1 n2 hn⟩
theorem number_sort {t : Ty} {c : UInt8} (h : shapeF t c = true) (ho : onceB (canonF t) = true) : shapeF (numberF t) c = true ∧ onceB (numberF t) = true := by
  refine ⟨shape_ren _ c (shape_canon _ t c (lR _) h) fun x hx hn => ?_, once_ren ho fun x hx y hy n1 n2 e => atOf_inj _ (var_mem hx n1) _ (var_mem hy n2) e⟩
  obtain ⟨k, _, e, _⟩ := atOf_mem (var_mem hx hn)
  omega
theorem psz_number (t : Ty) : psz (numberF t) = psz t := by
  unfold numberF
  rw [psz_ren, psz_canon _ t (lR _)]
theorem put_same {n : Int} {s : Ty} (t : Ty) : ∀ {c : UInt8}, shapeF t c = true → putF 0 n s t = t := by
  induction t using Ty.ind with
  | h t ih =>
    intro c h
    obtain ⟨ks, hk, _, _, _, _⟩ := shape_pos h
    have ho : t.op ≠ 0 := fun e => by rw [e] at hk; cases hk
    rw [put_no fun e => ho e.2]
    have hm : t.kids.map (putF 0 n s) = t.kids := by
      apply List.ext_getElem?
      intro i
      rw [List.getElem?_map]
      by_cases hi : i < t.kids.length
      · obtain ⟨d, hd⟩ := kid_shape h hi
        rw [gE hi, Option.map_some, ih _ (gM hi) hd]
      · rw [List.getElem?_eq_none (by omega)]; rfl
    rw [hm]
    exact (ty_eta t).symm
/-- How many fields of a name. -/
def cntN (l : List Fld) (s : ByteArray) : Nat := (l.filter fun f => decide (f.name = s)).length
/-- How many fields of lesser names. -/
def lessN (l : List Fld) (s : ByteArray) : Nat := (l.filter fun f => decide (cmpN f.name s < 0)).length
theorem cntN_app (l k : List Fld) (s : ByteArray) : cntN (l ++ k) s = cntN l s + cntN k s := by unfold cntN; rw [List.filter_append, List.length_append]
theorem lessN_app (l k : List Fld) (s : ByteArray) : lessN (l ++ k) s = lessN l s + lessN k s := by unfold lessN; rw [List.filter_append, List.length_append]
theorem cntN_yes {f : Fld} {s : ByteArray} (h : f.name = s) : cntN [f] s = 1 := by simp [cntN, h]
theorem cntN_no {f : Fld} {s : ByteArray} (h : f.name ≠ s) : cntN [f] s = 0 := by simp [cntN, h]
theorem lessN_yes {f : Fld} {s : ByteArray} (h : cmpN f.name s < 0) : lessN [f] s = 1 := by simp [lessN, h]
theorem lessN_no {f : Fld} {s : ByteArray} (h : ¬ cmpN f.name s < 0) : lessN [f] s = 0 := by simp [lessN]; omega
theorem cntN_zero {l : List Fld} {s : ByteArray} (h : ∀ f ∈ l, f.name ≠ s) : cntN l s = 0 := by
  unfold cntN
  rw [List.filter_eq_nil_iff.2 (fun f hf => by simpa using h f hf)]; rfl
theorem lessN_zero {l : List Fld} {s : ByteArray} (h : ∀ f ∈ l, ¬ cmpN f.name s < 0) : lessN l s = 0 := by
  unfold lessN
  rw [List.filter_eq_nil_iff.2 (fun f hf => by simpa using h f hf)]; rfl
theorem lt_ne {a b : ByteArray} (h : cmpN a b < 0) : a ≠ b := fun e => by subst e; rw [cmpN_eq.2 rfl] at h; omega
theorem srt_run : ∀ {l : List Fld}, Srt l → ∀ (s : ByteArray) (k : Nat) (h : k < l.length), (l[k].name = s ↔ lessN l s ≤ k ∧ k < lessN l s + cntN l s)
  | [], _, _, _, h => absurd h (Nat.not_lt_zero _)
  | x :: l, hs, s, k, h => by
    obtain ⟨h1, h2⟩ := List.pairwise_cons.1 hs
    have ih := srt_run h2 s
    have e1 : cntN (x :: l) s = cntN [x] s + cntN l s := cntN_app [x] l s
    have e2 : lessN (x :: l) s = lessN [x] s + lessN l s := lessN_app [x] l s
    by_cases hx : x.name = s
    · have n0 : ∀ f ∈ l, ¬ cmpN f.name s < 0 := fun f hf => by have := h1 f hf; rw [hx] at this; exact this
      have z := lessN_zero n0
      rw [cntN_yes hx] at e1
      rw [lessN_no (fun hlt => lt_ne hlt hx)] at e2
      cases k with
      | zero => simp only [List.getElem_cons_zero, hx, true_iff]; omega
      | succ k =>
        have := ih k (by simpa using h)
        simp only [List.getElem_cons_succ]
        rw [this]; omega
    · by_cases hlt : cmpN x.name s < 0
      · rw [cntN_no hx] at e1
        rw [lessN_yes hlt] at e2
        cases k with
        | zero => simp only [List.getElem_cons_zero]; exact ⟨fun e => absurd e hx, fun e => by omega⟩
        | succ k =>
          have := ih k (by simpa using h)
          simp only [List.getElem_cons_succ]
          rw [this]; omega
      · have hle : leN s x.name := hlt
        have ne : ∀ f ∈ l, f.name ≠ s := fun f hf e => by
          have := h1 f hf
          rw [e] at this
          exact hx (leN_antisymm this hle)
        have z := cntN_zero ne
        rw [cntN_no hx] at e1
        constructor
        · intro e
          cases k with
          | zero => exact absurd e hx
          | succ k => exact absurd e (ne _ (gM _))
        · intro e; omega
theorem nth_iff {l : List Fld} (hs : Srt l) (s : ByteArray) (n : Nat) : n < cntN l s ↔ ∃ h : lessN l s + n < l.length, l[lessN l s + n].name = s := by
  constructor
  · intro h
    have hle : lessN l s + cntN l s ≤ l.length := by
      clear h
      unfold lessN cntN
      induction l with
      | nil => simp
      | cons x l ih =>
        have := ih (List.pairwise_cons.1 hs).2
        simp only [List.filter_cons, List.length_cons]
        by_cases hx : x.name = s
        · have : ¬ cmpN x.name s < 0 := fun hlt => lt_ne hlt hx
          simp [hx, cmpN_eq.2 rfl] at this ⊢
          omega
        · by_cases hlt : cmpN x.name s < 0 <;> simp [hx, hlt] <;> omega
    exact ⟨by omega, (srt_run hs s _ (by omega)).2 ⟨by omega, by omega⟩⟩
  · rintro ⟨h, e⟩
    have := (srt_run hs s _ h).1 e
    omega
/-! ## Parts of what is right -/
theorem rightB_of {t : Ty} (h : rightB t = true) : shapeF t 116 = true ∧ onceB t = true := by unfold rightB at h; rwa [Bool.and_eq_true] at h
theorem rowB_of {t : Ty} (h : rowB t = true) : shapeF t 114 = true ∧ onceB t = true := by unfold rowB at h; rwa [Bool.and_eq_true] at h
theorem rightB_mk {t : Ty} (h : shapeF t 116 = true) (k : onceB t = true) : rightB t = true := by unfold rightB; rw [h, k]; rfl
theorem rowB_mk {t : Ty} (h : shapeF t 114 = true) (k : onceB t = true) : rowB t = true := by unfold rowB; rw [h, k]; rfl
theorem once_kid {t k : Ty} (h : onceB t = true) (hk : k ∈ t.kids) : onceB k = true := by
  rw [once_true] at h ⊢
  intro x hx y hy
  have hs : ∀ z ∈ partsL k, z ∈ partsL t := fun z hz => by
    rw [partsL_eq t]
    exact List.mem_cons_of_mem _ (List.mem_flatMap.2 ⟨k, hk, hz⟩)
  exact h x (hs x hx) y (hs y hy)
theorem right_op {t : Ty} (h : rightB t = true) : t.op < 8 := by
  obtain ⟨ks, _, _, _, _, h5⟩ := shape_pos (rightB_of h).1
  have : ¬ 8 ≤ t.op := by
    intro hc
    rw [dT hc] at h5
    exact absurd h5 (by decide)
  omega
theorem row_op {t : Ty} (h : rowB t = true) : 8 ≤ t.op := by
  obtain ⟨ks, _, _, _, _, h5⟩ := shape_pos (rowB_of h).1
  by_cases hc : 8 ≤ t.op
  · exact hc
  · rw [dF hc] at h5
    exact absurd h5 (by decide)
theorem kids_at {t : Ty} {c : UInt8} {ks : ByteArray} (h : shapeF t c = true) (hk : kidsOf t.op = some ks) : t.kids.length = ks.size ∧ ∀ (j : Nat) x d, t.kids[j]? = some x → ks.data[j]? = some d → shapeF x d = true := by
  obtain ⟨ks', h1, h2, h3, _⟩ := shape_pos h
  rw [hk] at h1
  cases h1
  exact ⟨h2, h3⟩
theorem fun_kids {t : Ty} (h : rightB t = true) (ho : t.op = 4) : ∃ k r, t.kids = [k, r] ∧ rightB k = true ∧ rightB r = true := by
  obtain ⟨h1, h2⟩ := kids_at (rightB_of h).1 (show kidsOf t.op = some ⟨#[116, 116]⟩ by rw [ho]; rfl)
  rcases e : t.kids with _ | ⟨k, _ | ⟨r, _ | ⟨x, l⟩⟩⟩ <;> rw [e] at h1 <;> simp [ByteArray.size] at h1
  have ho2 := (rightB_of h).2
  exact ⟨k, r, rfl, rightB_mk (h2 0 k 116 (by rw [e]; rfl) rfl) (once_kid ho2 (by rw [e]; simp)), rightB_mk (h2 1 r 116 (by rw [e]; rfl) rfl) (once_kid ho2 (by rw [e]; simp))⟩
theorem rec_kids {t : Ty} (h : rightB t = true) (ho : t.op = 5 ∨ t.op = 6) : ∃ k, t.kids = [k] ∧ rowB k = true := by
  obtain ⟨h1, h2⟩ := kids_at (rightB_of h).1 (show kidsOf t.op = some ⟨#[114]⟩ by rcases ho with ho | ho <;> rw [ho] <;> rfl)
  rcases e : t.kids with _ | ⟨k, _ | ⟨r, l⟩⟩ <;> rw [e] at h1 <;> simp [ByteArray.size] at h1
  exact ⟨k, rfl, rowB_mk (h2 0 k 114 (by rw [e]; rfl) rfl) (once_kid (rightB_of h).2 (by rw [e]; simp))⟩
theorem spine_right {t : Ty} : rowB t = true → (∀ f ∈ (spineF t).1, rightB f.ty = true) ∧ rowB (spineF t).2 = true ∧ (spineF t).2.op ≠ 11 := by
  induction t using Ty.ind with
  | h t ih =>
    intro h
    by_cases ho : t.op = 11
    · obtain ⟨k, r, e, h1, h2⟩ := shape_row (rowB_of h).1 ho
      rw [spine_yes ho e]
      have hon := (rowB_of h).2
      obtain ⟨i1, i2⟩ := ih r (by rw [e]; simp) (rowB_mk h2 (once_kid hon (by rw [e]; simp)))
      refine ⟨fun f hf => ?_, i2⟩
      rcases List.mem_cons.1 hf with rfl | hf
      · exact rightB_mk h1 (once_kid hon (by rw [e]; simp))
      · exact i1 f hf
    · rw [spine_no ho]
      exact ⟨fun f hf => (by cases hf), h, ho⟩
theorem flat_yes {t : Ty} (h : rowB t = true) : flatF t = (fieldsF (spineF t).1, (spineF t).2) := by rw [flatF, h]; rfl
theorem flt_psz {t : Ty} {f : Fld} (hf : f ∈ (flatF t).1) : psz f.ty < psz t := by
  unfold flatF at hf
  cases h : rowB t
  · rw [h] at hf; cases hf
  · rw [h] at hf; exact fields_psz hf
theorem flt_srt (t : Ty) : Srt (flatF t).1 := by
  unfold flatF
  cases rowB t
  · exact List.Pairwise.nil
  · exact fieldsF_srt _
/-! ## The relations -/
/-- By a ? alone. -/
def dynF (less : Bool) (a b : Ty) : Bool := (decide (b.op = 3) || decide (b.op = 9)) || (!less && (decide (a.op = 3) || decide (a.op = 9)))
/-- Fields of the first row, of the second one. -/
def okL (h : Ty → Ty → Bool) (l m : List Fld) (t : Ty) (i : Nat) : Bool := match l[i]? with
  | none => true
  | some f => bif decide (cntN (l.take i) f.name < cntN m f.name) then (match m[lessN m f.name + cntN (l.take i) f.name]? with
    | some g => h f.ty g.ty
    | none => false) else decide (t.op = 9)
def okM (less : Bool) (l m : List Fld) (s : Ty) (k : Nat) : Bool := match m[k]? with
  | none => true
  | some g => decide (cntN (m.take k) g.name < cntN l g.name) || (!less && decide (s.op = 9))
def tailF (less : Bool) (s t : Ty) : Bool := dynF less s t || (decide (s.op = t.op) && decide (s.n = t.n))
def rowsN (h : Ty → Ty → Bool) (less : Bool) (a b : Ty) : Bool :=
  (List.range (flatF a).1.length).all (okL h (flatF a).1 (flatF b).1 (flatF b).2) && ((List.range (flatF b).1.length).all (okM less (flatF a).1 (flatF b).1 (flatF a).2) && tailF less (flatF a).2 (flatF b).2)
def funP (h : Ty → Ty → Bool) : List Ty → List Ty → Bool
  | [k, r], [k2, r2] => h k k2 && h r r2
  | _, _ => false
def recP (less : Bool) (h : Ty → Ty → Bool) : List Ty → List Ty → Bool
  | [k], [k2] => rowsN h less k k2
  | _, _ => false
def holdsN : Nat → Bool → Ty → Ty → Bool
  | 0, _, _, _ => false
  | n + 1, less, a, b => dynF less a b || ((decide (a.op = b.op) && decide (a.n = b.n)) && (bif decide (a.op = 4) then funP (holdsN n less) a.kids b.kids
    else bif decide (a.op = 5) || decide (a.op = 6) then recP less (holdsN n less) a.kids b.kids else true))
def holdsF (less : Bool) (a b : Ty) : Bool := holdsN (psz a) less a b
def rowsF (less : Bool) (a b : Ty) : Bool := rowsN (holdsF less) less a b
theorem okL_congr {h k : Ty → Ty → Bool} {l m : List Fld} {t : Ty} (e : ∀ f ∈ l, ∀ y, h f.ty y = k f.ty y) (i : Nat) : okL h l m t i = okL k l m t i := by
  unfold okL
  cases hl : l[i]? with
  | none => rfl
  | some f =>
    simp only
    cases m[lessN m f.name + cntN (l.take i) f.name]? with
    | none => rfl
    | some g => simp only [e f (List.mem_of_getElem? hl) g.ty]
theorem rowsN_congr {h k : Ty → Ty → Bool} {less : Bool} {a b : Ty} (e : ∀ x, psz x < psz a → ∀ y, h x y = k x y) : rowsN h less a b = rowsN k less a b := by
  unfold rowsN
  rw [show okL h (flatF a).1 (flatF b).1 (flatF b).2 = okL k (flatF a).1 (flatF b).1 (flatF b).2 from funext fun i => okL_congr (fun f hf y => e f.ty (flt_psz hf) y) i]
theorem funP_congr {h k : Ty → Ty → Bool} {l : List Ty} (e : ∀ x ∈ l, ∀ y, h x y = k x y) (m : List Ty) : funP h l m = funP k l m := by
  rcases l with _ | ⟨x, _ | ⟨y, _ | ⟨z, l⟩⟩⟩ <;> rcases m with _ | ⟨x2, _ | ⟨y2, _ | ⟨z2, m⟩⟩⟩ <;> try rfl
  simp only [funP]
  rw [e x (by simp), e y (by simp)]
theorem recP_congr {less : Bool} {h k : Ty → Ty → Bool} {l : List Ty} (e : ∀ x ∈ l, ∀ z, psz z ≤ psz x → ∀ y, h z y = k z y) (m : List Ty) : recP less h l m = recP less k l m := by
  rcases l with _ | ⟨x, _ | ⟨y, l⟩⟩ <;> rcases m with _ | ⟨x2, _ | ⟨y2, m⟩⟩ <;> try rfl
  simp only [recP]
  exact rowsN_congr fun z hz y => e x (by simp) z (by omega) y
theorem holdsN_eq {less : Bool} : ∀ (n m : Nat) (a : Ty), psz a ≤ n → psz a ≤ m → ∀ b, holdsN n less a b = holdsN m less a b := by
  intro n
  induction n with
  | zero => intro m a h; have := psz_pos a; omega
  | succ n ih =>
    intro m a hn hm b
    cases m with
    | zero => have := psz_pos a; omega
    | succ m =>
      rw [holdsN, holdsN]
      rw [funP_congr (h := holdsN n less) (k := holdsN m less) (fun x hx y => by have := kid_psz hx; exact ih m x (by omega) (by omega) y),
        recP_congr (h := holdsN n less) (k := holdsN m less) (fun x hx z hz y => by have := kid_psz hx; exact ih m z (by omega) (by omega) y)]
theorem holdsF_eq (less : Bool) (a b : Ty) : holdsF less a b = (dynF less a b || ((decide (a.op = b.op) && decide (a.n = b.n)) && (bif decide (a.op = 4) then funP (holdsF less) a.kids b.kids
    else bif decide (a.op = 5) || decide (a.op = 6) then recP less (holdsF less) a.kids b.kids else true))) := by
  have hp := psz_pos a
  obtain ⟨n, hn⟩ : ∃ n, psz a = n + 1 := ⟨psz a - 1, by omega⟩
  show holdsN (psz a) less a b = _
  rw [hn, holdsN]
  rw [funP_congr (h := holdsN n less) (k := holdsF less) (fun x hx y => by have := kid_psz hx; exact holdsN_eq n (psz x) x (by omega) (by omega) y),
    recP_congr (h := holdsN n less) (k := holdsF less) (fun x hx z hz y => by have := kid_psz hx; exact holdsN_eq n (psz z) z (by omega) (by omega) y)]
/-! ## The scan -/
theorem srt_idx : ∀ {m : List Fld}, Srt m → ∀ {k : Nat} (h : k < m.length), k = lessN m m[k].name + cntN (m.take k) m[k].name
  | [], _, _, h => absurd h (Nat.not_lt_zero _)
  | x :: m, hs, 0, _ => by
    obtain ⟨h1, h2⟩ := List.pairwise_cons.1 hs
    have z : lessN (x :: m) x.name = 0 := lessN_zero fun f hf => by
      rcases List.mem_cons.1 hf with rfl | hf
      · rw [cmpN_eq.2 rfl]; simp
      · exact h1 f hf
    simp only [List.getElem_cons_zero, z]; rfl
  | x :: m, hs, k + 1, h => by
    obtain ⟨h1, h2⟩ := List.pairwise_cons.1 hs
    have hk : k < m.length := by simpa using h
    have ih := srt_idx h2 hk
    have e1 : lessN (x :: m) m[k].name = lessN [x] m[k].name + lessN m m[k].name := lessN_app [x] m _
    have e2 : cntN (x :: m.take k) m[k].name = cntN [x] m[k].name + cntN (m.take k) m[k].name := cntN_app [x] _ _
    have hx : leN x.name m[k].name := h1 _ (gM hk)
    simp only [List.getElem_cons_succ, List.take_succ_cons]
    rw [e1, e2]
    by_cases hn : x.name = m[k].name
    · rw [cntN_yes hn, lessN_no (fun hlt => lt_ne hlt hn)]; omega
    · have : cmpN x.name m[k].name < 0 := by
        have hne : cmpN x.name m[k].name ≠ 0 := fun e => hn (cmpN_eq.1 e)
        have h2 : ¬ cmpN m[k].name x.name < 0 := hx
        rw [cmpN_flip] at h2
        omega
      rw [cntN_no hn, lessN_yes this]; omega
/-! ## The n-th field of a name -/
def nthT (l : List Fld) (s : ByteArray) (n : Nat) : Option Ty := ((l.filter fun f => decide (f.name = s))[n]?).map Fld.ty
theorem nthT_st {l k : List Fld} (h : StP l k) (s : ByteArray) (n : Nat) : nthT l s n = nthT k s n := by unfold nthT; rw [h s]
theorem nthT_fields (l : List Fld) (s : ByteArray) (n : Nat) : nthT (fieldsF l) s n = nthT l s n := (nthT_st (fieldsF_st l) s n).symm
theorem nthT_none {l : List Fld} {s : ByteArray} {n : Nat} : nthT l s n = none ↔ cntN l s ≤ n := by
  unfold nthT cntN; rw [Option.map_eq_none_iff, List.getElem?_eq_none_iff]
theorem nthT_nil (s : ByteArray) (n : Nat) : nthT [] s n = none := rfl
theorem nthT_yes {f : Fld} {l : List Fld} {s : ByteArray} (h : f.name = s) : nthT (f :: l) s 0 = some f.ty ∧ ∀ n, nthT (f :: l) s (n + 1) = nthT l s n := by
  unfold nthT
  rw [List.filter_cons, dT h]
  exact ⟨rfl, fun n => rfl⟩
theorem nthT_no {f : Fld} {l : List Fld} {s : ByteArray} (h : f.name ≠ s) (n : Nat) : nthT (f :: l) s n = nthT l s n := by
  unfold nthT
  rw [List.filter_cons, dF h]
  rfl
theorem nthT_mem : ∀ {l : List Fld} {s : ByteArray} {n : Nat} {x : Ty}, nthT l s n = some x → ∃ (i : Nat) (hi : i < l.length), l[i].name = s ∧ cntN (l.take i) s = n ∧ l[i].ty = x
  | [], s, n, x, h => by rw [nthT_nil] at h; cases h
  | f :: l, s, n, x, h => by
    by_cases e : f.name = s
    · cases n with
      | zero =>
        rw [(nthT_yes e).1] at h
        exact ⟨0, by simp, e, rfl, by simpa using h⟩
      | succ n =>
        rw [(nthT_yes e).2] at h
        obtain ⟨i, hi, h1, h2, h3⟩ := nthT_mem h
        refine ⟨i + 1, by simpa using hi, by simpa using h1, ?_, by simpa using h3⟩
        rw [List.take_succ_cons, show f :: l.take i = [f] ++ l.take i from rfl, cntN_app, cntN_yes e, h2]; omega
    · rw [nthT_no e] at h
      obtain ⟨i, hi, h1, h2, h3⟩ := nthT_mem h
      refine ⟨i + 1, by simpa using hi, by simpa using h1, ?_, by simpa using h3⟩
      rw [List.take_succ_cons, show f :: l.take i = [f] ++ l.take i from rfl, cntN_app, cntN_no e, h2]; omega
theorem nthT_at : ∀ {l : List Fld} {i : Nat} (hi : i < l.length), nthT l l[i].name (cntN (l.take i) l[i].name) = some l[i].ty
  | [], i, hi => by simp at hi
  | f :: l, 0, _ => by
    show nthT (f :: l) f.name 0 = some f.ty
    exact (nthT_yes rfl).1
  | f :: l, i + 1, hi => by
    have ih := nthT_at (l := l) (i := i) (by simpa using hi)
    simp only [List.getElem_cons_succ, List.take_succ_cons]
    rw [show f :: l.take i = [f] ++ l.take i from rfl, cntN_app]
    by_cases e : f.name = (l[i]'(by simpa using hi)).name
    · rw [cntN_yes e, Nat.add_comm, (nthT_yes e).2, ih]
    · rw [cntN_no e, Nat.zero_add, nthT_no e, ih]
theorem nthT_srt {m : List Fld} (hs : Srt m) {s : ByteArray} {n : Nat} (h : n < cntN m s) : ∃ hk : lessN m s + n < m.length, nthT m s n = some m[lessN m s + n].ty := by
  obtain ⟨hk, hn⟩ := (nth_iff hs s n).1 h
  have h1 := srt_idx hs hk
  rw [hn] at h1
  have h2 := nthT_at hk
  rw [hn, show cntN (m.take (lessN m s + n)) s = n by omega] at h2
  exact ⟨hk, h2⟩
/-- Two rows' fields and tails, in a relation. -/
structure RowP (h : Ty → Ty → Bool) (less : Bool) (l m : List Fld) (e f : Ty) : Prop where
  both : ∀ s n x y, nthT l s n = some x → nthT m s n = some y → h x y = true
  left : ∀ s n x, nthT l s n = some x → nthT m s n = none → f.op = 9
  right : ∀ s n y, nthT m s n = some y → nthT l s n = none → less = false ∧ e.op = 9
  tail : tailF less e f = true
theorem rows_iff0 {less : Bool} {a b : Ty} : rowsF less a b = true ↔ RowP (holdsF less) less (flatF a).1 (flatF b).1 (flatF a).2 (flatF b).2 := by
  have hsm := flt_srt b
  unfold rowsF rowsN
  rw [Bool.and_eq_true, Bool.and_eq_true, List.all_eq_true, List.all_eq_true]
  generalize (flatF a).1 = l at *
  generalize (flatF b).1 = m at *
  constructor
  · rintro ⟨h1, h2, h3⟩
    refine ⟨fun s n x y hx hy => ?_, fun s n x hx hy => ?_, fun s n y hy hx => ?_, h3⟩
    · obtain ⟨i, hi, e1, e2, e3⟩ := nthT_mem hx
      have h4 := h1 i (List.mem_range.2 hi)
      have hlt : n < cntN m s := by
        rcases Nat.lt_or_ge n (cntN m s) with h | h
        · exact h
        · rw [nthT_none.2 h] at hy; cases hy
      obtain ⟨hk, hm⟩ := nthT_srt hsm hlt
      unfold okL at h4
      rw [gE hi] at h4
      simp only [e1, e2, dT hlt, cond_true, gE hk] at h4
      rw [hm] at hy
      rw [← Option.some.inj hy, ← e3]; exact h4
    · obtain ⟨i, hi, e1, e2, e3⟩ := nthT_mem hx
      have h4 := h1 i (List.mem_range.2 hi)
      have hge := nthT_none.1 hy
      unfold okL at h4
      rw [gE hi] at h4
      simp only [e1, e2, dF (show ¬ n < cntN m s by omega), cond_false] at h4
      simpa using h4
    · obtain ⟨k, hk, e1, e2, e3⟩ := nthT_mem hy
      have h4 := h2 k (List.mem_range.2 hk)
      have hge := nthT_none.1 hx
      unfold okM at h4
      rw [gE hk] at h4
      simp only [e1, e2, dF (show ¬ n < cntN l s by omega), Bool.false_or, Bool.and_eq_true, Bool.not_eq_true', decide_eq_true_eq] at h4
      exact h4
  · rintro ⟨h1, h2, h3, h4⟩
    refine ⟨fun i hi => ?_, fun k hk => ?_, h4⟩
    · rw [List.mem_range] at hi
      have hx := nthT_at hi
      by_cases hc : cntN (l.take i) l[i].name < cntN m l[i].name
      · obtain ⟨hk, hm⟩ := nthT_srt hsm hc
        unfold okL
        rw [gE hi]
        simp only [dT hc, cond_true, gE hk]
        exact h1 _ _ _ _ hx hm
      · unfold okL
        rw [gE hi]
        simp only [dF hc, cond_false]
        exact dT (h2 _ _ _ hx (nthT_none.2 (by omega)))
    · rw [List.mem_range] at hk
      have hy := nthT_at hk
      unfold okM
      rw [gE hk]
      by_cases hc : cntN (m.take k) m[k].name < cntN l m[k].name
      · simp only [dT hc, Bool.true_or]
      · obtain ⟨h5, h6⟩ := h3 _ _ _ hy (nthT_none.2 (by omega))
        rw [h5, dT h6]; simp
theorem rows_iff {less : Bool} {a b : Ty} (ha : rowB a = true) (hb : rowB b = true) : rowsF less a b = true ↔ RowP (holdsF less) less (spineF a).1 (spineF b).1 (spineF a).2 (spineF b).2 := by
  rw [rows_iff0, flat_yes ha, flat_yes hb]
  constructor
  · rintro ⟨h1, h2, h3, h4⟩
    simp only [nthT_fields] at h1 h2 h3
    exact ⟨h1, h2, h3, h4⟩
  · rintro ⟨h1, h2, h3, h4⟩
    refine ⟨?_, ?_, ?_, h4⟩ <;> simp only [nthT_fields] <;> assumption
/-! ## Types in a relation -/
theorem holds_base {less : Bool} {a b : Ty} (h : a.op = b.op) (hn : a.n = b.n) (h4 : a.op ≠ 4) (h5 : a.op ≠ 5) (h6 : a.op ≠ 6) : holdsF less a b = true := by
  rw [holdsF_eq]; simp only [dT h, dT hn, dF h4, dF h5, dF h6]; simp
theorem holds_fun {less : Bool} {a b k r k' r' : Ty} (ha : a.op = 4) (hb : b.op = 4) (hn : a.n = b.n) (hk : a.kids = [k, r]) (hk' : b.kids = [k', r']) (h1 : holdsF less k k' = true) (h2 : holdsF less r r' = true) : holdsF less a b = true := by
  rw [holdsF_eq]; simp [ha, hb, hn, hk, hk', funP, h1, h2]
theorem holds_rec {less : Bool} {a b k k' : Ty} (ha : a.op = 5 ∨ a.op = 6) (hb : a.op = b.op) (hn : a.n = b.n) (hk : a.kids = [k]) (hk' : b.kids = [k']) (h1 : rowsF less k k' = true) : holdsF less a b = true := by
  rw [holdsF_eq]
  have h4 : a.op ≠ 4 := by omega
  have h56 : (decide (a.op = 5) || decide (a.op = 6)) = true := by simpa using ha
  simp only [dT hb, dT hn, dF h4, h56, hk, hk', recP]
  simp only [cond_false, cond_true]
  rw [show rowsN (holdsF less) less k k' = rowsF less k k' from rfl, h1]; simp
theorem nthT_psz {r : Ty} {s : ByteArray} {n : Nat} {x : Ty} (h : nthT (spineF r).1 s n = some x) : psz x < psz r := by
  obtain ⟨i, hi, _, _, e⟩ := nthT_mem h
  rw [← e]; exact spine_psz r _ (gM hi)
theorem nthT_right {r : Ty} (hr : rowB r = true) {s : ByteArray} {n : Nat} {x : Ty} (h : nthT (spineF r).1 s n = some x) : rightB x = true := by
  obtain ⟨i, hi, _, _, e⟩ := nthT_mem h
  rw [← e]; exact (spine_right hr).1 _ (gM hi)
/-! ## Leaves -/
theorem kids_leaf {t : Ty} {c : UInt8} (h : shapeF t c = true) (h4 : t.op ≠ 4) (h5 : t.op ≠ 5) (h6 : t.op ≠ 6) (h11 : t.op ≠ 11) : t.kids = [] ∧ t.name = ⟨#[]⟩ ∧ (t.op ≠ 7 → t.op ≠ 10 → t.n = 0) := by
  obtain ⟨ks, hk, hl, _, hh, _⟩ := shape_pos h
  have : ks = ⟨#[]⟩ := by
    unfold kidsOf at hk
    split at hk
    · cases hk; rfl
    · simp [h4, h5, h6, h11] at hk
  subst this
  unfold headOk at hh
  simp only [Bool.and_eq_true, Bool.or_eq_true, decide_eq_true_eq, if_neg h11] at hh
  exact ⟨List.eq_nil_of_length_eq_zero (by rw [hl]; rfl), hh.1, fun h7 h10 => by omega⟩
theorem right_not11 {t : Ty} (h : rightB t = true) : t.op ≠ 11 := by have := right_op h; omega
/-! ## Canonical rows -/
theorem canon_ofF {r : Ty} (hr : rowB r = true) : canonF r = ofF ((fieldsF (spineF r).1).map canonFld) (spineF r).2 := by
  by_cases ho : r.op = 11
  · exact canon_row ho
  · have h8 := row_op hr
    obtain ⟨hk, _, _⟩ := kids_leaf (rowB_of hr).1 (by omega) (by omega) (by omega) ho
    rw [canon_other ho, spine_no ho, hk]
    conv => rhs; rw [show fieldsF [] = [] from rfl]
    show _ = r
    conv => rhs; rw [ty_eta r, hk]
    rfl
theorem spine_canonF {r : Ty} (hr : rowB r = true) : spineF (canonF r) = ((fieldsF (spineF r).1).map canonFld, (spineF r).2) := by
  rw [canon_ofF hr, spine_of (spine_right hr).2.2]
theorem nthT_map (l : List Fld) (s : ByteArray) (n : Nat) : nthT (l.map canonFld) s n = (nthT l s n).map canonF := by
  induction l generalizing n with
  | nil => rfl
  | cons f l ih =>
    rw [List.map_cons]
    by_cases e : f.name = s
    · have e' : (canonFld f).name = s := e
      cases n with
      | zero => rw [(nthT_yes e').1, (nthT_yes e).1]; rfl
      | succ n => rw [(nthT_yes e').2, (nthT_yes e).2, ih]
    · have e' : (canonFld f).name ≠ s := e
      rw [nthT_no e', nthT_no e, ih]
theorem row_nth {a b : Ty} (ha : rowB a = true) (hb : rowB b = true) (h : canonF a = canonF b) : (∀ s n, (nthT (spineF a).1 s n).map canonF = (nthT (spineF b).1 s n).map canonF) ∧ (spineF a).2 = (spineF b).2 := by
  have h1 := spine_canonF ha
  rw [h, spine_canonF hb] at h1
  have h2 := congrArg Prod.fst h1
  have h3 := congrArg Prod.snd h1
  simp only at h2 h3
  refine ⟨fun s n => ?_, h3.symm⟩
  rw [← nthT_fields (spineF a).1, ← nthT_fields (spineF b).1, ← nthT_map, ← nthT_map, h2]
theorem same_less : ∀ (N : Nat) (a b : Ty), psz a ≤ N → rightB a = true → rightB b = true → canonF a = canonF b → holdsF true a b = true
  | 0, a, _, h, _, _, _ => by have := psz_pos a; omega
  | N + 1, a, b, h, ha, hb, e => by
    rw [canon_other (right_not11 ha), canon_other (right_not11 hb)] at e
    simp only [Ty.mk.injEq] at e
    obtain ⟨e1, _, e3, e4⟩ := e
    by_cases h4 : a.op = 4
    · obtain ⟨k, r, hk, h1, h2⟩ := fun_kids ha h4
      obtain ⟨k', r', hk', h1', h2'⟩ := fun_kids hb (by omega)
      have p1 := kid_psz (t := a) (k := k) (by rw [hk]; simp)
      have p2 := kid_psz (t := a) (k := r) (by rw [hk]; simp)
      rw [hk, hk'] at e4
      simp only [List.map_cons, List.map_nil, List.cons.injEq, and_true] at e4
      exact holds_fun h4 (by omega) e3 hk hk' (same_less N k k' (by omega) h1 h1' e4.1) (same_less N r r' (by omega) h2 h2' e4.2)
    · by_cases h5 : a.op = 5 ∨ a.op = 6
      · obtain ⟨k, hk, h1⟩ := rec_kids ha h5
        obtain ⟨k', hk', h1'⟩ := rec_kids hb (by omega)
        have p1 := kid_psz (t := a) (k := k) (by rw [hk]; simp)
        rw [hk, hk'] at e4
        simp only [List.map_cons, List.map_nil, List.cons.injEq, and_true] at e4
        obtain ⟨g1, g2⟩ := row_nth h1 h1' e4
        refine holds_rec h5 e1 e3 hk hk' ((rows_iff h1 h1').2 ⟨fun s n x y hx hy => ?_, fun s n x hx hy => ?_, fun s n y hy hx => ?_, ?_⟩)
        · have := g1 s n
          rw [hx, hy] at this
          have hp := nthT_psz hx
          exact same_less N x y (by omega) (nthT_right h1 hx) (nthT_right h1' hy) (Option.some.inj this)
        · have := g1 s n; rw [hx, hy] at this; cases this
        · have := g1 s n; rw [hx, hy] at this; cases this
        · rw [g2]; unfold tailF; simp
      · exact holds_base e1 e3 h4 (by omega) (by omega)
/-! ## What is loosened -/
/-- Its variables are variables of what it is of. -/
def VarsIn (x t : Ty) : Prop := ∀ y ∈ partsL x, numB y.op = true → ∃ z ∈ partsL t, z.op = y.op ∧ z.n = y.n
theorem once_in {x t : Ty} (h : VarsIn x t) (ho : onceB t = true) : onceB x = true := by
  rw [once_true] at ho ⊢
  intro y hy z hz ⟨h7, h10, hn⟩
  obtain ⟨y', hy', e1, e2⟩ := h y hy (by simp [numB, h7])
  obtain ⟨z', hz', e3, e4⟩ := h z hz (by simp [numB, h10])
  exact ho y' hy' z' hz' ⟨by omega, by omega, by omega⟩
theorem vars_kid {x k t : Ty} (hk : k ∈ t.kids) (h : VarsIn x k) : VarsIn x t := fun y hy hn => by
  obtain ⟨z, hz, e⟩ := h y hy hn
  exact ⟨z, by rw [partsL_eq t]; exact List.mem_cons_of_mem _ (List.mem_flatMap.2 ⟨k, hk, hz⟩), e⟩
theorem parts_spine (t : Ty) : (∀ f ∈ (spineF t).1, ∀ y ∈ partsL f.ty, y ∈ partsL t) ∧ ∀ y ∈ partsL (spineF t).2, y ∈ partsL t := by
  induction t using Ty.ind with
  | h t ih =>
    have hin : ∀ k ∈ t.kids, ∀ y ∈ partsL k, y ∈ partsL t := fun k hk y hy => by rw [partsL_eq t]; exact List.mem_cons_of_mem _ (List.mem_flatMap.2 ⟨k, hk, hy⟩)
    by_cases ho : t.op = 11
    · rcases e : t.kids with _ | ⟨k, _ | ⟨r, _ | ⟨x, l⟩⟩⟩
      · rw [spineF_eq, e]; exact ⟨fun f hf => (by cases hf), fun y hy => hy⟩
      · rw [spineF_eq, e]; exact ⟨fun f hf => (by cases hf), fun y hy => hy⟩
      · rw [spine_yes ho e]
        obtain ⟨h1, h2⟩ := ih r (by rw [e]; simp)
        refine ⟨fun f hf y hy => ?_, fun y hy => hin r (by rw [e]; simp) y (h2 y hy)⟩
        rcases List.mem_cons.1 hf with rfl | hf
        · exact hin k (by rw [e]; simp) y hy
        · exact hin r (by rw [e]; simp) y (h1 f hf y hy)
      · rw [spineF_eq, e]; exact ⟨fun f hf => (by cases hf), fun y hy => hy⟩
    · rw [spine_no ho]; exact ⟨fun f hf => (by cases hf), fun y hy => hy⟩
theorem vars_ofF {e t : Ty} (he : VarsIn e t) : ∀ l : List Fld, (∀ f ∈ l, VarsIn f.ty t) → VarsIn (ofF l e) t
  | [], _ => he
  | f :: l, h => fun y hy hn => by
    rw [ofF_cons, partsL_eq] at hy
    rcases List.mem_cons.1 hy with rfl | hy
    · simp [numB, Ty.op] at hn
    · simp only [Ty.kids, List.flatMap_cons, List.flatMap_nil, List.append_nil, List.mem_append] at hy
      rcases hy with hy | hy
      · exact h f List.mem_cons_self y hy hn
      · exact vars_ofF he l (fun g hg => h g (List.mem_cons_of_mem _ hg)) y hy hn
theorem vars_canonF : ∀ (N : Nat) (t : Ty), psz t ≤ N → VarsIn (canonF t) t
  | 0, t, h => by have := psz_pos t; omega
  | N + 1, t, h => by
    by_cases ho : t.op = 11
    · rw [canon_row ho]
      obtain ⟨h1, h2⟩ := parts_spine t
      refine vars_ofF (fun y hy hn => ⟨y, h2 y hy, rfl, rfl⟩) _ fun f hf => ?_
      obtain ⟨g, hg, rfl⟩ := List.mem_map.1 hf
      have := fields_psz hg
      intro y hy hn
      obtain ⟨z, hz, e⟩ := vars_canonF N g.ty (by omega) y hy hn
      exact ⟨z, h1 g (fields_mem hg) z hz, e⟩
    · rw [canon_other ho]
      intro y hy hn
      rw [partsL_eq] at hy
      rcases List.mem_cons.1 hy with rfl | hy
      · exact ⟨t, by rw [partsL_eq]; exact List.mem_cons_self, rfl, rfl⟩
      · obtain ⟨x, hx, hyx⟩ := List.mem_flatMap.1 hy
        replace hx : x ∈ t.kids.map canonF := hx
        obtain ⟨k, hk, rfl⟩ := List.mem_map.1 hx
        have := kid_psz hk
        exact vars_kid hk (vars_canonF N k (by omega)) y hyx hn
theorem right_canon {t : Ty} (h : rightB t = true) : rightB (canonF t) = true :=
  rightB_mk (shape_canon _ t _ (lR _) (rightB_of h).1) (once_in (vars_canonF _ t (lR _)) (rightB_of h).2)
theorem row_canonB {t : Ty} (h : rowB t = true) : rowB (canonF t) = true :=
  rowB_mk (shape_canon _ t _ (lR _) (rowB_of h).1) (once_in (vars_canonF _ t (lR _)) (rowB_of h).2)
/-! ## Loosen, of what is right -/
end Rw
namespace Go.Proofs.Ytpoahmeacjggfaa
open Go Rw Go.RowKit
set_option maxRecDepth 100000
theorem ei_canon {t : Ty} (h : (rightB t || rowB t) = true) : (rightB (canonF t) || rowB (canonF t)) = true := by
  rw [Bool.or_eq_true] at h ⊢
  exact h.imp right_canon row_canonB
theorem ei_number {t : Ty} (h : (rightB t || rowB t) = true) : (rightB (numberF t) || rowB (numberF t)) = true := by
  rw [Bool.or_eq_true] at h ⊢
  rcases h with h | h
  · obtain ⟨h1, h2⟩ := number_sort (rightB_of h).1 (rightB_of (right_canon h)).2
    exact .inl (rightB_mk h1 h2)
  · obtain ⟨h1, h2⟩ := number_sort (rowB_of h).1 (rowB_of (row_canonB h)).2
    exact .inr (rowB_mk h1 h2)
theorem kindsApart_spec (t : Ty) (M : Nat → Prop) (w : World) (v : Value) (ht : Rep.R M w v t) (hsz : psz t ≤ 2000000) (Lw : Low M w) :
    Calls Try.prog 9 #[v] w (Ret fun r w' => r = .bool true ∧ Ext w w') := by
  have hE := Below.refl w.heap.size w
  have hB := lR w.heap.size
  obtain ⟨kv, rfl, op, nm, n64, hk⟩ := tO ht
  refine cN (n := 81) Try.func9 rfl rfl rfl ?_
  refine q0 ?_
  refine lC (o_box rfl rfl rfl ?_)
  intro b1 w1 hb_b1 ew1 h1
  replace h1 : Box _ b1 25 [.int .u8 t.op, .string t.name, .int .i64 t.n, kv] := h1
  replace h1 := h1.at (nO Lw hb_b1)
  replace hE := ew1.bl hE hB
  replace ht := Rep.Y ht ew1
  replace hk := hk.Y ew1
  replace Lw := Lw.Y ew1
  replace hB := ew1.z hB
  refine lP 1 tK rfl (q1 (cS (q0 ?_)))
  refine lC (oK fo14 rfl rfl rfl (alive_spec M _ Lw) ?_)
  rintro _ w2 ⟨rfl, ew2⟩
  replace hE := ew2.bl hE hB
  replace ht := Rep.Y ht ew2
  replace hk := hk.Y ew2
  replace h1 := h1.Y ew2
  replace Lw := Lw.Y ew2
  replace hB := ew2.z hB
  refine lP 1 tK rfl (q1 ?_)
  refine c_ifB _ rfl (fun c1 => ?_) (fun c1 => ?_)
  · exact absurd c1 (by simp)
  refine cK (xS (cS ?_))
  refine c_cut (X := Bool) (fun b => [(1, .pointer (some ⟨b1, 0, none⟩)), (21, .bool b)]) (fun b w' => (b = true ∨ (rightB t || rowB t) = true) ∧ At M w' b1 0 [.int .u8 t.op, .string t.name, .int .i64 t.n, kv] ∧ Rep.R M w' (.agg #[.int .u8 t.op, .string t.name, .int .i64 t.n, kv]) t ∧ Low M w' ∧ Below w.heap.size w w' ∧ w.heap.size ≤ w'.heap.size) ?_ ?_
  · refine cG ?_
    refine lC (oL tK (fun j v hv => h1.cell j v hv) rfl rfl rfl rfl rfl rfl ?_)
    refine lC (oK fo15 rfl rfl rfl (many_spec t M _ _ ht Lw hsz) ?_)
    rintro _ w4 ⟨rfl, ew4⟩
    replace hE := ew4.bl hE hB
    replace ht := Rep.Y ht ew4
    replace hk := hk.Y ew4
    replace h1 := h1.Y ew4
    replace Lw := Lw.Y ew4
    replace hB := ew4.z hB
    refine lP 1 tK rfl ?_
    refine l_split 12 _ rfl (fun c2 => ?_) (fun c2 => ?_)
    · refine lP 9 tK rfl (lN ?_)
      exact x_cut (_) (s2 rfl rfl) ⟨by by_cases hx : rowB t = true <;> simp_all, h1, ht, Lw, hE, hB⟩
    refine lC (oL tK (fun j v hv => h1.cell j v hv) rfl rfl rfl rfl rfl rfl ?_)
    refine lC (oK fo17 rfl rfl rfl (refRight_spec t M _ _ ht Lw hsz) ?_)
    rintro _ w5 ⟨rfl, ew5⟩
    replace hE := ew5.bl hE hB
    replace ht := Rep.Y ht ew5
    replace hk := hk.Y ew5
    replace h1 := h1.Y ew5
    replace Lw := Lw.Y ew5
    replace hB := ew5.z hB
    refine lP 2 tK rfl ?_
    refine l_splitB 16 _ rfl (fun c3 => ?_) (fun c3 => ?_)
    · refine lC (oL tK (fun j v hv => h1.cell j v hv) rfl rfl rfl rfl rfl rfl ?_)
      refine lC (oK fo19 rfl rfl rfl (refRow_spec t M _ _ ht Lw hsz) ?_)
      rintro _ w6 ⟨rfl, ew6⟩
      replace hE := ew6.bl hE hB
      replace ht := Rep.Y ht ew6
      replace hk := hk.Y ew6
      replace h1 := h1.Y ew6
      replace Lw := Lw.Y ew6
      replace hB := ew6.z hB
      refine lP 3 tK rfl (lN ?_)
      exact x_cut (_) (s2 rfl rfl) ⟨by by_cases hx : rowB t = true <;> simp_all, h1, ht, Lw, hE, hB⟩
    refine lP 5 tK rfl (lN ?_)
    exact x_cut (_) (s2 rfl rfl) ⟨by by_cases hx : rowB t = true <;> simp_all, h1, ht, Lw, hE, hB⟩
  clear h1 ht hk Lw hE hB
  rintro b w3 ⟨hbr, h1, ht, Lw, hE, hB⟩
  refine c_if _ rfl (fun c4 => ?_) (fun c4 => ?_)
  · refine q0 (lP 1 tK rfl (q1 (cR (xR (x1_ rfl rfl ?_)))))
    exact ⟨rfl, hE⟩
  have hro : (rightB t || rowB t) = true := hbr.resolve_left (by simp [c4])
  obtain ⟨cs9, hsh⟩ := shape_either hro
  have hec := ei_canon hro
  have hen := ei_number hro
  have hci := canon_idem _ t cs9 (lR _) hsh
  have hni := number_idem hsh
  have hpc : psz (canonF t) ≤ 2000000 := by rw [psz_canon _ t (lR _)]; exact hsz
  have hpn : psz (numberF t) ≤ 2000000 := by rw [psz_number]; exact hsz
  refine cK (xS (q0 ?_))
  refine lC (oL tK (fun j v hv => h1.cell j v hv) rfl rfl rfl rfl rfl rfl ?_)
  refine lC (oL tK (fun j v hv => h1.cell j v hv) rfl rfl rfl rfl rfl rfl ?_)
  refine lC (oK fo29 rfl rfl rfl (refPut_spec t 0 0 t M _ _ _ ht ht Lw hsz) ?_)
  rintro vw w7 ⟨hw, ew7⟩
  rw [put_same t hsh] at hw
  replace hE := ew7.bl hE hB
  replace h1 := h1.Y ew7
  replace ht := Rep.Y ht ew7
  replace Lw := Lw.Y ew7
  replace hB := ew7.z hB
  obtain ⟨kvs, rfl, ops, nms, n64s, hks⟩ := tO hw
  refine lC (o_new tK rfl rfl rfl ?_)
  intro b3 w8 qb3 ew8 hb3
  have nb3 := nO Lw qb3
  refine lC (o_st tK hb3 rfl rfl rfl rfl (Rep.one hw) rfl rfl ?_)
  intro w9 h3 uw9 bew9
  have ew9 : Ext w7 w9 := ew8.trans (bew9 _ (lQ qb3.symm))
  replace hE := ew9.bl hE hB
  replace h1 := h1.Y ew9
  replace ht := Rep.Y ht ew9
  replace hw := Rep.Y hw ew9
  replace hks := hks.Y ew9
  replace Lw := Lw.Y ew9
  replace hB := ew9.z hB
  replace h3 : Box w9 b3 25 [.int .u8 t.op, .string t.name, .int .i64 t.n, kvs] := h3
  replace h3 := h3.at nb3
  refine q1 (q0 ?_)
  refine lC (oL tK (fun j v hv => h1.cell j v hv) rfl rfl rfl rfl rfl rfl ?_)
  have Oh1 := h1
  have Oht := ht
  have Ohlow := Lw
  have OhE := hE
  have OhB := hB
  have Ohw := hw
  have Ohks := hks
  have Oh3 := h3
  have hB : w9.heap.size ≤ w9.heap.size := lR _
  have hE : Below w9.heap.size w9 w9 := Below.refl _ _
  have hsub : ∀ b, M b → M b := fun _ h => h
  refine lC (oK fo43 rfl rfl rfl (Canon_own t M _ _ ht Lw hsz) ?_)
  rintro vhc w10 ⟨hc, ew10⟩
  rw [hro, cond_true] at hc
  replace hc : OTy 25 w9.heap.size w10 (canonF t) vhc (Plus NoM w9 w10) := hc
  have hGl : ∀ c, Plus NoM w9 w10 c → w9.heap.size ≤ c ∧ c < w10.heap.size := fun c h => h.elim (fun h => h.elim) id
  generalize Plus NoM w9 w10 = F at hc hGl
  replace hE := ew10.bl hE hB
  replace h1 := h1.Y ew10
  replace ht := Rep.Y ht ew10
  replace h3 := h3.Y ew10
  replace Lw := Lw.Y ew10
  replace hB := ew10.z hB
  have hcr : Rep.R M w10 vhc (canonF t) := hc.rep fun c h hm => by
    have := Ohlow c hm
    have := (hGl c h).1
    omega
  obtain ⟨kvc, usc, Hc, rfl, opc, nmc, n64c, hknc, hrc, hOc, hHc⟩ := oty_open hc
  refine lC (o_new tK rfl rfl rfl ?_)
  intro b4 w11 qb4 ew11 hb4
  have nb4 := nO Lw qb4
  refine lC (o_st tK hb4 rfl rfl rfl rfl hc.one rfl rfl ?_)
  intro w12 h4 uw12 bew12
  have ew12 : Ext w10 w12 := ew11.trans (bew12 _ (lQ qb4.symm))
  replace hc := hc.Y Lw hB ew12
  replace hE := ew12.bl hE hB
  replace h1 := h1.Y ew12
  replace ht := Rep.Y ht ew12
  replace h3 := h3.Y ew12
  replace hcr := Rep.Y hcr ew12
  replace Lw := Lw.Y ew12
  replace hB := ew12.z hB
  replace h4 : Box w12 b4 25 [.int .u8 (canonF t).op, .string (canonF t).name, .int .i64 (canonF t).n, kvc] := h4
  replace h4 := h4.at nb4
  refine q1 (cS (cS ?_))
  refine a_beg Ext rfl ?_
  intro w13 ew13
  replace hc := hc.Y Lw hB ew13
  replace hE := ew13.bl hE hB
  replace h1 := h1.Y ew13
  replace ht := Rep.Y ht ew13
  replace h3 := h3.Y ew13
  replace hcr := Rep.Y hcr ew13
  replace h4 := h4.Y ew13
  replace Lw := Lw.Y ew13
  replace hB := ew13.z hB
  have hS : Ext w13 w13 := ext_refl _
  have D_h1 := h1
  have D_h3 := h3
  have D_h4 := h4
  refine a_lds 0 tK (fun _ hs j v hv => (D_h1.Y hs).cell j v hv) rfl rfl rfl rfl rfl rfl rfl (by kernel_rfl) i3 hS ?_
  refine a_lds 1 tK (fun _ hs j v hv => (D_h4.Y hs).cell j v hv) rfl rfl rfl rfl rfl rfl rfl (by kernel_rfl) i3 hS ?_
  have hsm := kSame_spec t (canonF t) M _ _ _ ht hcr Lw hsz hpc
  rw [hro, hec, cl_true hci.symm] at hsm
  simp only [Bool.and_self] at hsm
  refine a_bar 2 rfl (by kernel_rfl) (by kernel_rfl) (oK fo36 rfl rfl rfl (hsm) ?_)
  rintro _ w14 ⟨rfl, ew14⟩
  replace hS := hS.then ew14
  replace hc := hc.Y Lw hB ew14
  replace hE := ew14.bl hE hB
  replace h1 := h1.Y ew14
  replace ht := Rep.Y ht ew14
  replace h3 := h3.Y ew14
  replace hcr := Rep.Y hcr ew14
  replace h4 := h4.Y ew14
  replace Lw := Lw.Y ew14
  replace hB := ew14.z hB
  refine a_p 3 tK rfl rfl rfl rfl (by kernel_rfl) i3 hS ?_
  refine a_p 4 tK rfl rfl rfl rfl (by kernel_rfl) i3 hS ?_
  refine a_lds 5 tK (fun _ hs j v hv => (D_h4.Y hs).cell j v hv) rfl rfl rfl rfl rfl rfl rfl (by kernel_rfl) i3 hS ?_
  refine a_lds 7 tK (fun _ hs j v hv => (D_h4.Y hs).cell j v hv) rfl rfl rfl rfl rfl rfl rfl (by kernel_rfl) i3 hS ?_
  refine a_one 6 rfl (by kernel_rfl) (oK fo43 rfl rfl rfl (Canon_own (canonF t) M _ _ hcr Lw hpc) ?_)
  rintro v2 w15 ⟨hc2, ew15⟩
  rw [hec, cond_true, hci] at hc2
  replace hc2 := hc2.repNew Lw
  replace hS := hS.then ew15
  replace hc := hc.Y Lw hB ew15
  replace hE := ew15.bl hE hB
  replace h1 := h1.Y ew15
  replace ht := Rep.Y ht ew15
  replace h3 := h3.Y ew15
  replace hcr := Rep.Y hcr ew15
  replace h4 := h4.Y ew15
  replace Lw := Lw.Y ew15
  replace hB := ew15.z hB
  refine ⟨hS, ?_⟩
  have hal5 := alike_spec (canonF t) (canonF t) M _ _ _ hc2 hcr Lw
  rw [cl_true rfl] at hal5
  refine a_bar 8 rfl (by kernel_rfl) (by kernel_rfl) (oK fo22 rfl rfl rfl (hal5) ?_)
  rintro _ w16 ⟨rfl, ew16⟩
  replace hS := hS.then ew16
  replace hc := hc.Y Lw hB ew16
  replace hE := ew16.bl hE hB
  replace h1 := h1.Y ew16
  replace ht := Rep.Y ht ew16
  replace h3 := h3.Y ew16
  replace hcr := Rep.Y hcr ew16
  replace h4 := h4.Y ew16
  replace hc2 := Rep.Y hc2 ew16
  replace Lw := Lw.Y ew16
  replace hB := ew16.z hB
  refine a_p 9 tK rfl rfl rfl rfl (by kernel_rfl) i3 hS ?_
  refine a_p 10 tK rfl rfl rfl rfl (by kernel_rfl) i3 hS ?_
  refine a_p 11 tK rfl rfl rfl rfl (by kernel_rfl) i3 hS ?_
  refine a_lds 12 tK (fun _ hs j v hv => (D_h1.Y hs).cell j v hv) rfl rfl rfl rfl rfl rfl rfl (by kernel_rfl) i3 hS ?_
  refine a_lds 15 tK (fun _ hs j v hv => (D_h1.Y hs).cell j v hv) rfl rfl rfl rfl rfl rfl rfl (by kernel_rfl) i3 hS ?_
  refine a_one 13 rfl (by kernel_rfl) (oK fo44 rfl rfl rfl (Number_own t M _ _ ht Lw hsz) ?_)
  rintro vhn0 w17 ⟨hn0, ew17⟩
  rw [hro, cond_true] at hn0
  replace hn0 := hn0.repNew Lw
  replace hS := hS.then ew17
  replace hc := hc.Y Lw hB ew17
  replace hE := ew17.bl hE hB
  replace h1 := h1.Y ew17
  replace ht := Rep.Y ht ew17
  replace h3 := h3.Y ew17
  replace hcr := Rep.Y hcr ew17
  replace h4 := h4.Y ew17
  replace hc2 := Rep.Y hc2 ew17
  replace Lw := Lw.Y ew17
  replace hB := ew17.z hB
  refine ⟨hS, ?_⟩
  refine a_one 14 rfl (by kernel_rfl) (oK fo44 rfl rfl rfl (Number_own (numberF t) M _ _ hn0 Lw hpn) ?_)
  rintro vhn1 w18 ⟨hn1, ew18⟩
  rw [hen, cond_true, hni] at hn1
  replace hn1 := hn1.repNew Lw
  replace hS := hS.then ew18
  replace hc := hc.Y Lw hB ew18
  replace hE := ew18.bl hE hB
  replace h1 := h1.Y ew18
  replace ht := Rep.Y ht ew18
  replace h3 := h3.Y ew18
  replace hcr := Rep.Y hcr ew18
  replace h4 := h4.Y ew18
  replace hc2 := Rep.Y hc2 ew18
  replace hn0 := Rep.Y hn0 ew18
  replace Lw := Lw.Y ew18
  replace hB := ew18.z hB
  refine ⟨hS, ?_⟩
  refine a_bar 16 rfl (by kernel_rfl) (by kernel_rfl) (oK fo44 rfl rfl rfl (Number_own t M _ _ ht Lw hsz) ?_)
  rintro vhn2 w19 ⟨hn2, ew19⟩
  rw [hro, cond_true] at hn2
  replace hn2 := hn2.repNew Lw
  replace hS := hS.then ew19
  replace hc := hc.Y Lw hB ew19
  replace hE := ew19.bl hE hB
  replace h1 := h1.Y ew19
  replace ht := Rep.Y ht ew19
  replace h3 := h3.Y ew19
  replace hcr := Rep.Y hcr ew19
  replace h4 := h4.Y ew19
  replace hc2 := Rep.Y hc2 ew19
  replace hn0 := Rep.Y hn0 ew19
  replace hn1 := Rep.Y hn1 ew19
  replace Lw := Lw.Y ew19
  replace hB := ew19.z hB
  have hal6 := alike_spec (numberF t) (numberF t) M _ _ _ hn1 hn2 Lw
  rw [cl_true rfl] at hal6
  refine a_bar 17 rfl (by kernel_rfl) (by kernel_rfl) (oK fo22 rfl rfl rfl (hal6) ?_)
  rintro _ w20 ⟨rfl, ew20⟩
  replace hS := hS.then ew20
  replace hc := hc.Y Lw hB ew20
  replace hE := ew20.bl hE hB
  replace h1 := h1.Y ew20
  replace ht := Rep.Y ht ew20
  replace h3 := h3.Y ew20
  replace hcr := Rep.Y hcr ew20
  replace h4 := h4.Y ew20
  replace hc2 := Rep.Y hc2 ew20
  replace hn0 := Rep.Y hn0 ew20
  replace hn1 := Rep.Y hn1 ew20
  replace hn2 := Rep.Y hn2 ew20
  replace Lw := Lw.Y ew20
  replace hB := ew20.z hB
  refine a_p 18 tK rfl rfl rfl rfl (by kernel_rfl) i3 hS ?_
  refine a_p 19 tK rfl rfl rfl rfl (by kernel_rfl) i3 hS ?_
  refine a_end (by kernel_rfl) ?_
  refine xS (c_ifF rfl (cK (xS (q0 ?_))))
  refine lC (oL tK (fun j v hv => h4.cell j v hv) rfl rfl rfl rfl rfl rfl ?_)
  refine lC (oK fo53 rfl rfl rfl (spoil_spec F w9.heap.size _ _ _ hc.alt (fun c h => (hc.lt c h).2) (fun c h => (hc.lt c h).1) hB) ?_)
  rintro _ w21 ⟨rfl, sw21, _⟩
  replace hE := hE.trans sw21.below
  have eN : Ext w9 w21 := hE
  have h1 := Oh1
  clear Oh1
  have ht := Oht
  clear Oht
  have Lw := Ohlow
  clear Ohlow
  have hE := OhE
  clear OhE
  have hB := OhB
  clear OhB
  have hw := Ohw
  clear Ohw
  have hks := Ohks
  clear Ohks
  have h3 := Oh3
  clear Oh3
  replace hE := eN.bl hE hB
  replace h1 := h1.Y eN
  replace ht := Rep.Y ht eN
  replace hw := Rep.Y hw eN
  replace hks := hks.Y eN
  replace h3 := h3.Y eN
  replace Lw := Lw.Y eN
  replace hB := eN.z hB
  refine q1 (q0 ?_)
  refine lC (oL tK (fun j v hv => h1.cell j v hv) rfl rfl rfl rfl rfl rfl ?_)
  have Oh1 := h1
  have Oht := ht
  have Ohlow := Lw
  have OhE := hE
  have OhB := hB
  have Ohw := hw
  have Ohks := hks
  have Oh3 := h3
  have hB : w21.heap.size ≤ w21.heap.size := lR _
  have hE : Below w21.heap.size w21 w21 := Below.refl _ _
  have hsub : ∀ b, M b → M b := fun _ h => h
  refine lC (oK fo44 rfl rfl rfl (Number_own t M _ _ ht Lw hsz) ?_)
  rintro vhn w22 ⟨hn, ew22⟩
  rw [hro, cond_true] at hn
  replace hn : OTy 25 w21.heap.size w22 (numberF t) vhn (Plus NoM w21 w22) := hn
  have hGl : ∀ c, Plus NoM w21 w22 c → w21.heap.size ≤ c ∧ c < w22.heap.size := fun c h => h.elim (fun h => h.elim) id
  generalize Plus NoM w21 w22 = F at hn hGl
  replace hE := ew22.bl hE hB
  replace h1 := h1.Y ew22
  replace ht := Rep.Y ht ew22
  replace h3 := h3.Y ew22
  replace Lw := Lw.Y ew22
  replace hB := ew22.z hB
  refine lC (oK fo53 rfl rfl rfl (spoil_spec F w21.heap.size _ _ _ hn.alt (fun c h => (hn.lt c h).2) (fun c h => (hn.lt c h).1) hB) ?_)
  rintro _ w23 ⟨rfl, sw23, _⟩
  replace hE := hE.trans sw23.below
  have eN : Ext w21 w23 := hE
  have h1 := Oh1
  clear Oh1
  have ht := Oht
  clear Oht
  have Lw := Ohlow
  clear Ohlow
  have hE := OhE
  clear OhE
  have hB := OhB
  clear OhB
  have hw := Ohw
  clear Ohw
  have hks := Ohks
  clear Ohks
  have h3 := Oh3
  clear Oh3
  replace hE := eN.bl hE hB
  replace h1 := h1.Y eN
  replace ht := Rep.Y ht eN
  replace hw := Rep.Y hw eN
  replace hks := hks.Y eN
  replace h3 := h3.Y eN
  replace Lw := Lw.Y eN
  replace hB := eN.z hB
  refine q1 (q0 ?_)
  refine lC (oL tK (fun j v hv => h1.cell j v hv) rfl rfl rfl rfl rfl rfl ?_)
  refine lC (oL tK (fun j v hv => h1.cell j v hv) rfl rfl rfl rfl rfl rfl ?_)
  have Oh1 := h1
  have Oht := ht
  have Ohlow := Lw
  have OhE := hE
  have OhB := hB
  have Ohw := hw
  have Ohks := hks
  have Oh3 := h3
  have hB : w23.heap.size ≤ w23.heap.size := lR _
  have hE : Below w23.heap.size w23 w23 := Below.refl _ _
  have hsub : ∀ b, M b → M b := fun _ h => h
  refine lC (oK fo28 rfl rfl rfl (Put_own t t 0 M _ _ _ ht ht Lw hsz hsz) ?_)
  rintro vhp w24 ⟨hp, ew24⟩
  replace hp : OTy 25 w23.heap.size w24 (PutF t 0 t) vhp (Plus NoM w23 w24) := hp
  have hGl : ∀ c, Plus NoM w23 w24 c → w23.heap.size ≤ c ∧ c < w24.heap.size := fun c h => h.elim (fun h => h.elim) id
  generalize Plus NoM w23 w24 = F at hp hGl
  replace hE := ew24.bl hE hB
  replace h1 := h1.Y ew24
  replace ht := Rep.Y ht ew24
  replace h3 := h3.Y ew24
  replace Lw := Lw.Y ew24
  replace hB := ew24.z hB
  refine lC (oK fo53 rfl rfl rfl (spoil_spec F w23.heap.size _ _ _ hp.alt (fun c h => (hp.lt c h).2) (fun c h => (hp.lt c h).1) hB) ?_)
  rintro _ w25 ⟨rfl, sw25, _⟩
  replace hE := hE.trans sw25.below
  have eN : Ext w23 w25 := hE
  have h1 := Oh1
  clear Oh1
  have ht := Oht
  clear Oht
  have Lw := Ohlow
  clear Ohlow
  have hE := OhE
  clear OhE
  have hB := OhB
  clear OhB
  have hw := Ohw
  clear Ohw
  have hks := Ohks
  clear Ohks
  have h3 := Oh3
  clear Oh3
  replace hE := eN.bl hE hB
  replace h1 := h1.Y eN
  replace ht := Rep.Y ht eN
  replace hw := Rep.Y hw eN
  replace hks := hks.Y eN
  replace h3 := h3.Y eN
  replace Lw := Lw.Y eN
  replace hB := eN.z hB
  refine q1 (q0 ?_)
  refine lC (oL tK (fun j v hv => h1.cell j v hv) rfl rfl rfl rfl rfl rfl ?_)
  have Oh1 := h1
  have Oht := ht
  have Ohlow := Lw
  have OhE := hE
  have OhB := hB
  have Ohw := hw
  have Ohks := hks
  have Oh3 := h3
  have hB : w25.heap.size ≤ w25.heap.size := lR _
  have hE : Below w25.heap.size w25 w25 := Below.refl _ _
  have hsub : ∀ b, M b → M b := fun _ h => h
  refine lC (oK fo31 rfl rfl rfl (rec_own t M _ _ ht Lw hsz) ?_)
  rintro vhq w26 ⟨hq, ew26⟩
  replace hq : OTy 25 w25.heap.size w26 (Ty.mk 5 ⟨#[]⟩ 0 [t]) vhq (Plus NoM w25 w26) := hq
  have hGl : ∀ c, Plus NoM w25 w26 c → w25.heap.size ≤ c ∧ c < w26.heap.size := fun c h => h.elim (fun h => h.elim) id
  generalize Plus NoM w25 w26 = F at hq hGl
  replace hE := ew26.bl hE hB
  replace h1 := h1.Y ew26
  replace ht := Rep.Y ht ew26
  replace h3 := h3.Y ew26
  replace Lw := Lw.Y ew26
  replace hB := ew26.z hB
  refine lC (oK fo53 rfl rfl rfl (spoil_spec F w25.heap.size _ _ _ hq.alt (fun c h => (hq.lt c h).2) (fun c h => (hq.lt c h).1) hB) ?_)
  rintro _ w27 ⟨rfl, sw27, _⟩
  replace hE := hE.trans sw27.below
  have eN : Ext w25 w27 := hE
  have h1 := Oh1
  clear Oh1
  have ht := Oht
  clear Oht
  have Lw := Ohlow
  clear Ohlow
  have hE := OhE
  clear OhE
  have hB := OhB
  clear OhB
  have hw := Ohw
  clear Ohw
  have hks := Ohks
  clear Ohks
  have h3 := Oh3
  clear Oh3
  replace hE := eN.bl hE hB
  replace h1 := h1.Y eN
  replace ht := Rep.Y ht eN
  replace hw := Rep.Y hw eN
  replace hks := hks.Y eN
  replace h3 := h3.Y eN
  replace Lw := Lw.Y eN
  replace hB := eN.z hB
  refine q1 (q0 ?_)
  refine lC (oL tK (fun j v hv => h1.cell j v hv) rfl rfl rfl rfl rfl rfl ?_)
  have Oh1 := h1
  have Oht := ht
  have Ohlow := Lw
  have OhE := hE
  have OhB := hB
  have Ohw := hw
  have Ohks := hks
  have Oh3 := h3
  have hB : w27.heap.size ≤ w27.heap.size := lR _
  have hE : Below w27.heap.size w27 w27 := Below.refl _ _
  have hsub : ∀ b, M b → M b := fun _ h => h
  refine lC (oK fo25 rfl rfl rfl (Flat_alt t M _ _ ht Lw hsz) ?_)
  rintro _ w28 ⟨⟨xv, tv, F, us, n, rfl, hx, haf, hal, hFl⟩, ew28⟩
  obtain ⟨o9, s9, k9, p9, len9, cap9, rfl, _⟩ := hal.shape
  have haw : AlW 25 F w27.heap.size w28 us _ := ⟨hFl, haf, n, hal⟩
  have hul := hx.lt
  replace hE := ew28.bl hE hB
  replace h1 := h1.Y ew28
  replace ht := Rep.Y ht ew28
  replace h3 := h3.Y ew28
  replace Lw := Lw.Y ew28
  replace hB := ew28.z hB
  refine lP 3 tK rfl ?_
  refine lC (o_new tK rfl rfl rfl ?_)
  intro b6 w29 qb6 ew29 hb6
  have nb6 := nO Lw qb6
  refine lP 1 tK rfl ?_
  refine lC (o_st tK hb6 rfl rfl rfl rfl (by intro u hu; simp [Value.cells] at hu; rcases hu with rfl | rfl | rfl | rfl <;> rfl) rfl rfl ?_)
  intro w30 h6 uw30 bew30
  have ew30 : Ext w28 w30 := ew29.trans (bew30 _ (lQ qb6.symm))
  replace hE := ew30.bl hE hB
  replace h1 := h1.Y ew30
  replace ht := Rep.Y ht ew30
  replace h3 := h3.Y ew30
  replace hx := hx.Y ew30
  replace haw := haw.Y ew30
  replace Lw := Lw.Y ew30
  replace hB := ew30.z hB
  replace h6 : Box w30 b6 25 [.int .u8 o9, .string s9, .int .i64 k9, .slice p9 len9 cap9] := h6
  replace h6 : At F w30 b6 0 [.int .u8 o9, .string s9, .int .i64 k9, .slice p9 len9 cap9] := h6.at (fun g => by have := (hFl _ g).2; omega)
  refine q1 (cS (q0 (lP 1 tK rfl (q1 (cB ?_)))))
  have hlowF : Low F w30 := fun c h => (haw.lt c h).2
  refine c_loop (X := Nat) (fun i => [(1, .pointer (some ⟨b1, 0, none⟩)), (3, .pointer (some ⟨b3, 0, none⟩)), (5, xv), (6, .pointer (some ⟨b6, 0, none⟩)), (7, .int .i64 (i : Nat))]) (fun i w' => i ≤ us.length ∧ Sl F w' xv us ∧ At F w' b6 0 [.int .u8 o9, .string s9, .int .i64 k9, .slice p9 len9 cap9] ∧ AlW 25 F w27.heap.size w' us (.agg #[.int .u8 o9, .string s9, .int .i64 k9, .slice p9 len9 cap9]) ∧ Low F w' ∧ Below w27.heap.size w27 w' ∧ w27.heap.size ≤ w'.heap.size) (fun i => us.length - i) (0) (s5 rfl rfl rfl rfl rfl) ?_ ?_
  · exact ⟨Nat.zero_le _, hx, h6, haw, hlowF, hE, hB⟩
  clear hx h6 haw hlowF hE hB haf hal hFl hsub Lw
  rintro i w31 ⟨hi, hx, h6, haw, hlowF, hE, hB⟩
  refine cS (q0 (lP 2 tK rfl ?_))
  refine lC (o_len tK hx rfl rfl rfl rfl rfl ?_)
  refine lP 1 tK rfl (q1 ?_)
  refine cP _ rfl (fun c7 => ?_) (fun c7 => ?_)
  · refine cK (xS (cS (cB (cG (lP 2 tK rfl ?_)))))
    have hil : i < us.length := by omega
    refine lC (o_ixS tK hx (gE hil) rfl rfl rfl rfl rfl rfl rfl rfl rfl ?_)
    intro ebx eox eux hrx hX
    obtain ⟨nmx, ox, sx, kx, kvx, nx, hux, hax⟩ := haw.fl i us[i] (gE hil)
    obtain ⟨e0, _⟩ := hrx
    rw [e0, hux] at hX
    replace hX : At F w31 ebx eox [.string nmx, .int .u8 ox, .string sx, .int .i64 kx, kvx] := hX
    refine lP 1 tK rfl ?_
    refine lC (oL tK (fun j v hv => (hX).drop 1 (sub := [.int .u8 ox, .string sx, .int .i64 kx, kvx]) rfl j v hv) rfl rfl rfl rfl rfl rfl ?_)
    refine lC (oK fo53 rfl rfl rfl (spoil_spec F w27.heap.size nx _ _ hax hlowF (fun c h => (haw.lt c h).1) hB) ?_)
    rintro _ w32 ⟨rfl, sw32, kw32⟩
    replace haw := haw.spo sw32.upd.1 kw32
    replace hE := hE.trans sw32.below
    replace hx := hx.sp sw32
    replace h6 := h6.sp sw32
    replace hlowF := sw32.low
    replace hB := sw32.z hB
    refine q2 (xS (cG (lP 1 tK rfl ?_)))
    refine lC (o_ai rfl rfl rfl (by omega) rfl rfl ?_)
    refine lP 1 tK rfl (lN ?_)
    exact x_round (i + 1) (s5 rfl rfl rfl rfl (gN rfl (by omega))) ⟨by omega, hx, h6, haw, hlowF, hE, hB⟩ (by omega)
  refine c_exit (xE (xE (x_blkE (xS (q0 ?_)))))
  refine lC (oL tK (fun j v hv => h6.cell j v hv) rfl rfl rfl rfl rfl rfl ?_)
  obtain ⟨n9, hn9⟩ := haw.tl
  refine lC (oK fo53 rfl rfl rfl (spoil_spec F w27.heap.size n9 _ _ hn9 hlowF (fun c h => (haw.lt c h).1) hB) ?_)
  rintro _ w33 ⟨rfl, sw33, _⟩
  replace hE := hE.trans sw33.below
  have eN : Ext w27 w33 := hE
  have h1 := Oh1
  clear Oh1
  have ht := Oht
  clear Oht
  have Lw := Ohlow
  clear Ohlow
  have hE := OhE
  clear OhE
  have hB := OhB
  clear OhB
  have hw := Ohw
  clear Ohw
  have hks := Ohks
  clear Ohks
  have h3 := Oh3
  clear Oh3
  replace hE := eN.bl hE hB
  replace h1 := h1.Y eN
  replace ht := Rep.Y ht eN
  replace hw := Rep.Y hw eN
  replace hks := hks.Y eN
  replace h3 := h3.Y eN
  replace Lw := Lw.Y eN
  replace hB := eN.z hB
  refine q1 (q0 ?_)
  refine lC (oL tK (fun j v hv => h1.cell j v hv) rfl rfl rfl rfl rfl rfl ?_)
  refine lC (oL tK (fun j v hv => h3.cell j v hv) rfl rfl rfl rfl rfl rfl ?_)
  have hal8 := alike_spec (t) (t) M _ _ _ ht hw Lw
  rw [cl_true rfl] at hal8
  refine lC (oK fo22 rfl rfl rfl (hal8) ?_)
  rintro _ w34 ⟨rfl, ew34⟩
  replace hE := ew34.bl hE hB
  replace h1 := h1.Y ew34
  replace ht := Rep.Y ht ew34
  replace hw := Rep.Y hw ew34
  replace hks := hks.Y ew34
  replace h3 := h3.Y ew34
  replace Lw := Lw.Y ew34
  replace hB := ew34.z hB
  refine lP 1 tK rfl (q1 (cR (x1_ rfl rfl ?_)))
  exact ⟨rfl, hE⟩
end Go.Proofs.Ytpoahmeacjggfaa
namespace Rw
open Go Go.RowKit
theorem Ret.out {R : Value → World → Prop} {e : Ending} {w : World} (h : Ret R e w) : ∃ v, e = .returned v ∧ R v w := by
  cases e with
  | returned v => exact ⟨v, rfl, h⟩
  | _ => exact h.elim
/-! ## What the form's reach pays -/
open Go Go.RowKit
open Go.Proofs.Ytpoahmeacjggfaa.Rows (uptoBulk uptoBulkAll uptoSmall)
section
variable {H : Type}
theorem bulk_one (d : DataW H) : 1 ≤ uptoBulk d := by
  cases d with
  | lit l => cases l <;> simp [uptoBulk]
  | nil => simp [uptoBulk]
  | ptr d => simp [uptoBulk]
  | slice elems spare => simp [uptoBulk]
  | agg parts => simp [uptoBulk]
  | iface t d => simp [uptoBulk]
  | map entries => simp [uptoBulk]
  | held h => simp [uptoBulk]
theorem bulk_all : ∀ (l : List (DataW H)), uptoBulkAll l = (l.map uptoBulk).sum
  | [] => by simp [uptoBulkAll]
  | x :: r => by simp [uptoBulkAll, bulk_all r]
theorem bulk_str (l : List UInt8) : uptoBulk (DataW.lit (H := H) (.string l)) = l.length + 1 := by simp [uptoBulk]
theorem bulk_slice (l s : List (DataW H)) : uptoBulk (.slice l s) = uptoBulkAll l + uptoBulkAll s + 1 := by simp [uptoBulk]
theorem bulk_agg (l : List (DataW H)) : uptoBulk (.agg l) = uptoBulkAll l + 1 := by simp [uptoBulk]
theorem bulk_len (l : List (DataW H)) : l.length ≤ uptoBulkAll l := by
  induction l with
  | nil => simp
  | cons x r ih => have := bulk_one x; simp only [uptoBulkAll, List.length_cons]; omega
theorem bulk_mem {l : List (DataW H)} {d : DataW H} (h : d ∈ l) : uptoBulk d ≤ uptoBulkAll l := by
  induction l with
  | nil => cases h
  | cons x r ih =>
    simp only [uptoBulkAll]
    rcases List.mem_cons.1 h with e | e
    · subst e; omega
    · have := ih e; omega
theorem bulk_each {l : List (DataW H)} (h : uptoSmall H l = true) {j : Nat} {d : DataW H} (hd : l[j]? = some d) : uptoBulk d ≤ 1048576 := by
  have h1 : uptoBulkAll l ≤ 1048576 := by simpa [uptoSmall] using h
  exact Nat.le_trans (bulk_mem (List.mem_of_getElem? hd)) h1
/-- A type's readings, of bulk up to N, are things of α, of size at most that bulk. -/
structure OpensD (H : Type) {α : Type} [Rep α] (P : Program) (t : TypeId) (N : Nat) (sz : α → Nat) : Prop where
  cells : P.cellsOf t = Rep.sz α
  read : ∀ (enc : TypeId × Value → H) (w : World) (fuel : Nat) (cs : List Value) (d : DataW H) (ps : List MemPlace), DataW.trod enc P w 0 (fun _ => true) true fuel t cs = some (d, ps) → uptoBulk d ≤ N →
    ∃ (v : Value) (x : α), v.cells.toList = cs ∧ Rep.R NoM w v x ∧ sz x ≤ uptoBulk d
variable {P : Program}
theorem opensD_int {t : TypeId} (N : Nat) (ht : P.underlying t = some (.int .i64)) (hc : P.cellsOf t = 1) : OpensD H (α := Int) P t N (fun _ => 1) := by
  refine ⟨hc, fun enc w fuel cs d ps h _ => ?_⟩
  obtain ⟨n, rfl, _, hw⟩ := DataW.trod_int ht h
  refine ⟨.int .i64 n, n, rfl, ⟨rfl, ?_⟩, bulk_one d⟩
  have : -9223372036854775808 ≤ n ∧ n ≤ 9223372036854775807 := by simpa [Lit.wf, IntKind.min, IntKind.max, IntKind.signed, IntKind.bits] using hw
  exact this
theorem opensD_string {t : TypeId} (N : Nat) (hN : N < 140737488355328) (ht : P.underlying t = some .string) (hc : P.cellsOf t = 1) : OpensD H (α := ByteArray) P t N (fun s => 1 + s.size) := by
  refine ⟨hc, fun enc w fuel cs d ps h hQ => ?_⟩
  obtain ⟨s, rfl, hx, _⟩ := DataW.trod_string ht h
  cases hx
  rw [bulk_str] at hQ ⊢
  have e : s.data.toList.length = s.size := by simp
  exact ⟨.string s, s, rfl, ⟨rfl, by omega⟩, by omega⟩
theorem opensD_slice {α : Type} [Rep α] {sz : α → Nat} {t e : TypeId} (N : Nat) (hN : N < 140737488355328) (ht : P.underlying t = some (.slice e)) (hc : P.cellsOf t = 1) (he : OpensD H P e (N - 1) sz) : OpensD H (α := List α) P t N (fun l => 1 + (l.map sz).sum) := by
  refine ⟨hc, fun enc w fuel cs d ps h hQ => ?_⟩
  rcases Go.Deep.open_slice ht h with ⟨rfl, _⟩ | ⟨a, len, cap, m, n, D, Pl, rfl, _, hl, _, hm, hx, hel⟩
  · exact ⟨.slice none 0 0, [], rfl, sl_nil, by have := bulk_one d; simpa using this⟩
  · have hm' : m = cap := by simpa using hm
    subst hm'
    have hd : d = .slice ((List.range len).map D) ((List.range (m - len)).map fun j => D (len + j)) := congrArg Prod.fst hx
    subst hd
    rw [bulk_slice] at hQ ⊢
    have hlen := bulk_len ((List.range len).map D)
    rw [List.length_map, List.length_range] at hlen
    have hlen' : len < 140737488355328 := by omega
    rw [he.cells] at hel
    have each : ∀ i : Fin len, ∃ y : Value × α, w.cells? 0 (a.add (i.1 * Rep.sz α)) (Rep.sz α) = some y.1.cells.toList ∧ Rep.R NoM w y.1 y.2 ∧ sz y.2 ≤ uptoBulk (D i.1) := by
      intro i
      obtain ⟨cs', h1, h2⟩ := hel i.1 (lT i.2 hl)
      have hi : uptoBulk (D i.1) ≤ uptoBulkAll ((List.range len).map D) := bulk_mem (List.mem_map.2 ⟨i.1, List.mem_range.2 i.2, rfl⟩)
      obtain ⟨v, x, hv, hR, hp⟩ := he.read enc w n cs' _ _ h2 (by omega)
      exact ⟨(v, x), by rw [hv]; exact h1, hR, hp⟩
    obtain ⟨f, hf⟩ := Classical.axiomOfChoice each
    refine ⟨.slice (some a) len m, List.ofFn fun i => (f i).2, rfl, ⟨some a, m, by simp, by simpa using hlen', by simpa using hl, ?_⟩, ?_⟩
    · by_cases h0 : len = 0
      · subst h0; left; simp
      · right
        have hpos : 0 < Rep.sz α := Rep.pos
        obtain ⟨_, _, hc0⟩ := World.cells?_some (hf ⟨0, by omega⟩).1
        have hc00 := hc0 0 hpos
        have hlen0 := Rep.size (hf ⟨0, by omega⟩).2.1
        obtain ⟨b, off, spot⟩ := a
        have hsome : ∃ v, w.cell? ⟨b, off, spot⟩ = some v := by
          have e1 : (Addr.add ⟨b, off, spot⟩ (0 * Rep.sz α)).add 0 = ⟨b, off, spot⟩ := by simp [Addr.add]
          rw [e1] at hc00
          refine ⟨_, hc00.trans (gE (by simpa [hlen0] using hpos))⟩
        obtain ⟨v0, hv0⟩ := hsome
        have hsp : spot = none := by
          cases spot with
          | none => rfl
          | some s => simp [World.cell?] at hv0; split at hv0 <;> simp at hv0
        subst hsp
        have hb : b < w.heap.size := by
          rcases Nat.lt_or_ge b w.heap.size with h | h
          · exact h
          · simp [World.cell?, Array.getElem?_eq_none h] at hv0
        refine ⟨b, off, rfl, fun i x hi => ?_⟩
        have hi' : i < len := by
          have := (List.getElem?_eq_some_iff.1 hi).1
          simpa using this
        have hxe : x = (f ⟨i, hi'⟩).2 := by
          rw [List.getElem?_ofFn, dif_pos hi'] at hi
          simpa using hi.symm
        subst hxe
        refine ⟨(f ⟨i, hi'⟩).1, (hf ⟨i, hi'⟩).2.1, hb, fun h => h.elim, fun j c hj => ?_⟩
        obtain ⟨_, hl2, hc2⟩ := World.cells?_some (hf ⟨i, hi'⟩).1
        have hj' : j < Rep.sz α := by rw [← hl2]; exact (List.getElem?_eq_some_iff.1 hj).1
        have := hc2 j hj'
        rw [addr_add, addr_add, hj] at this
        exact this
    · rw [bulk_all, List.map_map]
      have e1 : (List.range len).map (uptoBulk ∘ D) = List.ofFn fun i : Fin len => uptoBulk (D i.1) := by
        apply List.ext_getElem
        · simp
        · intro i h1 h2
          simp
      have e2 : (List.ofFn fun i => (f i).2).map sz = List.ofFn fun i : Fin len => sz (f i).2 := by rw [List.map_ofFn]; rfl
      rw [e1, e2]
      have key : ∀ (n : Nat) (g h : Fin n → Nat), (∀ i, g i ≤ h i) → (List.ofFn g).sum ≤ (List.ofFn h).sum := by
        intro n
        induction n with
        | zero => intro g h _; simp
        | succ n ih =>
          intro g h hgh
          rw [List.ofFn_succ, List.ofFn_succ, List.sum_cons, List.sum_cons]
          have := ih (fun i => g i.succ) (fun i => h i.succ) (fun i => hgh _)
          have := hgh 0
          omega
      have := key len _ _ (fun i => (hf i).2.2)
      omega
/-- A type's size: its parts and their names. -/
def tsz (t : Ty) : Nat := ((partsL t).map fun x => 1 + x.name.size).sum
theorem tsz_eq (t : Ty) : tsz t = 1 + t.name.size + (t.kids.map tsz).sum := by
  unfold tsz
  rw [partsL_eq, List.map_cons, List.sum_cons]
  congr 1
  induction t.kids with
  | nil => rfl
  | cons k r ih => rw [List.flatMap_cons, List.map_append, List.sum_append, ih, List.map_cons, List.sum_cons]
theorem psz_tsz (t : Ty) : psz t ≤ tsz t := by
  show (partsL t).length ≤ _
  unfold tsz
  induction partsL t with
  | nil => simp
  | cons k r ih => simp only [List.length_cons, List.map_cons, List.sum_cons]; omega
theorem opensD_ty {t tOp tStr tInt tSl : TypeId} {f0 f1 f2 f3 : Field} (ht : P.underlying t = some (.struct #[f0, f1, f2, f3])) (h0 : f0.offset = 0 ∧ f0.type = tOp) (h1 : f1.offset = 1 ∧ f1.type = tStr) (h2 : f2.offset = 2 ∧ f2.type = tInt) (h3 : f3.offset = 3 ∧ f3.type = tSl)
    (uOp : P.underlying tOp = some (.int .u8)) (cOp : P.cellsOf tOp = 1) (uStr : P.underlying tStr = some .string) (cStr : P.cellsOf tStr = 1) (uInt : P.underlying tInt = some (.int .i64)) (cInt : P.cellsOf tInt = 1) (uSl : P.underlying tSl = some (.slice t)) (cSl : P.cellsOf tSl = 1) (cT : P.cellsOf t = 4) :
    ∀ N, N < 140737488355328 → OpensD H (α := Ty) P t N tsz := by
  intro N
  induction N with
  | zero => exact fun _ => ⟨cT, fun enc w fuel cs d ps h hQ => by have := bulk_one d; omega⟩
  | succ N ih =>
    intro hN
    have ihS := opensD_slice (H := H) (P := P) (N + 1) hN uSl cSl (ih (by omega))
    refine ⟨cT, fun enc w fuel cs d ps h hQ => ?_⟩
    obtain ⟨xs, n, _, hx, hl, hxl, hf⟩ := DataW.trod_struct ht h
    cases hx
    rw [cT] at hl
    obtain ⟨c0, c1, c2, c3, rfl⟩ : ∃ c0 c1 c2 c3, cs = [c0, c1, c2, c3] := by
      rcases cs with _ | ⟨c0, _ | ⟨c1, _ | ⟨c2, _ | ⟨c3, _ | ⟨c4, r⟩⟩⟩⟩⟩ <;> simp at hl
      exact ⟨c0, c1, c2, c3, rfl⟩
    obtain ⟨x0, x1, x2, x3, rfl⟩ : ∃ x0 x1 x2 x3, xs = [x0, x1, x2, x3] := by
      rcases xs with _ | ⟨c0, _ | ⟨c1, _ | ⟨c2, _ | ⟨c3, _ | ⟨c4, r⟩⟩⟩⟩⟩ <;> simp at hxl
      exact ⟨c0, c1, c2, c3, rfl⟩
    have g0 := hf 0 f0 rfl
    have g1 := hf 1 f1 rfl
    have g2 := hf 2 f2 rfl
    have g3 := hf 3 f3 rfl
    rw [h0.1, h0.2, cOp] at g0
    rw [h1.1, h1.2, cStr] at g1
    rw [h2.1, h2.2, cInt] at g2
    rw [h3.1, h3.2, cSl] at g3
    simp only [List.drop_zero, List.drop_succ_cons, List.take_succ_cons, List.take_zero, List.getElem?_cons_zero, List.getElem?_cons_succ] at g0 g1 g2 g3
    rw [bulk_agg] at hQ ⊢
    simp only [List.map_cons, List.map_nil, uptoBulkAll] at hQ ⊢
    obtain ⟨op, e0, _, w0⟩ := DataW.trod_int uOp g0
    obtain ⟨v1, s, e1, r1, z1⟩ := (opensD_string (H := H) (P := P) (N + 1) hN uStr cStr).read enc w n _ _ _ g1 (by omega)
    obtain ⟨v2, m, e2, r2, _⟩ := (opensD_int (H := H) (P := P) (N + 1) uInt cInt).read enc w n _ _ _ g2 (by omega)
    obtain ⟨v3, l, e3, r3, z3⟩ := ihS.read enc w n _ _ _ g3 (by omega)
    obtain ⟨rfl, hs⟩ := r1
    obtain ⟨rfl, hm⟩ := r2
    have hop : 0 ≤ op ∧ op ≤ 255 := by simpa [Lit.wf, IntKind.min, IntKind.max, IntKind.signed, IntKind.bits] using w0
    have r3' : Sl NoM w v3 l := r3
    have e3' := r3'.cells
    refine ⟨.agg #[.int .u8 op, .string s, .int .i64 m, v3], .mk op s m l, ?_, ty_mk hop hs hm r3', ?_⟩
    · rw [e3'] at e3
      simp [Value.cells] at e0 e1 e2 e3 ⊢
      simp [*]
    · rw [tsz_eq]
      show 1 + s.size + (l.map tsz).sum ≤ _
      have := bulk_one x0.1
      have := bulk_one x2.1
      omega
theorem opensD_arg {α : Type} [Rep α] {sz : α → Nat} {t : TypeId} {N : Nat} (ho : OpensD H P t N sz) {enc : TypeId × Value → H} {w : World} {v : Value} {d : DataW H} {ps : List MemPlace}
    (h : DataW.Trod enc P w 0 (fun _ => true) true t v d ps) (hd : uptoBulk d ≤ N) : ∃ (u : Value) (x : α), u.cells = v.cells ∧ Rep.R NoM w u x ∧ sz x ≤ N := by
  obtain ⟨fuel, hf⟩ := h
  obtain ⟨u, x, hv, hR, hp⟩ := ho.read enc w fuel _ _ _ hf hd
  exact ⟨u, x, Array.toList_inj.1 hv, hR, by omega⟩
end
theorem agg_of {u : Value} {a : Array Value} (h : u.cells = (Value.agg a).cells) (hu : ∃ b, u = .agg b) : u = .agg a := by
  obtain ⟨b, rfl⟩ := hu
  simp [Value.cells] at h
  rw [h]
theorem ty_agg {M : Nat → Prop} {w : World} {v : Value} {t : Ty} (h : Rep.R M w v t) : ∃ b, v = .agg b := let ⟨_, h1, _⟩ := tO h; ⟨_, h1⟩
end Rw
