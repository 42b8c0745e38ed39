/- Walks: something in the place of a variable. Printed by wip/walks/kinds15.py. -/
import Derived.Test.YtpoahmeacjggfaaWk
import Derived.Test.YtpoahmeacjggfaaPlainD
namespace Go.Proofs.Ytpoahmeacjggfaa
open Go Rw Go.RowKit
set_option maxRecDepth 100000

/-- put: in place. -/
theorem put_own : ∀ (t : Ty) (n : Int) (row : Bool) (s : Ty) (M : Nat → Prop) (w : World) (B : Nat) (v u : Value) (F : Nat → Prop), OTy 25 B w t v F → (∀ c, F c → M c) → Rep.R M w u s → Low M w → B ≤ w.heap.size → psz s ≤ 2000000 → Calls Try.prog 71 #[v, .agg #[.int .i64 n, .bool row], u] w (Ret fun r w' => ∃ M' F', OTy 25 B w' (putF (varOp row) n s t) r F' ∧ (∀ c, F' c → M' c ∧ (F c ∨ w.heap.size ≤ c)) ∧ Stp B M M' w w' ∧ Kept w w' (Out F w)) := by
  refine Ty.ind fun t ih => ?_
  intro n row s M w B v u F ht hF hs hlow hB hzs
  have hT : Stp B M M w w := Stp.refl hlow
  have hfr : Kept w w (Out F w) := Kept.refl (fun x hx => hx.1)
  obtain ⟨kv, us, H, rfl, op, nm, n64, hl, hr, hO, hH⟩ := oty_open ht
  have hkF := hr.inM
  replace hr := hr.keepV (M' := M) (fun b hb => hF b (hr.inM b hb)) (fun _ _ _ _ _ => rfl)
  have hF1 : ∀ c, H c → M c := fun c hc => hF c (hH c hc).1
  have hFn : ∀ c, H c → F c ∨ w.heap.size ≤ c := fun c hc => .inl (hH c hc).1
  have hul := hO.len
  have dd_hr_hO : ∀ x y, kv.ownBlock = some x → H y → x ≠ y := fun x y hx hy e => (hH y hy).2 (e ▸ hx)
  have dd_hr_hfr : ∀ x y, kv.ownBlock = some x → Out F w y → x ≠ y := fun x y hx hy e => hy.2 (e ▸ hkF x hx)
  obtain ⟨kvs, rfl, ops, nms, n64s, hks⟩ := ty_open hs
  refine c_enter (n := 53) Try.func71 rfl rfl rfl ?_
  refine q0 ?_
  refine l_cons (o_box rfl rfl rfl ?_)
  intro b3 w1 hb_b3 ew1 h3
  replace h3 : Box _ b3 25 [.int .u8 t.op, .string t.name, .int .i64 t.n, kv] := h3
  replace h3 := h3.at (nM_of hlow hb_b3)
  replace hT := hT.then (Stp.ext ew1 hlow hB)
  replace hr := hr.ext hlow hB ew1
  replace hO := hO.ext hlow hB ew1
  replace hfr := hfr.ext hlow hB ew1
  replace hs := Rep.ext hs ew1
  replace hks := hks.ext ew1
  replace hlow := hlow.ext ew1
  replace hB := Nat.le_trans hB ew1.size
  refine l_cons (o_box rfl rfl rfl ?_)
  intro b4 w2 hb_b4 ew2 h4
  replace h4 : Box _ b4 77 [.int .i64 n, .bool row] := h4
  replace h4 := h4.at (nM_of hlow hb_b4)
  replace hT := hT.then (Stp.ext ew2 hlow hB)
  replace hr := hr.ext hlow hB ew2
  replace hO := hO.ext hlow hB ew2
  replace hfr := hfr.ext hlow hB ew2
  replace hs := Rep.ext hs ew2
  replace hks := hks.ext ew2
  replace h3 := h3.ext ew2
  replace hlow := hlow.ext ew2
  replace hB := Nat.le_trans hB ew2.size
  refine l_cons (o_box rfl rfl rfl ?_)
  intro b5 w3 hb_b5 ew3 h5
  replace h5 : Box _ b5 25 [.int .u8 s.op, .string s.name, .int .i64 s.n, kvs] := h5
  replace h5 := h5.at (nM_of hlow hb_b5)
  replace hT := hT.then (Stp.ext ew3 hlow hB)
  replace hr := hr.ext hlow hB ew3
  replace hO := hO.ext hlow hB ew3
  replace hfr := hfr.ext hlow hB ew3
  replace hs := Rep.ext hs ew3
  replace hks := hks.ext ew3
  replace h3 := h3.ext ew3
  replace h4 := h4.ext ew3
  replace hlow := hlow.ext ew3
  replace hB := Nat.le_trans hB ew3.size
  refine l_cons (o_new tbOk rfl rfl rfl ?_)
  intro b6 w4 qb6 ew4 hb6
  have d_hr_h6 : ∀ x, (kv : Value).ownBlock = some x → x ≠ b6 := fun x hx => by have := (hr.lt x hx).2; omega
  have d_hO_h6 : ∀ x, H x → x ≠ b6 := fun x hx => by have := (hO.lt x hx).2; omega
  have d_hfr_h6 : ∀ x, (Out F w) x → x ≠ b6 := fun x hx => by have := (hfr.lt x hx).2; omega
  have sw4 := Stp.add ew4 hlow hB (Nat.le_of_eq qb6.symm) hb6.lt
  have h6 : MB B (Rw.Add M b6) w4 b6 25 [.int .u8 0, .string ⟨#[]⟩, .int .i64 0, .slice none 0 0] := MB.mk' hb6 qb6 hB
  replace hT := hT.then sw4
  replace hr := hr.stp sw4 (fun x hx => ew4.block x (hr.lt x hx).2)
  replace hO := hO.stp sw4 (fun x hx => ew4.block x (hO.lt x hx).2)
  replace hfr := hfr.stp sw4 (fun x hx => ew4.block x (hfr.lt x hx).2)
  replace hs := Rep.stp hs sw4
  replace hks := hks.stp sw4
  replace h3 := h3.stp sw4
  replace h4 := h4.stp sw4
  replace h5 := h5.stp sw4
  replace hF1 := fun b h => sw4.sub b (hF1 b h)
  replace hlow := sw4.low
  replace hB := Nat.le_trans hB sw4.upd.1
  refine q1 (c_seq (q0 (l_p 1 tbOk rfl ?_)))
  refine l_cons (o_ld tbOk (h3.cell 2 _ rfl) rfl rfl rfl rfl rfl ?_)
  refine l_p 1 tbOk rfl ?_
  refine l_cons (o_ld tbOk (h4.cell 0 _ rfl) rfl rfl rfl rfl rfl ?_)
  refine l_p 2 tbOk rfl ?_
  refine l_splitP 14 _ rfl (fun c1 => ?_) (fun c1 => ?_)
  · refine l_p 1 tbOk rfl ?_
    refine l_cons (o_ld tbOk (h3.cell 0 _ rfl) rfl rfl rfl rfl rfl ?_)
    refine l_p 2 tbOk rfl ?_
    refine l_splitP 18 _ rfl (fun c2 => ?_) (fun c2 => ?_)
    · refine l_p 1 tbOk rfl ?_
      refine l_cons (o_ld tbOk (h4.cell 1 _ rfl) rfl rfl rfl rfl rfl ?_)
      refine l_p 3 tbOk rfl ?_
      refine l_splitB 23 _ rfl (fun c3 => ?_) (fun c3 => ?_)
      · refine l_p 9 tbOk rfl (q1 (c_ifT rfl (q0 ?_)))
        refine l_cons (o_lds tbOk (fun j v hv => h5.cell j v hv) rfl rfl rfl rfl rfl rfl ?_)
        refine l_cons (o_call fo67 rfl rfl rfl (copied_own s _ _ _ hs hlow hzs) ?_)
        rintro vc w5 ⟨hc, ew5⟩
        replace hc := hc.ge hB
        have hGl : ∀ c, Plus NoM w4 w5 c → w4.heap.size ≤ c := fun c h => h.elim (fun h => h.elim) (fun h => h.1)
        have l_h6 := h6.lt
        have hsz0 := hT.upd.1
        replace hT := hT.then (Stp.ext ew5 hlow hB)
        replace hr := hr.ext hlow hB ew5
        replace hO := hO.ext hlow hB ew5
        replace hfr := hfr.ext hlow hB ew5
        replace h6 := h6.ext hlow hB ew5
        replace hs := Rep.ext hs ew5
        replace hks := hks.ext ew5
        replace h3 := h3.ext ew5
        replace h4 := h4.ext ew5
        replace h5 := h5.ext ew5
        replace hlow := hlow.ext ew5
        replace hB := Nat.le_trans hB ew5.size
        generalize Plus NoM w4 w5 = G at hc hGl
        have d_hc_h6 : ∀ x, G x → x ≠ b6 := fun x hx => by have := hGl x hx; omega
        obtain ⟨kvc, usc, Hc, rfl, opc, nmc, n64c, hlc, hrc, hOc, hHc⟩ := oty_open hc
        refine l_cons (o_st tbOk h6.box rfl rfl rfl rfl hc.one rfl rfl ?_)
        intro w6 hw6 qw6 bew6
        have uw6 : UpdB _ _ _ := ⟨qw6, bew6⟩
        have sw6 := uw6.stp h6.inM hlow h6.ge
        have frw6 := qw6.2
        replace hT := hT.then sw6
        replace hr := hr.stp sw6 (fun x hx => frw6 x (hr.lt x hx).2 (d_hr_h6 x hx))
        replace hO := hO.stp sw6 (fun x hx => frw6 x (hO.lt x hx).2 (d_hO_h6 x hx))
        replace hfr := hfr.stp sw6 (fun x hx => frw6 x (hfr.lt x hx).2 (d_hfr_h6 x hx))
        replace hc := hc.stp sw6 (fun x hx => frw6 x (hc.lt x hx).2 (d_hc_h6 x hx))
        replace hs := Rep.stp hs sw6
        replace hks := hks.stp sw6
        replace h3 := h3.stp sw6
        replace h4 := h4.stp sw6
        replace h5 := h5.stp sw6
        replace hF1 := fun b h => sw6.sub b (hF1 b h)
        replace hlow := sw6.low
        replace hB := Nat.le_trans hB sw6.upd.1
        replace h6 : MB B _ w6 b6 _ [.int .u8 s.op, .string s.name, .int .i64 s.n, kvc] := ⟨hw6, h6.inM, h6.ge⟩
        refine q1 (c_ret (x_seqR ?_))
        refine x_ret1s tbOk (fun j v hv => h6.cell j v hv) rfl rfl rfl rfl rfl ?_
        have hit : t.n = n ∧ t.op = varOp row := by clear ih; cases row <;> simp_all [varOp]
        refine ⟨_, G, by rw [put_hit hit.1 hit.2]; exact hc, fun c hc' => ⟨.inr hc', .inr (by have := hGl c hc'; omega)⟩, hT.more (fun c hc' => ⟨by have := hGl c hc'; omega, (hc.lt c hc').2⟩), hfr⟩
      refine l_p 1 tbOk rfl ?_
      refine l_cons (o_ld tbOk (h3.cell 0 _ rfl) rfl rfl rfl rfl rfl ?_)
      refine l_p 2 tbOk rfl ?_
      refine l_splitP 27 _ rfl (fun c4 => ?_) (fun c4 => ?_)
      · refine l_p 1 tbOk rfl ?_
        refine l_cons (o_ld tbOk (h4.cell 1 _ rfl) rfl rfl rfl rfl rfl ?_)
        refine l_p 3 tbOk rfl (q1 ?_)
        refine c_if _ rfl (fun c5 => ?_) (fun c5 => ?_)
        · refine q0 ?_
          refine l_cons (o_lds tbOk (fun j v hv => h5.cell j v hv) rfl rfl rfl rfl rfl rfl ?_)
          refine l_cons (o_call fo67 rfl rfl rfl (copied_own s _ _ _ hs hlow hzs) ?_)
          rintro vc w7 ⟨hc, ew7⟩
          replace hc := hc.ge hB
          have hGl : ∀ c, Plus NoM w4 w7 c → w4.heap.size ≤ c := fun c h => h.elim (fun h => h.elim) (fun h => h.1)
          have l_h6 := h6.lt
          have hsz0 := hT.upd.1
          replace hT := hT.then (Stp.ext ew7 hlow hB)
          replace hr := hr.ext hlow hB ew7
          replace hO := hO.ext hlow hB ew7
          replace hfr := hfr.ext hlow hB ew7
          replace h6 := h6.ext hlow hB ew7
          replace hs := Rep.ext hs ew7
          replace hks := hks.ext ew7
          replace h3 := h3.ext ew7
          replace h4 := h4.ext ew7
          replace h5 := h5.ext ew7
          replace hlow := hlow.ext ew7
          replace hB := Nat.le_trans hB ew7.size
          generalize Plus NoM w4 w7 = G at hc hGl
          have d_hc_h6 : ∀ x, G x → x ≠ b6 := fun x hx => by have := hGl x hx; omega
          obtain ⟨kvc, usc, Hc, rfl, opc, nmc, n64c, hlc, hrc, hOc, hHc⟩ := oty_open hc
          refine l_cons (o_st tbOk h6.box rfl rfl rfl rfl hc.one rfl rfl ?_)
          intro w8 hw8 qw8 bew8
          have uw8 : UpdB _ _ _ := ⟨qw8, bew8⟩
          have sw8 := uw8.stp h6.inM hlow h6.ge
          have frw8 := qw8.2
          replace hT := hT.then sw8
          replace hr := hr.stp sw8 (fun x hx => frw8 x (hr.lt x hx).2 (d_hr_h6 x hx))
          replace hO := hO.stp sw8 (fun x hx => frw8 x (hO.lt x hx).2 (d_hO_h6 x hx))
          replace hfr := hfr.stp sw8 (fun x hx => frw8 x (hfr.lt x hx).2 (d_hfr_h6 x hx))
          replace hc := hc.stp sw8 (fun x hx => frw8 x (hc.lt x hx).2 (d_hc_h6 x hx))
          replace hs := Rep.stp hs sw8
          replace hks := hks.stp sw8
          replace h3 := h3.stp sw8
          replace h4 := h4.stp sw8
          replace h5 := h5.stp sw8
          replace hF1 := fun b h => sw8.sub b (hF1 b h)
          replace hlow := sw8.low
          replace hB := Nat.le_trans hB sw8.upd.1
          replace h6 : MB B _ w8 b6 _ [.int .u8 s.op, .string s.name, .int .i64 s.n, kvc] := ⟨hw8, h6.inM, h6.ge⟩
          refine q1 (c_ret (x_seqR ?_))
          refine x_ret1s tbOk (fun j v hv => h6.cell j v hv) rfl rfl rfl rfl rfl ?_
          have hit : t.n = n ∧ t.op = varOp row := by clear ih; cases row <;> simp_all [varOp]
          refine ⟨_, G, by rw [put_hit hit.1 hit.2]; exact hc, fun c hc' => ⟨.inr hc', .inr (by have := hGl c hc'; omega)⟩, hT.more (fun c hc' => ⟨by have := hGl c hc'; omega, (hc.lt c hc').2⟩), hfr⟩
        refine c_skip (x_seq (c_seq (q0 (l_p 1 tbOk rfl ?_))))
        refine l_cons (o_ld tbOk (h3.cell 3 _ rfl) rfl rfl rfl rfl rfl ?_)
        refine l_cons (o_lenO tbOk hr rfl rfl rfl rfl rfl ?_)
        refine l_p 1 tbOk rfl (q1 (c_blk ?_))
        refine c_loop4 (X := Nat) (Y := List (VN 3)) (Z := Nat → Prop) (U := Nat → Prop) (fun i us M1 F1 => [(3, .pointer (some ⟨b3, 0, none⟩)), (4, .pointer (some ⟨b4, 0, none⟩)), (5, .pointer (some ⟨b5, 0, none⟩)), (6, .pointer (some ⟨b6, 0, none⟩)), (36, kv), (37, .int .i64 (t.kids.length : Int)), (38, .int .i64 (i : Nat))]) (fun i us M1 F1 w' => i ≤ t.kids.length ∧ OwnSl 25 B M1 w' kv us ∧ OTs 25 B w' us (mapTo (putF (varOp row) n s) t.kids i) F1 ∧ (∀ c, F1 c → M1 c) ∧ (∀ c, F1 c → F c ∨ w.heap.size ≤ c) ∧ Kept w w' (Out F w) ∧ Stp B M M1 w w' ∧ Low M1 w' ∧ B ≤ w'.heap.size ∧ MB B M1 w' b6 25 [.int .u8 0, .string ⟨#[]⟩, .int .i64 0, .slice none 0 0] ∧ At M1 w' b3 0 [.int .u8 t.op, .string t.name, .int .i64 t.n, kv] ∧ At M1 w' b4 0 [.int .i64 n, .bool row] ∧ At M1 w' b5 0 [.int .u8 s.op, .string s.name, .int .i64 s.n, kvs] ∧ Rep.R M1 w' (.agg #[.int .u8 s.op, .string s.name, .int .i64 s.n, kvs]) s ∧ (∀ x y, (kv : Value).ownBlock = some x → F1 y → x ≠ y) ∧ (∀ x y, (kv : Value).ownBlock = some x → (Out F w) y → x ≠ y) ∧ (∀ x, (kv : Value).ownBlock = some x → x ≠ b6) ∧ (∀ x, F1 x → x ≠ b6) ∧ (∀ x, (Out F w) x → x ≠ b6)) (fun i us M1 F1 => t.kids.length - i) (0) (us) ((Rw.Add M b6)) (H) (s7 rfl rfl rfl rfl rfl (get_num rfl (by omega)) rfl) ?_ ?_
        · refine ⟨Nat.zero_le _, ?_⟩
          rw [mapTo_zero]
          exact ⟨hr, hO, hF1, hFn, hfr, hT, hlow, hB, h6, h3, h4, h5, hs, dd_hr_hO, dd_hr_hfr, d_hr_h6, d_hO_h6, d_hfr_h6⟩
        clear hF1 hFn hfr hT dd_hr_hO dd_hr_hfr d_hr_h6 d_hO_h6 d_hfr_h6 hul
        rintro i us M1 F1 w9 ⟨hi, hr, hO, hF1, hFn, hfr, hT, hlow, hB, h6, h3, h4, h5, hs, dd_hr_hO, dd_hr_hfr, d_hr_h6, d_hO_h6, d_hfr_h6⟩
        have hul := hO.len
        rw [mapTo_len] at hul
        refine q0 (l_p 1 tbOk rfl (q1 (c_seq ?_)))
        refine c_ifP _ rfl (fun c6 => ?_) (fun c6 => ?_)
        · refine c_skip (x_seq (c_seq (c_blk (q0 (l_p 1 tbOk rfl ?_)))))
          have hik : i < t.kids.length := by omega
          obtain ⟨⟨uv⟩, G, hui, hx, hGF, hOh⟩ := hO.take (mapTo_get hik)
          refine l_cons (o_ixO tbOk hr hui rfl rfl rfl rfl rfl rfl rfl rfl rfl ?_)
          intro ebx eux hobx hRx hatx
          obtain ⟨e0, _⟩ := hRx
          replace e0 : eux = uv := e0
          subst e0
          obtain ⟨kvx, usx, Hx, rfl, opx, nmx, n64x, hlx, hrx, hOx, hHx⟩ := oty_open hx
          replace hatx : OAt _ _ _ [.int .u8 t.kids[i].op, .string t.kids[i].name, .int .i64 t.kids[i].n, kvx] := hatx
          refine l_cons (o_lds tbOk (fun j v hv => hatx.cell j v hv) rfl rfl rfl rfl rfl rfl ?_)
          refine l_cons (o_new tbOk rfl rfl rfl ?_)
          intro b8 w10 qb8 ew10 hb8
          have nb8 := nM_of hlow qb8
          refine l_p 1 tbOk rfl ?_
          refine l_cons (o_st tbOk hb8 rfl rfl rfl rfl hx.one rfl rfl ?_)
          intro w11 h8 uw11 bew11
          have ew11 : Ext w9 w11 := ew10.trans (bew11 _ (Nat.le_of_eq qb8.symm))
          replace hT := hT.then (Stp.ext ew11 hlow hB)
          replace hr := hr.ext hlow hB ew11
          replace hfr := hfr.ext hlow hB ew11
          replace h6 := h6.ext hlow hB ew11
          replace hOh := hOh.ext hlow hB ew11
          replace hx := hx.ext hlow hB ew11
          replace h3 := h3.ext ew11
          replace h4 := h4.ext ew11
          replace h5 := h5.ext ew11
          replace hs := Rep.ext hs ew11
          replace hlow := hlow.ext ew11
          replace hB := Nat.le_trans hB ew11.size
          replace h8 : Box w11 b8 25 [.int .u8 t.kids[i].op, .string t.kids[i].name, .int .i64 t.kids[i].n, kvx] := h8
          replace h8 := h8.at nb8
          refine q1 ?_
          refine a_beg (Sof B M1) rfl ?_
          intro w12 ew12
          replace hT := hT.then (Stp.ext ew12 hlow hB)
          replace hr := hr.ext hlow hB ew12
          replace hfr := hfr.ext hlow hB ew12
          replace h6 := h6.ext hlow hB ew12
          replace hOh := hOh.ext hlow hB ew12
          replace hx := hx.ext hlow hB ew12
          replace h3 := h3.ext ew12
          replace h4 := h4.ext ew12
          replace h5 := h5.ext ew12
          replace hs := Rep.ext hs ew12
          replace h8 := h8.ext ew12
          replace hlow := hlow.ext ew12
          replace hB := Nat.le_trans hB ew12.size
          have hS : Stp B M1 M1 w12 w12 := Stp.refl hlow
          have D_h6 := h6.box
          have D_h3 := h3
          have D_h4 := h4
          have D_h5 := h5
          have D_h8 := h8
          refine a_p 0 tbOk rfl rfl rfl rfl (by kernel_rfl) (fun _ _ _ h => h) ⟨_, hS⟩ ?_
          refine a_ld 1 tbOk (fun _ hs => (D_h3.so hs).cell 3 _ rfl) rfl rfl rfl rfl rfl rfl (by kernel_rfl) (fun _ _ _ h => h) ⟨_, hS⟩ ?_
          refine a_p 2 tbOk rfl rfl rfl rfl (by kernel_rfl) (fun _ _ _ h => h) ⟨_, hS⟩ ?_
          refine a_lds 3 tbOk (fun _ hs j v hv => (D_h8.so hs).cell j v hv) rfl rfl rfl rfl rfl rfl rfl (by kernel_rfl) (fun _ _ _ h => h) ⟨_, hS⟩ ?_
          refine a_lds 4 tbOk (fun _ hs j v hv => (D_h4.so hs).cell j v hv) rfl rfl rfl rfl rfl rfl rfl (by kernel_rfl) (fun _ _ _ h => h) ⟨_, hS⟩ ?_
          refine a_lds 5 tbOk (fun _ hs j v hv => (D_h5.so hs).cell j v hv) rfl rfl rfl rfl rfl rfl rfl (by kernel_rfl) (fun _ _ _ h => h) ⟨_, hS⟩ ?_
          have l_h6 := h6.lt
          have hsz0 := hT.upd.1
          have lH := hOh.lt
          have lr := hr.lt
          refine a_one 6 rfl (by kernel_rfl) (o_call fo71 rfl rfl rfl (ih _ (List.getElem_mem hik) n row s _ _ B _ _ G hx (fun c hc => hF1 c (hGF c hc)) hs hlow hB hzs) ?_)
          rintro vq w13 ⟨Mw13, Fw13, hq, hq2, sw13, kw13⟩
          have frw13 : ∀ x, x < w12.heap.size → ¬ G x → w13.heap[x]? = w12.heap[x]? := fun x hx hg => kw13.blk x ⟨hx, hg⟩
          replace hT := hT.then sw13
          replace hS := hS.then sw13
          replace hr := hr.stp sw13 (fun x hx => frw13 x (hr.lt x hx).2 (fun g => dd_hr_hO x x hx (hGF x g) rfl))
          replace hfr := hfr.stp sw13 (fun x hx => frw13 x (hfr.lt x hx).2 (fun g => (hFn x (hGF x g)).elim hx.2 (fun h => by have := hx.1; have := hfr.size; omega)))
          replace h6 := h6.stp sw13 (frw13 b6 h6.lt (fun g => d_hO_h6 _ (hGF _ g) rfl))
          replace hOh := hOh.stp sw13 (fun c hc hn => frw13 c (hOh.lt c hc).2 hn)
          replace h3 := h3.stp sw13
          replace h4 := h4.stp sw13
          replace h5 := h5.stp sw13
          replace hs := Rep.stp hs sw13
          replace h8 := h8.stp sw13
          replace hF1 := fun b h => sw13.sub b (hF1 b h)
          replace hlow := sw13.low
          replace hB := Nat.le_trans hB sw13.upd.1
          refine ⟨⟨_, hS⟩, ?_⟩
          have hO := hOh.put hq (fun c hc => (hq2 c hc).2.elim .inl (fun h => .inr (fun hf => by have := (lH c hf).2; omega)))
          replace hF1 : ∀ c, F1 c ∨ Fw13 c → Mw13 c := fun c h => h.elim (hF1 c) (fun h => (hq2 c h).1)
          replace dd_hr_hO : ∀ x y, kv.ownBlock = some x → (F1 y ∨ Fw13 y) → x ≠ y := fun x y hx hy => hy.elim (dd_hr_hO x y hx) (fun h => (hq2 y h).2.elim (fun g => dd_hr_hO x y hx (hGF y g)) (fun h => by have := (lr x hx).2; omega))
          replace d_hO_h6 : ∀ x, (F1 x ∨ Fw13 x) → x ≠ b6 := fun x hx => hx.elim (d_hO_h6 x) (fun h => (hq2 x h).2.elim (fun g => d_hO_h6 x (hGF x g)) (fun h => by have := l_h6; omega))
          replace hFn : ∀ c, (F1 c ∨ Fw13 c) → F c ∨ w.heap.size ≤ c := fun c hc => hc.elim (hFn c) (fun h => (hq2 c h).2.elim (fun g => hFn c (hGF c g)) (fun h => .inr (by have := hsz0; omega)))
          refine a_ixO 7 tbOk hr hui rfl rfl rfl rfl rfl rfl rfl rfl rfl rfl (by kernel_rfl) (fun _ _ _ _ h => h) ⟨_, hS⟩ ?_
          intro ebz euz hobz hRz hatz
          refine a_one 8 rfl (by kernel_rfl) (o_stO tbOk hr hobz (by omega) hq.vn hlow rfl rfl rfl rfl rfl rfl ?_)
          intro w14 hw14 sw14 frw14
          replace hT := hT.then sw14
          replace hS := hS.then sw14
          replace hfr := hfr.stp sw14 (fun x hx => frw14 x (hfr.lt x hx).2 (fun e => dd_hr_hfr _ x hobz hx e.symm))
          replace h6 := h6.stp sw14 (frw14 b6 h6.lt (fun e => d_hr_h6 _ hobz e.symm))
          replace hO := hO.stp sw14 (fun x hx => frw14 x (hO.lt x hx).2 (fun e => dd_hr_hO _ x hobz hx e.symm))
          replace h3 := h3.stp sw14
          replace h4 := h4.stp sw14
          replace h5 := h5.stp sw14
          replace hs := Rep.stp hs sw14
          replace h8 := h8.stp sw14
          replace hF1 := fun b h => sw14.sub b (hF1 b h)
          replace hlow := sw14.low
          replace hB := Nat.le_trans hB sw14.upd.1
          refine ⟨⟨_, hS⟩, ?_⟩
          replace hr := hw14
          clear hw14
          refine a_end (by kernel_rfl) ?_
          refine x_blk (x_seq (c_reg ?_))
          refine l_cons (o_ar rfl rfl rfl (IntWalk.i64_in _ (by omega)) rfl rfl ?_)
          refine l_p 1 tbOk rfl (l_nil ?_)
          exact x_round4 (i + 1) (us.set i ⟨vq⟩) (Mw13) ((fun c => F1 c ∨ Fw13 c)) (s7 rfl rfl rfl rfl rfl rfl rfl) ⟨by omega, hr, by rw [← mapTo_set hik]; exact hO, hF1, hFn, hfr, hT, hlow, hB, h6, h3, h4, h5, hs, dd_hr_hO, dd_hr_hfr, d_hr_h6, d_hO_h6, d_hfr_h6⟩ (by omega)
        refine c_exit (x_seqE (x_seqE (x_blkE (x_seq (q0 ?_)))))
        refine l_cons (o_lds tbOk (fun j v hv => h3.cell j v hv) rfl rfl rfl rfl rfl rfl ?_)
        refine l_cons (o_st tbOk h6.box rfl rfl rfl rfl (own_ones hr) rfl rfl ?_)
        intro w15 hw15 qw15 bew15
        have uw15 : UpdB _ _ _ := ⟨qw15, bew15⟩
        have sw15 := uw15.stp h6.inM hlow h6.ge
        have frw15 := qw15.2
        replace hT := hT.then sw15
        replace hr := hr.stp sw15 (fun x hx => frw15 x (hr.lt x hx).2 (d_hr_h6 x hx))
        replace hO := hO.stp sw15 (fun x hx => frw15 x (hO.lt x hx).2 (d_hO_h6 x hx))
        replace hfr := hfr.stp sw15 (fun x hx => frw15 x (hfr.lt x hx).2 (d_hfr_h6 x hx))
        replace h3 := h3.stp sw15
        replace h4 := h4.stp sw15
        replace h5 := h5.stp sw15
        replace hs := Rep.stp hs sw15
        replace hF1 := fun b h => sw15.sub b (hF1 b h)
        replace hlow := sw15.low
        replace hB := Nat.le_trans hB sw15.upd.1
        replace h6 : MB B _ w15 b6 _ [.int .u8 t.op, .string t.name, .int .i64 t.n, kv] := ⟨hw15, h6.inM, h6.ge⟩
        refine q1 (c_ret ?_)
        refine x_ret1s tbOk (fun j v hv => h6.cell j v hv) rfl rfl rfl rfl rfl ?_
        have hno : ¬ (t.n = n ∧ t.op = varOp row) := by clear ih; cases row <;> simp_all [varOp]
        obtain rfl : i = t.kids.length := by omega
        rw [mapTo_all (Nat.le_refl _)] at hO
        refine ⟨_, fun c => kv.ownBlock = some c ∨ F1 c, ?_, fun c hc => hc.elim (fun h => ⟨hr.inM c h, .inl (hkF c h)⟩) (fun h => ⟨hF1 c h, hFn c h⟩), hT, hfr⟩
        rw [put_no hno]
        exact oty_mk op nm n64 (by simpa using hl) (fun c hc => hc.elim (hr.lt c) (hO.lt c)) (hr.keepV (fun b hb => .inl hb) (fun _ _ _ _ _ => rfl)) hO (fun c hc => ⟨.inr hc, fun e => dd_hr_hO c c e hc rfl⟩)
      refine l_p 5 tbOk rfl (q1 (c_ifF rfl (c_skip (x_seq (c_seq (q0 (l_p 1 tbOk rfl ?_)))))))
      refine l_cons (o_ld tbOk (h3.cell 3 _ rfl) rfl rfl rfl rfl rfl ?_)
      refine l_cons (o_lenO tbOk hr rfl rfl rfl rfl rfl ?_)
      refine l_p 1 tbOk rfl (q1 (c_blk ?_))
      refine c_loop4 (X := Nat) (Y := List (VN 3)) (Z := Nat → Prop) (U := Nat → Prop) (fun i us M1 F1 => [(3, .pointer (some ⟨b3, 0, none⟩)), (4, .pointer (some ⟨b4, 0, none⟩)), (5, .pointer (some ⟨b5, 0, none⟩)), (6, .pointer (some ⟨b6, 0, none⟩)), (36, kv), (37, .int .i64 (t.kids.length : Int)), (38, .int .i64 (i : Nat))]) (fun i us M1 F1 w' => i ≤ t.kids.length ∧ OwnSl 25 B M1 w' kv us ∧ OTs 25 B w' us (mapTo (putF (varOp row) n s) t.kids i) F1 ∧ (∀ c, F1 c → M1 c) ∧ (∀ c, F1 c → F c ∨ w.heap.size ≤ c) ∧ Kept w w' (Out F w) ∧ Stp B M M1 w w' ∧ Low M1 w' ∧ B ≤ w'.heap.size ∧ MB B M1 w' b6 25 [.int .u8 0, .string ⟨#[]⟩, .int .i64 0, .slice none 0 0] ∧ At M1 w' b3 0 [.int .u8 t.op, .string t.name, .int .i64 t.n, kv] ∧ At M1 w' b4 0 [.int .i64 n, .bool row] ∧ At M1 w' b5 0 [.int .u8 s.op, .string s.name, .int .i64 s.n, kvs] ∧ Rep.R M1 w' (.agg #[.int .u8 s.op, .string s.name, .int .i64 s.n, kvs]) s ∧ (∀ x y, (kv : Value).ownBlock = some x → F1 y → x ≠ y) ∧ (∀ x y, (kv : Value).ownBlock = some x → (Out F w) y → x ≠ y) ∧ (∀ x, (kv : Value).ownBlock = some x → x ≠ b6) ∧ (∀ x, F1 x → x ≠ b6) ∧ (∀ x, (Out F w) x → x ≠ b6)) (fun i us M1 F1 => t.kids.length - i) (0) (us) ((Rw.Add M b6)) (H) (s7 rfl rfl rfl rfl rfl (get_num rfl (by omega)) rfl) ?_ ?_
      · refine ⟨Nat.zero_le _, ?_⟩
        rw [mapTo_zero]
        exact ⟨hr, hO, hF1, hFn, hfr, hT, hlow, hB, h6, h3, h4, h5, hs, dd_hr_hO, dd_hr_hfr, d_hr_h6, d_hO_h6, d_hfr_h6⟩
      clear hF1 hFn hfr hT dd_hr_hO dd_hr_hfr d_hr_h6 d_hO_h6 d_hfr_h6 hul
      rintro i us M1 F1 w16 ⟨hi, hr, hO, hF1, hFn, hfr, hT, hlow, hB, h6, h3, h4, h5, hs, dd_hr_hO, dd_hr_hfr, d_hr_h6, d_hO_h6, d_hfr_h6⟩
      have hul := hO.len
      rw [mapTo_len] at hul
      refine q0 (l_p 1 tbOk rfl (q1 (c_seq ?_)))
      refine c_ifP _ rfl (fun c7 => ?_) (fun c7 => ?_)
      · refine c_skip (x_seq (c_seq (c_blk (q0 (l_p 1 tbOk rfl ?_)))))
        have hik : i < t.kids.length := by omega
        obtain ⟨⟨uv⟩, G, hui, hx, hGF, hOh⟩ := hO.take (mapTo_get hik)
        refine l_cons (o_ixO tbOk hr hui rfl rfl rfl rfl rfl rfl rfl rfl rfl ?_)
        intro ebx eux hobx hRx hatx
        obtain ⟨e0, _⟩ := hRx
        replace e0 : eux = uv := e0
        subst e0
        obtain ⟨kvx, usx, Hx, rfl, opx, nmx, n64x, hlx, hrx, hOx, hHx⟩ := oty_open hx
        replace hatx : OAt _ _ _ [.int .u8 t.kids[i].op, .string t.kids[i].name, .int .i64 t.kids[i].n, kvx] := hatx
        refine l_cons (o_lds tbOk (fun j v hv => hatx.cell j v hv) rfl rfl rfl rfl rfl rfl ?_)
        refine l_cons (o_new tbOk rfl rfl rfl ?_)
        intro b8 w17 qb8 ew17 hb8
        have nb8 := nM_of hlow qb8
        refine l_p 1 tbOk rfl ?_
        refine l_cons (o_st tbOk hb8 rfl rfl rfl rfl hx.one rfl rfl ?_)
        intro w18 h8 uw18 bew18
        have ew18 : Ext w16 w18 := ew17.trans (bew18 _ (Nat.le_of_eq qb8.symm))
        replace hT := hT.then (Stp.ext ew18 hlow hB)
        replace hr := hr.ext hlow hB ew18
        replace hfr := hfr.ext hlow hB ew18
        replace h6 := h6.ext hlow hB ew18
        replace hOh := hOh.ext hlow hB ew18
        replace hx := hx.ext hlow hB ew18
        replace h3 := h3.ext ew18
        replace h4 := h4.ext ew18
        replace h5 := h5.ext ew18
        replace hs := Rep.ext hs ew18
        replace hlow := hlow.ext ew18
        replace hB := Nat.le_trans hB ew18.size
        replace h8 : Box w18 b8 25 [.int .u8 t.kids[i].op, .string t.kids[i].name, .int .i64 t.kids[i].n, kvx] := h8
        replace h8 := h8.at nb8
        refine q1 ?_
        refine a_beg (Sof B M1) rfl ?_
        intro w19 ew19
        replace hT := hT.then (Stp.ext ew19 hlow hB)
        replace hr := hr.ext hlow hB ew19
        replace hfr := hfr.ext hlow hB ew19
        replace h6 := h6.ext hlow hB ew19
        replace hOh := hOh.ext hlow hB ew19
        replace hx := hx.ext hlow hB ew19
        replace h3 := h3.ext ew19
        replace h4 := h4.ext ew19
        replace h5 := h5.ext ew19
        replace hs := Rep.ext hs ew19
        replace h8 := h8.ext ew19
        replace hlow := hlow.ext ew19
        replace hB := Nat.le_trans hB ew19.size
        have hS : Stp B M1 M1 w19 w19 := Stp.refl hlow
        have D_h6 := h6.box
        have D_h3 := h3
        have D_h4 := h4
        have D_h5 := h5
        have D_h8 := h8
        refine a_p 0 tbOk rfl rfl rfl rfl (by kernel_rfl) (fun _ _ _ h => h) ⟨_, hS⟩ ?_
        refine a_ld 1 tbOk (fun _ hs => (D_h3.so hs).cell 3 _ rfl) rfl rfl rfl rfl rfl rfl (by kernel_rfl) (fun _ _ _ h => h) ⟨_, hS⟩ ?_
        refine a_p 2 tbOk rfl rfl rfl rfl (by kernel_rfl) (fun _ _ _ h => h) ⟨_, hS⟩ ?_
        refine a_lds 3 tbOk (fun _ hs j v hv => (D_h8.so hs).cell j v hv) rfl rfl rfl rfl rfl rfl rfl (by kernel_rfl) (fun _ _ _ h => h) ⟨_, hS⟩ ?_
        refine a_lds 4 tbOk (fun _ hs j v hv => (D_h4.so hs).cell j v hv) rfl rfl rfl rfl rfl rfl rfl (by kernel_rfl) (fun _ _ _ h => h) ⟨_, hS⟩ ?_
        refine a_lds 5 tbOk (fun _ hs j v hv => (D_h5.so hs).cell j v hv) rfl rfl rfl rfl rfl rfl rfl (by kernel_rfl) (fun _ _ _ h => h) ⟨_, hS⟩ ?_
        have l_h6 := h6.lt
        have hsz0 := hT.upd.1
        have lH := hOh.lt
        have lr := hr.lt
        refine a_one 6 rfl (by kernel_rfl) (o_call fo71 rfl rfl rfl (ih _ (List.getElem_mem hik) n row s _ _ B _ _ G hx (fun c hc => hF1 c (hGF c hc)) hs hlow hB hzs) ?_)
        rintro vq w20 ⟨Mw20, Fw20, hq, hq2, sw20, kw20⟩
        have frw20 : ∀ x, x < w19.heap.size → ¬ G x → w20.heap[x]? = w19.heap[x]? := fun x hx hg => kw20.blk x ⟨hx, hg⟩
        replace hT := hT.then sw20
        replace hS := hS.then sw20
        replace hr := hr.stp sw20 (fun x hx => frw20 x (hr.lt x hx).2 (fun g => dd_hr_hO x x hx (hGF x g) rfl))
        replace hfr := hfr.stp sw20 (fun x hx => frw20 x (hfr.lt x hx).2 (fun g => (hFn x (hGF x g)).elim hx.2 (fun h => by have := hx.1; have := hfr.size; omega)))
        replace h6 := h6.stp sw20 (frw20 b6 h6.lt (fun g => d_hO_h6 _ (hGF _ g) rfl))
        replace hOh := hOh.stp sw20 (fun c hc hn => frw20 c (hOh.lt c hc).2 hn)
        replace h3 := h3.stp sw20
        replace h4 := h4.stp sw20
        replace h5 := h5.stp sw20
        replace hs := Rep.stp hs sw20
        replace h8 := h8.stp sw20
        replace hF1 := fun b h => sw20.sub b (hF1 b h)
        replace hlow := sw20.low
        replace hB := Nat.le_trans hB sw20.upd.1
        refine ⟨⟨_, hS⟩, ?_⟩
        have hO := hOh.put hq (fun c hc => (hq2 c hc).2.elim .inl (fun h => .inr (fun hf => by have := (lH c hf).2; omega)))
        replace hF1 : ∀ c, F1 c ∨ Fw20 c → Mw20 c := fun c h => h.elim (hF1 c) (fun h => (hq2 c h).1)
        replace dd_hr_hO : ∀ x y, kv.ownBlock = some x → (F1 y ∨ Fw20 y) → x ≠ y := fun x y hx hy => hy.elim (dd_hr_hO x y hx) (fun h => (hq2 y h).2.elim (fun g => dd_hr_hO x y hx (hGF y g)) (fun h => by have := (lr x hx).2; omega))
        replace d_hO_h6 : ∀ x, (F1 x ∨ Fw20 x) → x ≠ b6 := fun x hx => hx.elim (d_hO_h6 x) (fun h => (hq2 x h).2.elim (fun g => d_hO_h6 x (hGF x g)) (fun h => by have := l_h6; omega))
        replace hFn : ∀ c, (F1 c ∨ Fw20 c) → F c ∨ w.heap.size ≤ c := fun c hc => hc.elim (hFn c) (fun h => (hq2 c h).2.elim (fun g => hFn c (hGF c g)) (fun h => .inr (by have := hsz0; omega)))
        refine a_ixO 7 tbOk hr hui rfl rfl rfl rfl rfl rfl rfl rfl rfl rfl (by kernel_rfl) (fun _ _ _ _ h => h) ⟨_, hS⟩ ?_
        intro ebz euz hobz hRz hatz
        refine a_one 8 rfl (by kernel_rfl) (o_stO tbOk hr hobz (by omega) hq.vn hlow rfl rfl rfl rfl rfl rfl ?_)
        intro w21 hw21 sw21 frw21
        replace hT := hT.then sw21
        replace hS := hS.then sw21
        replace hfr := hfr.stp sw21 (fun x hx => frw21 x (hfr.lt x hx).2 (fun e => dd_hr_hfr _ x hobz hx e.symm))
        replace h6 := h6.stp sw21 (frw21 b6 h6.lt (fun e => d_hr_h6 _ hobz e.symm))
        replace hO := hO.stp sw21 (fun x hx => frw21 x (hO.lt x hx).2 (fun e => dd_hr_hO _ x hobz hx e.symm))
        replace h3 := h3.stp sw21
        replace h4 := h4.stp sw21
        replace h5 := h5.stp sw21
        replace hs := Rep.stp hs sw21
        replace h8 := h8.stp sw21
        replace hF1 := fun b h => sw21.sub b (hF1 b h)
        replace hlow := sw21.low
        replace hB := Nat.le_trans hB sw21.upd.1
        refine ⟨⟨_, hS⟩, ?_⟩
        replace hr := hw21
        clear hw21
        refine a_end (by kernel_rfl) ?_
        refine x_blk (x_seq (c_reg ?_))
        refine l_cons (o_ar rfl rfl rfl (IntWalk.i64_in _ (by omega)) rfl rfl ?_)
        refine l_p 1 tbOk rfl (l_nil ?_)
        exact x_round4 (i + 1) (us.set i ⟨vq⟩) (Mw20) ((fun c => F1 c ∨ Fw20 c)) (s7 rfl rfl rfl rfl rfl rfl rfl) ⟨by omega, hr, by rw [← mapTo_set hik]; exact hO, hF1, hFn, hfr, hT, hlow, hB, h6, h3, h4, h5, hs, dd_hr_hO, dd_hr_hfr, d_hr_h6, d_hO_h6, d_hfr_h6⟩ (by omega)
      refine c_exit (x_seqE (x_seqE (x_blkE (x_seq (q0 ?_)))))
      refine l_cons (o_lds tbOk (fun j v hv => h3.cell j v hv) rfl rfl rfl rfl rfl rfl ?_)
      refine l_cons (o_st tbOk h6.box rfl rfl rfl rfl (own_ones hr) rfl rfl ?_)
      intro w22 hw22 qw22 bew22
      have uw22 : UpdB _ _ _ := ⟨qw22, bew22⟩
      have sw22 := uw22.stp h6.inM hlow h6.ge
      have frw22 := qw22.2
      replace hT := hT.then sw22
      replace hr := hr.stp sw22 (fun x hx => frw22 x (hr.lt x hx).2 (d_hr_h6 x hx))
      replace hO := hO.stp sw22 (fun x hx => frw22 x (hO.lt x hx).2 (d_hO_h6 x hx))
      replace hfr := hfr.stp sw22 (fun x hx => frw22 x (hfr.lt x hx).2 (d_hfr_h6 x hx))
      replace h3 := h3.stp sw22
      replace h4 := h4.stp sw22
      replace h5 := h5.stp sw22
      replace hs := Rep.stp hs sw22
      replace hF1 := fun b h => sw22.sub b (hF1 b h)
      replace hlow := sw22.low
      replace hB := Nat.le_trans hB sw22.upd.1
      replace h6 : MB B _ w22 b6 _ [.int .u8 t.op, .string t.name, .int .i64 t.n, kv] := ⟨hw22, h6.inM, h6.ge⟩
      refine q1 (c_ret ?_)
      refine x_ret1s tbOk (fun j v hv => h6.cell j v hv) rfl rfl rfl rfl rfl ?_
      have hno : ¬ (t.n = n ∧ t.op = varOp row) := by clear ih; cases row <;> simp_all [varOp]
      obtain rfl : i = t.kids.length := by omega
      rw [mapTo_all (Nat.le_refl _)] at hO
      refine ⟨_, fun c => kv.ownBlock = some c ∨ F1 c, ?_, fun c hc => hc.elim (fun h => ⟨hr.inM c h, .inl (hkF c h)⟩) (fun h => ⟨hF1 c h, hFn c h⟩), hT, hfr⟩
      rw [put_no hno]
      exact oty_mk op nm n64 (by simpa using hl) (fun c hc => hc.elim (hr.lt c) (hO.lt c)) (hr.keepV (fun b hb => .inl hb) (fun _ _ _ _ _ => rfl)) hO (fun c hc => ⟨.inr hc, fun e => dd_hr_hO c c e hc rfl⟩)
    refine l_p 6 tbOk rfl ?_
    refine l_cons (o_ld tbOk (h3.cell 0 _ rfl) rfl rfl rfl rfl rfl ?_)
    refine l_p 2 tbOk rfl ?_
    refine l_splitP 27 _ rfl (fun c8 => ?_) (fun c8 => ?_)
    · refine l_p 1 tbOk rfl ?_
      refine l_cons (o_ld tbOk (h4.cell 1 _ rfl) rfl rfl rfl rfl rfl ?_)
      refine l_p 3 tbOk rfl (q1 ?_)
      refine c_if _ rfl (fun c9 => ?_) (fun c9 => ?_)
      · refine q0 ?_
        refine l_cons (o_lds tbOk (fun j v hv => h5.cell j v hv) rfl rfl rfl rfl rfl rfl ?_)
        refine l_cons (o_call fo67 rfl rfl rfl (copied_own s _ _ _ hs hlow hzs) ?_)
        rintro vc w23 ⟨hc, ew23⟩
        replace hc := hc.ge hB
        have hGl : ∀ c, Plus NoM w4 w23 c → w4.heap.size ≤ c := fun c h => h.elim (fun h => h.elim) (fun h => h.1)
        have l_h6 := h6.lt
        have hsz0 := hT.upd.1
        replace hT := hT.then (Stp.ext ew23 hlow hB)
        replace hr := hr.ext hlow hB ew23
        replace hO := hO.ext hlow hB ew23
        replace hfr := hfr.ext hlow hB ew23
        replace h6 := h6.ext hlow hB ew23
        replace hs := Rep.ext hs ew23
        replace hks := hks.ext ew23
        replace h3 := h3.ext ew23
        replace h4 := h4.ext ew23
        replace h5 := h5.ext ew23
        replace hlow := hlow.ext ew23
        replace hB := Nat.le_trans hB ew23.size
        generalize Plus NoM w4 w23 = G at hc hGl
        have d_hc_h6 : ∀ x, G x → x ≠ b6 := fun x hx => by have := hGl x hx; omega
        obtain ⟨kvc, usc, Hc, rfl, opc, nmc, n64c, hlc, hrc, hOc, hHc⟩ := oty_open hc
        refine l_cons (o_st tbOk h6.box rfl rfl rfl rfl hc.one rfl rfl ?_)
        intro w24 hw24 qw24 bew24
        have uw24 : UpdB _ _ _ := ⟨qw24, bew24⟩
        have sw24 := uw24.stp h6.inM hlow h6.ge
        have frw24 := qw24.2
        replace hT := hT.then sw24
        replace hr := hr.stp sw24 (fun x hx => frw24 x (hr.lt x hx).2 (d_hr_h6 x hx))
        replace hO := hO.stp sw24 (fun x hx => frw24 x (hO.lt x hx).2 (d_hO_h6 x hx))
        replace hfr := hfr.stp sw24 (fun x hx => frw24 x (hfr.lt x hx).2 (d_hfr_h6 x hx))
        replace hc := hc.stp sw24 (fun x hx => frw24 x (hc.lt x hx).2 (d_hc_h6 x hx))
        replace hs := Rep.stp hs sw24
        replace hks := hks.stp sw24
        replace h3 := h3.stp sw24
        replace h4 := h4.stp sw24
        replace h5 := h5.stp sw24
        replace hF1 := fun b h => sw24.sub b (hF1 b h)
        replace hlow := sw24.low
        replace hB := Nat.le_trans hB sw24.upd.1
        replace h6 : MB B _ w24 b6 _ [.int .u8 s.op, .string s.name, .int .i64 s.n, kvc] := ⟨hw24, h6.inM, h6.ge⟩
        refine q1 (c_ret (x_seqR ?_))
        refine x_ret1s tbOk (fun j v hv => h6.cell j v hv) rfl rfl rfl rfl rfl ?_
        have hit : t.n = n ∧ t.op = varOp row := by clear ih; cases row <;> simp_all [varOp]
        refine ⟨_, G, by rw [put_hit hit.1 hit.2]; exact hc, fun c hc' => ⟨.inr hc', .inr (by have := hGl c hc'; omega)⟩, hT.more (fun c hc' => ⟨by have := hGl c hc'; omega, (hc.lt c hc').2⟩), hfr⟩
      refine c_skip (x_seq (c_seq (q0 (l_p 1 tbOk rfl ?_))))
      refine l_cons (o_ld tbOk (h3.cell 3 _ rfl) rfl rfl rfl rfl rfl ?_)
      refine l_cons (o_lenO tbOk hr rfl rfl rfl rfl rfl ?_)
      refine l_p 1 tbOk rfl (q1 (c_blk ?_))
      refine c_loop4 (X := Nat) (Y := List (VN 3)) (Z := Nat → Prop) (U := Nat → Prop) (fun i us M1 F1 => [(3, .pointer (some ⟨b3, 0, none⟩)), (4, .pointer (some ⟨b4, 0, none⟩)), (5, .pointer (some ⟨b5, 0, none⟩)), (6, .pointer (some ⟨b6, 0, none⟩)), (36, kv), (37, .int .i64 (t.kids.length : Int)), (38, .int .i64 (i : Nat))]) (fun i us M1 F1 w' => i ≤ t.kids.length ∧ OwnSl 25 B M1 w' kv us ∧ OTs 25 B w' us (mapTo (putF (varOp row) n s) t.kids i) F1 ∧ (∀ c, F1 c → M1 c) ∧ (∀ c, F1 c → F c ∨ w.heap.size ≤ c) ∧ Kept w w' (Out F w) ∧ Stp B M M1 w w' ∧ Low M1 w' ∧ B ≤ w'.heap.size ∧ MB B M1 w' b6 25 [.int .u8 0, .string ⟨#[]⟩, .int .i64 0, .slice none 0 0] ∧ At M1 w' b3 0 [.int .u8 t.op, .string t.name, .int .i64 t.n, kv] ∧ At M1 w' b4 0 [.int .i64 n, .bool row] ∧ At M1 w' b5 0 [.int .u8 s.op, .string s.name, .int .i64 s.n, kvs] ∧ Rep.R M1 w' (.agg #[.int .u8 s.op, .string s.name, .int .i64 s.n, kvs]) s ∧ (∀ x y, (kv : Value).ownBlock = some x → F1 y → x ≠ y) ∧ (∀ x y, (kv : Value).ownBlock = some x → (Out F w) y → x ≠ y) ∧ (∀ x, (kv : Value).ownBlock = some x → x ≠ b6) ∧ (∀ x, F1 x → x ≠ b6) ∧ (∀ x, (Out F w) x → x ≠ b6)) (fun i us M1 F1 => t.kids.length - i) (0) (us) ((Rw.Add M b6)) (H) (s7 rfl rfl rfl rfl rfl (get_num rfl (by omega)) rfl) ?_ ?_
      · refine ⟨Nat.zero_le _, ?_⟩
        rw [mapTo_zero]
        exact ⟨hr, hO, hF1, hFn, hfr, hT, hlow, hB, h6, h3, h4, h5, hs, dd_hr_hO, dd_hr_hfr, d_hr_h6, d_hO_h6, d_hfr_h6⟩
      clear hF1 hFn hfr hT dd_hr_hO dd_hr_hfr d_hr_h6 d_hO_h6 d_hfr_h6 hul
      rintro i us M1 F1 w25 ⟨hi, hr, hO, hF1, hFn, hfr, hT, hlow, hB, h6, h3, h4, h5, hs, dd_hr_hO, dd_hr_hfr, d_hr_h6, d_hO_h6, d_hfr_h6⟩
      have hul := hO.len
      rw [mapTo_len] at hul
      refine q0 (l_p 1 tbOk rfl (q1 (c_seq ?_)))
      refine c_ifP _ rfl (fun c10 => ?_) (fun c10 => ?_)
      · refine c_skip (x_seq (c_seq (c_blk (q0 (l_p 1 tbOk rfl ?_)))))
        have hik : i < t.kids.length := by omega
        obtain ⟨⟨uv⟩, G, hui, hx, hGF, hOh⟩ := hO.take (mapTo_get hik)
        refine l_cons (o_ixO tbOk hr hui rfl rfl rfl rfl rfl rfl rfl rfl rfl ?_)
        intro ebx eux hobx hRx hatx
        obtain ⟨e0, _⟩ := hRx
        replace e0 : eux = uv := e0
        subst e0
        obtain ⟨kvx, usx, Hx, rfl, opx, nmx, n64x, hlx, hrx, hOx, hHx⟩ := oty_open hx
        replace hatx : OAt _ _ _ [.int .u8 t.kids[i].op, .string t.kids[i].name, .int .i64 t.kids[i].n, kvx] := hatx
        refine l_cons (o_lds tbOk (fun j v hv => hatx.cell j v hv) rfl rfl rfl rfl rfl rfl ?_)
        refine l_cons (o_new tbOk rfl rfl rfl ?_)
        intro b8 w26 qb8 ew26 hb8
        have nb8 := nM_of hlow qb8
        refine l_p 1 tbOk rfl ?_
        refine l_cons (o_st tbOk hb8 rfl rfl rfl rfl hx.one rfl rfl ?_)
        intro w27 h8 uw27 bew27
        have ew27 : Ext w25 w27 := ew26.trans (bew27 _ (Nat.le_of_eq qb8.symm))
        replace hT := hT.then (Stp.ext ew27 hlow hB)
        replace hr := hr.ext hlow hB ew27
        replace hfr := hfr.ext hlow hB ew27
        replace h6 := h6.ext hlow hB ew27
        replace hOh := hOh.ext hlow hB ew27
        replace hx := hx.ext hlow hB ew27
        replace h3 := h3.ext ew27
        replace h4 := h4.ext ew27
        replace h5 := h5.ext ew27
        replace hs := Rep.ext hs ew27
        replace hlow := hlow.ext ew27
        replace hB := Nat.le_trans hB ew27.size
        replace h8 : Box w27 b8 25 [.int .u8 t.kids[i].op, .string t.kids[i].name, .int .i64 t.kids[i].n, kvx] := h8
        replace h8 := h8.at nb8
        refine q1 ?_
        refine a_beg (Sof B M1) rfl ?_
        intro w28 ew28
        replace hT := hT.then (Stp.ext ew28 hlow hB)
        replace hr := hr.ext hlow hB ew28
        replace hfr := hfr.ext hlow hB ew28
        replace h6 := h6.ext hlow hB ew28
        replace hOh := hOh.ext hlow hB ew28
        replace hx := hx.ext hlow hB ew28
        replace h3 := h3.ext ew28
        replace h4 := h4.ext ew28
        replace h5 := h5.ext ew28
        replace hs := Rep.ext hs ew28
        replace h8 := h8.ext ew28
        replace hlow := hlow.ext ew28
        replace hB := Nat.le_trans hB ew28.size
        have hS : Stp B M1 M1 w28 w28 := Stp.refl hlow
        have D_h6 := h6.box
        have D_h3 := h3
        have D_h4 := h4
        have D_h5 := h5
        have D_h8 := h8
        refine a_p 0 tbOk rfl rfl rfl rfl (by kernel_rfl) (fun _ _ _ h => h) ⟨_, hS⟩ ?_
        refine a_ld 1 tbOk (fun _ hs => (D_h3.so hs).cell 3 _ rfl) rfl rfl rfl rfl rfl rfl (by kernel_rfl) (fun _ _ _ h => h) ⟨_, hS⟩ ?_
        refine a_p 2 tbOk rfl rfl rfl rfl (by kernel_rfl) (fun _ _ _ h => h) ⟨_, hS⟩ ?_
        refine a_lds 3 tbOk (fun _ hs j v hv => (D_h8.so hs).cell j v hv) rfl rfl rfl rfl rfl rfl rfl (by kernel_rfl) (fun _ _ _ h => h) ⟨_, hS⟩ ?_
        refine a_lds 4 tbOk (fun _ hs j v hv => (D_h4.so hs).cell j v hv) rfl rfl rfl rfl rfl rfl rfl (by kernel_rfl) (fun _ _ _ h => h) ⟨_, hS⟩ ?_
        refine a_lds 5 tbOk (fun _ hs j v hv => (D_h5.so hs).cell j v hv) rfl rfl rfl rfl rfl rfl rfl (by kernel_rfl) (fun _ _ _ h => h) ⟨_, hS⟩ ?_
        have l_h6 := h6.lt
        have hsz0 := hT.upd.1
        have lH := hOh.lt
        have lr := hr.lt
        refine a_one 6 rfl (by kernel_rfl) (o_call fo71 rfl rfl rfl (ih _ (List.getElem_mem hik) n row s _ _ B _ _ G hx (fun c hc => hF1 c (hGF c hc)) hs hlow hB hzs) ?_)
        rintro vq w29 ⟨Mw29, Fw29, hq, hq2, sw29, kw29⟩
        have frw29 : ∀ x, x < w28.heap.size → ¬ G x → w29.heap[x]? = w28.heap[x]? := fun x hx hg => kw29.blk x ⟨hx, hg⟩
        replace hT := hT.then sw29
        replace hS := hS.then sw29
        replace hr := hr.stp sw29 (fun x hx => frw29 x (hr.lt x hx).2 (fun g => dd_hr_hO x x hx (hGF x g) rfl))
        replace hfr := hfr.stp sw29 (fun x hx => frw29 x (hfr.lt x hx).2 (fun g => (hFn x (hGF x g)).elim hx.2 (fun h => by have := hx.1; have := hfr.size; omega)))
        replace h6 := h6.stp sw29 (frw29 b6 h6.lt (fun g => d_hO_h6 _ (hGF _ g) rfl))
        replace hOh := hOh.stp sw29 (fun c hc hn => frw29 c (hOh.lt c hc).2 hn)
        replace h3 := h3.stp sw29
        replace h4 := h4.stp sw29
        replace h5 := h5.stp sw29
        replace hs := Rep.stp hs sw29
        replace h8 := h8.stp sw29
        replace hF1 := fun b h => sw29.sub b (hF1 b h)
        replace hlow := sw29.low
        replace hB := Nat.le_trans hB sw29.upd.1
        refine ⟨⟨_, hS⟩, ?_⟩
        have hO := hOh.put hq (fun c hc => (hq2 c hc).2.elim .inl (fun h => .inr (fun hf => by have := (lH c hf).2; omega)))
        replace hF1 : ∀ c, F1 c ∨ Fw29 c → Mw29 c := fun c h => h.elim (hF1 c) (fun h => (hq2 c h).1)
        replace dd_hr_hO : ∀ x y, kv.ownBlock = some x → (F1 y ∨ Fw29 y) → x ≠ y := fun x y hx hy => hy.elim (dd_hr_hO x y hx) (fun h => (hq2 y h).2.elim (fun g => dd_hr_hO x y hx (hGF y g)) (fun h => by have := (lr x hx).2; omega))
        replace d_hO_h6 : ∀ x, (F1 x ∨ Fw29 x) → x ≠ b6 := fun x hx => hx.elim (d_hO_h6 x) (fun h => (hq2 x h).2.elim (fun g => d_hO_h6 x (hGF x g)) (fun h => by have := l_h6; omega))
        replace hFn : ∀ c, (F1 c ∨ Fw29 c) → F c ∨ w.heap.size ≤ c := fun c hc => hc.elim (hFn c) (fun h => (hq2 c h).2.elim (fun g => hFn c (hGF c g)) (fun h => .inr (by have := hsz0; omega)))
        refine a_ixO 7 tbOk hr hui rfl rfl rfl rfl rfl rfl rfl rfl rfl rfl (by kernel_rfl) (fun _ _ _ _ h => h) ⟨_, hS⟩ ?_
        intro ebz euz hobz hRz hatz
        refine a_one 8 rfl (by kernel_rfl) (o_stO tbOk hr hobz (by omega) hq.vn hlow rfl rfl rfl rfl rfl rfl ?_)
        intro w30 hw30 sw30 frw30
        replace hT := hT.then sw30
        replace hS := hS.then sw30
        replace hfr := hfr.stp sw30 (fun x hx => frw30 x (hfr.lt x hx).2 (fun e => dd_hr_hfr _ x hobz hx e.symm))
        replace h6 := h6.stp sw30 (frw30 b6 h6.lt (fun e => d_hr_h6 _ hobz e.symm))
        replace hO := hO.stp sw30 (fun x hx => frw30 x (hO.lt x hx).2 (fun e => dd_hr_hO _ x hobz hx e.symm))
        replace h3 := h3.stp sw30
        replace h4 := h4.stp sw30
        replace h5 := h5.stp sw30
        replace hs := Rep.stp hs sw30
        replace h8 := h8.stp sw30
        replace hF1 := fun b h => sw30.sub b (hF1 b h)
        replace hlow := sw30.low
        replace hB := Nat.le_trans hB sw30.upd.1
        refine ⟨⟨_, hS⟩, ?_⟩
        replace hr := hw30
        clear hw30
        refine a_end (by kernel_rfl) ?_
        refine x_blk (x_seq (c_reg ?_))
        refine l_cons (o_ar rfl rfl rfl (IntWalk.i64_in _ (by omega)) rfl rfl ?_)
        refine l_p 1 tbOk rfl (l_nil ?_)
        exact x_round4 (i + 1) (us.set i ⟨vq⟩) (Mw29) ((fun c => F1 c ∨ Fw29 c)) (s7 rfl rfl rfl rfl rfl rfl rfl) ⟨by omega, hr, by rw [← mapTo_set hik]; exact hO, hF1, hFn, hfr, hT, hlow, hB, h6, h3, h4, h5, hs, dd_hr_hO, dd_hr_hfr, d_hr_h6, d_hO_h6, d_hfr_h6⟩ (by omega)
      refine c_exit (x_seqE (x_seqE (x_blkE (x_seq (q0 ?_)))))
      refine l_cons (o_lds tbOk (fun j v hv => h3.cell j v hv) rfl rfl rfl rfl rfl rfl ?_)
      refine l_cons (o_st tbOk h6.box rfl rfl rfl rfl (own_ones hr) rfl rfl ?_)
      intro w31 hw31 qw31 bew31
      have uw31 : UpdB _ _ _ := ⟨qw31, bew31⟩
      have sw31 := uw31.stp h6.inM hlow h6.ge
      have frw31 := qw31.2
      replace hT := hT.then sw31
      replace hr := hr.stp sw31 (fun x hx => frw31 x (hr.lt x hx).2 (d_hr_h6 x hx))
      replace hO := hO.stp sw31 (fun x hx => frw31 x (hO.lt x hx).2 (d_hO_h6 x hx))
      replace hfr := hfr.stp sw31 (fun x hx => frw31 x (hfr.lt x hx).2 (d_hfr_h6 x hx))
      replace h3 := h3.stp sw31
      replace h4 := h4.stp sw31
      replace h5 := h5.stp sw31
      replace hs := Rep.stp hs sw31
      replace hF1 := fun b h => sw31.sub b (hF1 b h)
      replace hlow := sw31.low
      replace hB := Nat.le_trans hB sw31.upd.1
      replace h6 : MB B _ w31 b6 _ [.int .u8 t.op, .string t.name, .int .i64 t.n, kv] := ⟨hw31, h6.inM, h6.ge⟩
      refine q1 (c_ret ?_)
      refine x_ret1s tbOk (fun j v hv => h6.cell j v hv) rfl rfl rfl rfl rfl ?_
      have hno : ¬ (t.n = n ∧ t.op = varOp row) := by clear ih; cases row <;> simp_all [varOp]
      obtain rfl : i = t.kids.length := by omega
      rw [mapTo_all (Nat.le_refl _)] at hO
      refine ⟨_, fun c => kv.ownBlock = some c ∨ F1 c, ?_, fun c hc => hc.elim (fun h => ⟨hr.inM c h, .inl (hkF c h)⟩) (fun h => ⟨hF1 c h, hFn c h⟩), hT, hfr⟩
      rw [put_no hno]
      exact oty_mk op nm n64 (by simpa using hl) (fun c hc => hc.elim (hr.lt c) (hO.lt c)) (hr.keepV (fun b hb => .inl hb) (fun _ _ _ _ _ => rfl)) hO (fun c hc => ⟨.inr hc, fun e => dd_hr_hO c c e hc rfl⟩)
    refine l_p 5 tbOk rfl (q1 (c_ifF rfl (c_skip (x_seq (c_seq (q0 (l_p 1 tbOk rfl ?_)))))))
    refine l_cons (o_ld tbOk (h3.cell 3 _ rfl) rfl rfl rfl rfl rfl ?_)
    refine l_cons (o_lenO tbOk hr rfl rfl rfl rfl rfl ?_)
    refine l_p 1 tbOk rfl (q1 (c_blk ?_))
    refine c_loop4 (X := Nat) (Y := List (VN 3)) (Z := Nat → Prop) (U := Nat → Prop) (fun i us M1 F1 => [(3, .pointer (some ⟨b3, 0, none⟩)), (4, .pointer (some ⟨b4, 0, none⟩)), (5, .pointer (some ⟨b5, 0, none⟩)), (6, .pointer (some ⟨b6, 0, none⟩)), (36, kv), (37, .int .i64 (t.kids.length : Int)), (38, .int .i64 (i : Nat))]) (fun i us M1 F1 w' => i ≤ t.kids.length ∧ OwnSl 25 B M1 w' kv us ∧ OTs 25 B w' us (mapTo (putF (varOp row) n s) t.kids i) F1 ∧ (∀ c, F1 c → M1 c) ∧ (∀ c, F1 c → F c ∨ w.heap.size ≤ c) ∧ Kept w w' (Out F w) ∧ Stp B M M1 w w' ∧ Low M1 w' ∧ B ≤ w'.heap.size ∧ MB B M1 w' b6 25 [.int .u8 0, .string ⟨#[]⟩, .int .i64 0, .slice none 0 0] ∧ At M1 w' b3 0 [.int .u8 t.op, .string t.name, .int .i64 t.n, kv] ∧ At M1 w' b4 0 [.int .i64 n, .bool row] ∧ At M1 w' b5 0 [.int .u8 s.op, .string s.name, .int .i64 s.n, kvs] ∧ Rep.R M1 w' (.agg #[.int .u8 s.op, .string s.name, .int .i64 s.n, kvs]) s ∧ (∀ x y, (kv : Value).ownBlock = some x → F1 y → x ≠ y) ∧ (∀ x y, (kv : Value).ownBlock = some x → (Out F w) y → x ≠ y) ∧ (∀ x, (kv : Value).ownBlock = some x → x ≠ b6) ∧ (∀ x, F1 x → x ≠ b6) ∧ (∀ x, (Out F w) x → x ≠ b6)) (fun i us M1 F1 => t.kids.length - i) (0) (us) ((Rw.Add M b6)) (H) (s7 rfl rfl rfl rfl rfl (get_num rfl (by omega)) rfl) ?_ ?_
    · refine ⟨Nat.zero_le _, ?_⟩
      rw [mapTo_zero]
      exact ⟨hr, hO, hF1, hFn, hfr, hT, hlow, hB, h6, h3, h4, h5, hs, dd_hr_hO, dd_hr_hfr, d_hr_h6, d_hO_h6, d_hfr_h6⟩
    clear hF1 hFn hfr hT dd_hr_hO dd_hr_hfr d_hr_h6 d_hO_h6 d_hfr_h6 hul
    rintro i us M1 F1 w32 ⟨hi, hr, hO, hF1, hFn, hfr, hT, hlow, hB, h6, h3, h4, h5, hs, dd_hr_hO, dd_hr_hfr, d_hr_h6, d_hO_h6, d_hfr_h6⟩
    have hul := hO.len
    rw [mapTo_len] at hul
    refine q0 (l_p 1 tbOk rfl (q1 (c_seq ?_)))
    refine c_ifP _ rfl (fun c11 => ?_) (fun c11 => ?_)
    · refine c_skip (x_seq (c_seq (c_blk (q0 (l_p 1 tbOk rfl ?_)))))
      have hik : i < t.kids.length := by omega
      obtain ⟨⟨uv⟩, G, hui, hx, hGF, hOh⟩ := hO.take (mapTo_get hik)
      refine l_cons (o_ixO tbOk hr hui rfl rfl rfl rfl rfl rfl rfl rfl rfl ?_)
      intro ebx eux hobx hRx hatx
      obtain ⟨e0, _⟩ := hRx
      replace e0 : eux = uv := e0
      subst e0
      obtain ⟨kvx, usx, Hx, rfl, opx, nmx, n64x, hlx, hrx, hOx, hHx⟩ := oty_open hx
      replace hatx : OAt _ _ _ [.int .u8 t.kids[i].op, .string t.kids[i].name, .int .i64 t.kids[i].n, kvx] := hatx
      refine l_cons (o_lds tbOk (fun j v hv => hatx.cell j v hv) rfl rfl rfl rfl rfl rfl ?_)
      refine l_cons (o_new tbOk rfl rfl rfl ?_)
      intro b8 w33 qb8 ew33 hb8
      have nb8 := nM_of hlow qb8
      refine l_p 1 tbOk rfl ?_
      refine l_cons (o_st tbOk hb8 rfl rfl rfl rfl hx.one rfl rfl ?_)
      intro w34 h8 uw34 bew34
      have ew34 : Ext w32 w34 := ew33.trans (bew34 _ (Nat.le_of_eq qb8.symm))
      replace hT := hT.then (Stp.ext ew34 hlow hB)
      replace hr := hr.ext hlow hB ew34
      replace hfr := hfr.ext hlow hB ew34
      replace h6 := h6.ext hlow hB ew34
      replace hOh := hOh.ext hlow hB ew34
      replace hx := hx.ext hlow hB ew34
      replace h3 := h3.ext ew34
      replace h4 := h4.ext ew34
      replace h5 := h5.ext ew34
      replace hs := Rep.ext hs ew34
      replace hlow := hlow.ext ew34
      replace hB := Nat.le_trans hB ew34.size
      replace h8 : Box w34 b8 25 [.int .u8 t.kids[i].op, .string t.kids[i].name, .int .i64 t.kids[i].n, kvx] := h8
      replace h8 := h8.at nb8
      refine q1 ?_
      refine a_beg (Sof B M1) rfl ?_
      intro w35 ew35
      replace hT := hT.then (Stp.ext ew35 hlow hB)
      replace hr := hr.ext hlow hB ew35
      replace hfr := hfr.ext hlow hB ew35
      replace h6 := h6.ext hlow hB ew35
      replace hOh := hOh.ext hlow hB ew35
      replace hx := hx.ext hlow hB ew35
      replace h3 := h3.ext ew35
      replace h4 := h4.ext ew35
      replace h5 := h5.ext ew35
      replace hs := Rep.ext hs ew35
      replace h8 := h8.ext ew35
      replace hlow := hlow.ext ew35
      replace hB := Nat.le_trans hB ew35.size
      have hS : Stp B M1 M1 w35 w35 := Stp.refl hlow
      have D_h6 := h6.box
      have D_h3 := h3
      have D_h4 := h4
      have D_h5 := h5
      have D_h8 := h8
      refine a_p 0 tbOk rfl rfl rfl rfl (by kernel_rfl) (fun _ _ _ h => h) ⟨_, hS⟩ ?_
      refine a_ld 1 tbOk (fun _ hs => (D_h3.so hs).cell 3 _ rfl) rfl rfl rfl rfl rfl rfl (by kernel_rfl) (fun _ _ _ h => h) ⟨_, hS⟩ ?_
      refine a_p 2 tbOk rfl rfl rfl rfl (by kernel_rfl) (fun _ _ _ h => h) ⟨_, hS⟩ ?_
      refine a_lds 3 tbOk (fun _ hs j v hv => (D_h8.so hs).cell j v hv) rfl rfl rfl rfl rfl rfl rfl (by kernel_rfl) (fun _ _ _ h => h) ⟨_, hS⟩ ?_
      refine a_lds 4 tbOk (fun _ hs j v hv => (D_h4.so hs).cell j v hv) rfl rfl rfl rfl rfl rfl rfl (by kernel_rfl) (fun _ _ _ h => h) ⟨_, hS⟩ ?_
      refine a_lds 5 tbOk (fun _ hs j v hv => (D_h5.so hs).cell j v hv) rfl rfl rfl rfl rfl rfl rfl (by kernel_rfl) (fun _ _ _ h => h) ⟨_, hS⟩ ?_
      have l_h6 := h6.lt
      have hsz0 := hT.upd.1
      have lH := hOh.lt
      have lr := hr.lt
      refine a_one 6 rfl (by kernel_rfl) (o_call fo71 rfl rfl rfl (ih _ (List.getElem_mem hik) n row s _ _ B _ _ G hx (fun c hc => hF1 c (hGF c hc)) hs hlow hB hzs) ?_)
      rintro vq w36 ⟨Mw36, Fw36, hq, hq2, sw36, kw36⟩
      have frw36 : ∀ x, x < w35.heap.size → ¬ G x → w36.heap[x]? = w35.heap[x]? := fun x hx hg => kw36.blk x ⟨hx, hg⟩
      replace hT := hT.then sw36
      replace hS := hS.then sw36
      replace hr := hr.stp sw36 (fun x hx => frw36 x (hr.lt x hx).2 (fun g => dd_hr_hO x x hx (hGF x g) rfl))
      replace hfr := hfr.stp sw36 (fun x hx => frw36 x (hfr.lt x hx).2 (fun g => (hFn x (hGF x g)).elim hx.2 (fun h => by have := hx.1; have := hfr.size; omega)))
      replace h6 := h6.stp sw36 (frw36 b6 h6.lt (fun g => d_hO_h6 _ (hGF _ g) rfl))
      replace hOh := hOh.stp sw36 (fun c hc hn => frw36 c (hOh.lt c hc).2 hn)
      replace h3 := h3.stp sw36
      replace h4 := h4.stp sw36
      replace h5 := h5.stp sw36
      replace hs := Rep.stp hs sw36
      replace h8 := h8.stp sw36
      replace hF1 := fun b h => sw36.sub b (hF1 b h)
      replace hlow := sw36.low
      replace hB := Nat.le_trans hB sw36.upd.1
      refine ⟨⟨_, hS⟩, ?_⟩
      have hO := hOh.put hq (fun c hc => (hq2 c hc).2.elim .inl (fun h => .inr (fun hf => by have := (lH c hf).2; omega)))
      replace hF1 : ∀ c, F1 c ∨ Fw36 c → Mw36 c := fun c h => h.elim (hF1 c) (fun h => (hq2 c h).1)
      replace dd_hr_hO : ∀ x y, kv.ownBlock = some x → (F1 y ∨ Fw36 y) → x ≠ y := fun x y hx hy => hy.elim (dd_hr_hO x y hx) (fun h => (hq2 y h).2.elim (fun g => dd_hr_hO x y hx (hGF y g)) (fun h => by have := (lr x hx).2; omega))
      replace d_hO_h6 : ∀ x, (F1 x ∨ Fw36 x) → x ≠ b6 := fun x hx => hx.elim (d_hO_h6 x) (fun h => (hq2 x h).2.elim (fun g => d_hO_h6 x (hGF x g)) (fun h => by have := l_h6; omega))
      replace hFn : ∀ c, (F1 c ∨ Fw36 c) → F c ∨ w.heap.size ≤ c := fun c hc => hc.elim (hFn c) (fun h => (hq2 c h).2.elim (fun g => hFn c (hGF c g)) (fun h => .inr (by have := hsz0; omega)))
      refine a_ixO 7 tbOk hr hui rfl rfl rfl rfl rfl rfl rfl rfl rfl rfl (by kernel_rfl) (fun _ _ _ _ h => h) ⟨_, hS⟩ ?_
      intro ebz euz hobz hRz hatz
      refine a_one 8 rfl (by kernel_rfl) (o_stO tbOk hr hobz (by omega) hq.vn hlow rfl rfl rfl rfl rfl rfl ?_)
      intro w37 hw37 sw37 frw37
      replace hT := hT.then sw37
      replace hS := hS.then sw37
      replace hfr := hfr.stp sw37 (fun x hx => frw37 x (hfr.lt x hx).2 (fun e => dd_hr_hfr _ x hobz hx e.symm))
      replace h6 := h6.stp sw37 (frw37 b6 h6.lt (fun e => d_hr_h6 _ hobz e.symm))
      replace hO := hO.stp sw37 (fun x hx => frw37 x (hO.lt x hx).2 (fun e => dd_hr_hO _ x hobz hx e.symm))
      replace h3 := h3.stp sw37
      replace h4 := h4.stp sw37
      replace h5 := h5.stp sw37
      replace hs := Rep.stp hs sw37
      replace h8 := h8.stp sw37
      replace hF1 := fun b h => sw37.sub b (hF1 b h)
      replace hlow := sw37.low
      replace hB := Nat.le_trans hB sw37.upd.1
      refine ⟨⟨_, hS⟩, ?_⟩
      replace hr := hw37
      clear hw37
      refine a_end (by kernel_rfl) ?_
      refine x_blk (x_seq (c_reg ?_))
      refine l_cons (o_ar rfl rfl rfl (IntWalk.i64_in _ (by omega)) rfl rfl ?_)
      refine l_p 1 tbOk rfl (l_nil ?_)
      exact x_round4 (i + 1) (us.set i ⟨vq⟩) (Mw36) ((fun c => F1 c ∨ Fw36 c)) (s7 rfl rfl rfl rfl rfl rfl rfl) ⟨by omega, hr, by rw [← mapTo_set hik]; exact hO, hF1, hFn, hfr, hT, hlow, hB, h6, h3, h4, h5, hs, dd_hr_hO, dd_hr_hfr, d_hr_h6, d_hO_h6, d_hfr_h6⟩ (by omega)
    refine c_exit (x_seqE (x_seqE (x_blkE (x_seq (q0 ?_)))))
    refine l_cons (o_lds tbOk (fun j v hv => h3.cell j v hv) rfl rfl rfl rfl rfl rfl ?_)
    refine l_cons (o_st tbOk h6.box rfl rfl rfl rfl (own_ones hr) rfl rfl ?_)
    intro w38 hw38 qw38 bew38
    have uw38 : UpdB _ _ _ := ⟨qw38, bew38⟩
    have sw38 := uw38.stp h6.inM hlow h6.ge
    have frw38 := qw38.2
    replace hT := hT.then sw38
    replace hr := hr.stp sw38 (fun x hx => frw38 x (hr.lt x hx).2 (d_hr_h6 x hx))
    replace hO := hO.stp sw38 (fun x hx => frw38 x (hO.lt x hx).2 (d_hO_h6 x hx))
    replace hfr := hfr.stp sw38 (fun x hx => frw38 x (hfr.lt x hx).2 (d_hfr_h6 x hx))
    replace h3 := h3.stp sw38
    replace h4 := h4.stp sw38
    replace h5 := h5.stp sw38
    replace hs := Rep.stp hs sw38
    replace hF1 := fun b h => sw38.sub b (hF1 b h)
    replace hlow := sw38.low
    replace hB := Nat.le_trans hB sw38.upd.1
    replace h6 : MB B _ w38 b6 _ [.int .u8 t.op, .string t.name, .int .i64 t.n, kv] := ⟨hw38, h6.inM, h6.ge⟩
    refine q1 (c_ret ?_)
    refine x_ret1s tbOk (fun j v hv => h6.cell j v hv) rfl rfl rfl rfl rfl ?_
    have hno : ¬ (t.n = n ∧ t.op = varOp row) := by clear ih; cases row <;> simp_all [varOp]
    obtain rfl : i = t.kids.length := by omega
    rw [mapTo_all (Nat.le_refl _)] at hO
    refine ⟨_, fun c => kv.ownBlock = some c ∨ F1 c, ?_, fun c hc => hc.elim (fun h => ⟨hr.inM c h, .inl (hkF c h)⟩) (fun h => ⟨hF1 c h, hFn c h⟩), hT, hfr⟩
    rw [put_no hno]
    exact oty_mk op nm n64 (by simpa using hl) (fun c hc => hc.elim (hr.lt c) (hO.lt c)) (hr.keepV (fun b hb => .inl hb) (fun _ _ _ _ _ => rfl)) hO (fun c hc => ⟨.inr hc, fun e => dd_hr_hO c c e hc rfl⟩)
  refine l_p 18 tbOk rfl (q1 (c_ifF rfl (c_skip (x_seq (c_seq (q0 (l_p 1 tbOk rfl ?_)))))))
  refine l_cons (o_ld tbOk (h3.cell 3 _ rfl) rfl rfl rfl rfl rfl ?_)
  refine l_cons (o_lenO tbOk hr rfl rfl rfl rfl rfl ?_)
  refine l_p 1 tbOk rfl (q1 (c_blk ?_))
  refine c_loop4 (X := Nat) (Y := List (VN 3)) (Z := Nat → Prop) (U := Nat → Prop) (fun i us M1 F1 => [(3, .pointer (some ⟨b3, 0, none⟩)), (4, .pointer (some ⟨b4, 0, none⟩)), (5, .pointer (some ⟨b5, 0, none⟩)), (6, .pointer (some ⟨b6, 0, none⟩)), (36, kv), (37, .int .i64 (t.kids.length : Int)), (38, .int .i64 (i : Nat))]) (fun i us M1 F1 w' => i ≤ t.kids.length ∧ OwnSl 25 B M1 w' kv us ∧ OTs 25 B w' us (mapTo (putF (varOp row) n s) t.kids i) F1 ∧ (∀ c, F1 c → M1 c) ∧ (∀ c, F1 c → F c ∨ w.heap.size ≤ c) ∧ Kept w w' (Out F w) ∧ Stp B M M1 w w' ∧ Low M1 w' ∧ B ≤ w'.heap.size ∧ MB B M1 w' b6 25 [.int .u8 0, .string ⟨#[]⟩, .int .i64 0, .slice none 0 0] ∧ At M1 w' b3 0 [.int .u8 t.op, .string t.name, .int .i64 t.n, kv] ∧ At M1 w' b4 0 [.int .i64 n, .bool row] ∧ At M1 w' b5 0 [.int .u8 s.op, .string s.name, .int .i64 s.n, kvs] ∧ Rep.R M1 w' (.agg #[.int .u8 s.op, .string s.name, .int .i64 s.n, kvs]) s ∧ (∀ x y, (kv : Value).ownBlock = some x → F1 y → x ≠ y) ∧ (∀ x y, (kv : Value).ownBlock = some x → (Out F w) y → x ≠ y) ∧ (∀ x, (kv : Value).ownBlock = some x → x ≠ b6) ∧ (∀ x, F1 x → x ≠ b6) ∧ (∀ x, (Out F w) x → x ≠ b6)) (fun i us M1 F1 => t.kids.length - i) (0) (us) ((Rw.Add M b6)) (H) (s7 rfl rfl rfl rfl rfl (get_num rfl (by omega)) rfl) ?_ ?_
  · refine ⟨Nat.zero_le _, ?_⟩
    rw [mapTo_zero]
    exact ⟨hr, hO, hF1, hFn, hfr, hT, hlow, hB, h6, h3, h4, h5, hs, dd_hr_hO, dd_hr_hfr, d_hr_h6, d_hO_h6, d_hfr_h6⟩
  clear hF1 hFn hfr hT dd_hr_hO dd_hr_hfr d_hr_h6 d_hO_h6 d_hfr_h6 hul
  rintro i us M1 F1 w39 ⟨hi, hr, hO, hF1, hFn, hfr, hT, hlow, hB, h6, h3, h4, h5, hs, dd_hr_hO, dd_hr_hfr, d_hr_h6, d_hO_h6, d_hfr_h6⟩
  have hul := hO.len
  rw [mapTo_len] at hul
  refine q0 (l_p 1 tbOk rfl (q1 (c_seq ?_)))
  refine c_ifP _ rfl (fun c12 => ?_) (fun c12 => ?_)
  · refine c_skip (x_seq (c_seq (c_blk (q0 (l_p 1 tbOk rfl ?_)))))
    have hik : i < t.kids.length := by omega
    obtain ⟨⟨uv⟩, G, hui, hx, hGF, hOh⟩ := hO.take (mapTo_get hik)
    refine l_cons (o_ixO tbOk hr hui rfl rfl rfl rfl rfl rfl rfl rfl rfl ?_)
    intro ebx eux hobx hRx hatx
    obtain ⟨e0, _⟩ := hRx
    replace e0 : eux = uv := e0
    subst e0
    obtain ⟨kvx, usx, Hx, rfl, opx, nmx, n64x, hlx, hrx, hOx, hHx⟩ := oty_open hx
    replace hatx : OAt _ _ _ [.int .u8 t.kids[i].op, .string t.kids[i].name, .int .i64 t.kids[i].n, kvx] := hatx
    refine l_cons (o_lds tbOk (fun j v hv => hatx.cell j v hv) rfl rfl rfl rfl rfl rfl ?_)
    refine l_cons (o_new tbOk rfl rfl rfl ?_)
    intro b8 w40 qb8 ew40 hb8
    have nb8 := nM_of hlow qb8
    refine l_p 1 tbOk rfl ?_
    refine l_cons (o_st tbOk hb8 rfl rfl rfl rfl hx.one rfl rfl ?_)
    intro w41 h8 uw41 bew41
    have ew41 : Ext w39 w41 := ew40.trans (bew41 _ (Nat.le_of_eq qb8.symm))
    replace hT := hT.then (Stp.ext ew41 hlow hB)
    replace hr := hr.ext hlow hB ew41
    replace hfr := hfr.ext hlow hB ew41
    replace h6 := h6.ext hlow hB ew41
    replace hOh := hOh.ext hlow hB ew41
    replace hx := hx.ext hlow hB ew41
    replace h3 := h3.ext ew41
    replace h4 := h4.ext ew41
    replace h5 := h5.ext ew41
    replace hs := Rep.ext hs ew41
    replace hlow := hlow.ext ew41
    replace hB := Nat.le_trans hB ew41.size
    replace h8 : Box w41 b8 25 [.int .u8 t.kids[i].op, .string t.kids[i].name, .int .i64 t.kids[i].n, kvx] := h8
    replace h8 := h8.at nb8
    refine q1 ?_
    refine a_beg (Sof B M1) rfl ?_
    intro w42 ew42
    replace hT := hT.then (Stp.ext ew42 hlow hB)
    replace hr := hr.ext hlow hB ew42
    replace hfr := hfr.ext hlow hB ew42
    replace h6 := h6.ext hlow hB ew42
    replace hOh := hOh.ext hlow hB ew42
    replace hx := hx.ext hlow hB ew42
    replace h3 := h3.ext ew42
    replace h4 := h4.ext ew42
    replace h5 := h5.ext ew42
    replace hs := Rep.ext hs ew42
    replace h8 := h8.ext ew42
    replace hlow := hlow.ext ew42
    replace hB := Nat.le_trans hB ew42.size
    have hS : Stp B M1 M1 w42 w42 := Stp.refl hlow
    have D_h6 := h6.box
    have D_h3 := h3
    have D_h4 := h4
    have D_h5 := h5
    have D_h8 := h8
    refine a_p 0 tbOk rfl rfl rfl rfl (by kernel_rfl) (fun _ _ _ h => h) ⟨_, hS⟩ ?_
    refine a_ld 1 tbOk (fun _ hs => (D_h3.so hs).cell 3 _ rfl) rfl rfl rfl rfl rfl rfl (by kernel_rfl) (fun _ _ _ h => h) ⟨_, hS⟩ ?_
    refine a_p 2 tbOk rfl rfl rfl rfl (by kernel_rfl) (fun _ _ _ h => h) ⟨_, hS⟩ ?_
    refine a_lds 3 tbOk (fun _ hs j v hv => (D_h8.so hs).cell j v hv) rfl rfl rfl rfl rfl rfl rfl (by kernel_rfl) (fun _ _ _ h => h) ⟨_, hS⟩ ?_
    refine a_lds 4 tbOk (fun _ hs j v hv => (D_h4.so hs).cell j v hv) rfl rfl rfl rfl rfl rfl rfl (by kernel_rfl) (fun _ _ _ h => h) ⟨_, hS⟩ ?_
    refine a_lds 5 tbOk (fun _ hs j v hv => (D_h5.so hs).cell j v hv) rfl rfl rfl rfl rfl rfl rfl (by kernel_rfl) (fun _ _ _ h => h) ⟨_, hS⟩ ?_
    have l_h6 := h6.lt
    have hsz0 := hT.upd.1
    have lH := hOh.lt
    have lr := hr.lt
    refine a_one 6 rfl (by kernel_rfl) (o_call fo71 rfl rfl rfl (ih _ (List.getElem_mem hik) n row s _ _ B _ _ G hx (fun c hc => hF1 c (hGF c hc)) hs hlow hB hzs) ?_)
    rintro vq w43 ⟨Mw43, Fw43, hq, hq2, sw43, kw43⟩
    have frw43 : ∀ x, x < w42.heap.size → ¬ G x → w43.heap[x]? = w42.heap[x]? := fun x hx hg => kw43.blk x ⟨hx, hg⟩
    replace hT := hT.then sw43
    replace hS := hS.then sw43
    replace hr := hr.stp sw43 (fun x hx => frw43 x (hr.lt x hx).2 (fun g => dd_hr_hO x x hx (hGF x g) rfl))
    replace hfr := hfr.stp sw43 (fun x hx => frw43 x (hfr.lt x hx).2 (fun g => (hFn x (hGF x g)).elim hx.2 (fun h => by have := hx.1; have := hfr.size; omega)))
    replace h6 := h6.stp sw43 (frw43 b6 h6.lt (fun g => d_hO_h6 _ (hGF _ g) rfl))
    replace hOh := hOh.stp sw43 (fun c hc hn => frw43 c (hOh.lt c hc).2 hn)
    replace h3 := h3.stp sw43
    replace h4 := h4.stp sw43
    replace h5 := h5.stp sw43
    replace hs := Rep.stp hs sw43
    replace h8 := h8.stp sw43
    replace hF1 := fun b h => sw43.sub b (hF1 b h)
    replace hlow := sw43.low
    replace hB := Nat.le_trans hB sw43.upd.1
    refine ⟨⟨_, hS⟩, ?_⟩
    have hO := hOh.put hq (fun c hc => (hq2 c hc).2.elim .inl (fun h => .inr (fun hf => by have := (lH c hf).2; omega)))
    replace hF1 : ∀ c, F1 c ∨ Fw43 c → Mw43 c := fun c h => h.elim (hF1 c) (fun h => (hq2 c h).1)
    replace dd_hr_hO : ∀ x y, kv.ownBlock = some x → (F1 y ∨ Fw43 y) → x ≠ y := fun x y hx hy => hy.elim (dd_hr_hO x y hx) (fun h => (hq2 y h).2.elim (fun g => dd_hr_hO x y hx (hGF y g)) (fun h => by have := (lr x hx).2; omega))
    replace d_hO_h6 : ∀ x, (F1 x ∨ Fw43 x) → x ≠ b6 := fun x hx => hx.elim (d_hO_h6 x) (fun h => (hq2 x h).2.elim (fun g => d_hO_h6 x (hGF x g)) (fun h => by have := l_h6; omega))
    replace hFn : ∀ c, (F1 c ∨ Fw43 c) → F c ∨ w.heap.size ≤ c := fun c hc => hc.elim (hFn c) (fun h => (hq2 c h).2.elim (fun g => hFn c (hGF c g)) (fun h => .inr (by have := hsz0; omega)))
    refine a_ixO 7 tbOk hr hui rfl rfl rfl rfl rfl rfl rfl rfl rfl rfl (by kernel_rfl) (fun _ _ _ _ h => h) ⟨_, hS⟩ ?_
    intro ebz euz hobz hRz hatz
    refine a_one 8 rfl (by kernel_rfl) (o_stO tbOk hr hobz (by omega) hq.vn hlow rfl rfl rfl rfl rfl rfl ?_)
    intro w44 hw44 sw44 frw44
    replace hT := hT.then sw44
    replace hS := hS.then sw44
    replace hfr := hfr.stp sw44 (fun x hx => frw44 x (hfr.lt x hx).2 (fun e => dd_hr_hfr _ x hobz hx e.symm))
    replace h6 := h6.stp sw44 (frw44 b6 h6.lt (fun e => d_hr_h6 _ hobz e.symm))
    replace hO := hO.stp sw44 (fun x hx => frw44 x (hO.lt x hx).2 (fun e => dd_hr_hO _ x hobz hx e.symm))
    replace h3 := h3.stp sw44
    replace h4 := h4.stp sw44
    replace h5 := h5.stp sw44
    replace hs := Rep.stp hs sw44
    replace h8 := h8.stp sw44
    replace hF1 := fun b h => sw44.sub b (hF1 b h)
    replace hlow := sw44.low
    replace hB := Nat.le_trans hB sw44.upd.1
    refine ⟨⟨_, hS⟩, ?_⟩
    replace hr := hw44
    clear hw44
    refine a_end (by kernel_rfl) ?_
    refine x_blk (x_seq (c_reg ?_))
    refine l_cons (o_ar rfl rfl rfl (IntWalk.i64_in _ (by omega)) rfl rfl ?_)
    refine l_p 1 tbOk rfl (l_nil ?_)
    exact x_round4 (i + 1) (us.set i ⟨vq⟩) (Mw43) ((fun c => F1 c ∨ Fw43 c)) (s7 rfl rfl rfl rfl rfl rfl rfl) ⟨by omega, hr, by rw [← mapTo_set hik]; exact hO, hF1, hFn, hfr, hT, hlow, hB, h6, h3, h4, h5, hs, dd_hr_hO, dd_hr_hfr, d_hr_h6, d_hO_h6, d_hfr_h6⟩ (by omega)
  refine c_exit (x_seqE (x_seqE (x_blkE (x_seq (q0 ?_)))))
  refine l_cons (o_lds tbOk (fun j v hv => h3.cell j v hv) rfl rfl rfl rfl rfl rfl ?_)
  refine l_cons (o_st tbOk h6.box rfl rfl rfl rfl (own_ones hr) rfl rfl ?_)
  intro w45 hw45 qw45 bew45
  have uw45 : UpdB _ _ _ := ⟨qw45, bew45⟩
  have sw45 := uw45.stp h6.inM hlow h6.ge
  have frw45 := qw45.2
  replace hT := hT.then sw45
  replace hr := hr.stp sw45 (fun x hx => frw45 x (hr.lt x hx).2 (d_hr_h6 x hx))
  replace hO := hO.stp sw45 (fun x hx => frw45 x (hO.lt x hx).2 (d_hO_h6 x hx))
  replace hfr := hfr.stp sw45 (fun x hx => frw45 x (hfr.lt x hx).2 (d_hfr_h6 x hx))
  replace h3 := h3.stp sw45
  replace h4 := h4.stp sw45
  replace h5 := h5.stp sw45
  replace hs := Rep.stp hs sw45
  replace hF1 := fun b h => sw45.sub b (hF1 b h)
  replace hlow := sw45.low
  replace hB := Nat.le_trans hB sw45.upd.1
  replace h6 : MB B _ w45 b6 _ [.int .u8 t.op, .string t.name, .int .i64 t.n, kv] := ⟨hw45, h6.inM, h6.ge⟩
  refine q1 (c_ret ?_)
  refine x_ret1s tbOk (fun j v hv => h6.cell j v hv) rfl rfl rfl rfl rfl ?_
  have hno : ¬ (t.n = n ∧ t.op = varOp row) := by clear ih; cases row <;> simp_all [varOp]
  obtain rfl : i = t.kids.length := by omega
  rw [mapTo_all (Nat.le_refl _)] at hO
  refine ⟨_, fun c => kv.ownBlock = some c ∨ F1 c, ?_, fun c hc => hc.elim (fun h => ⟨hr.inM c h, .inl (hkF c h)⟩) (fun h => ⟨hF1 c h, hFn c h⟩), hT, hfr⟩
  rw [put_no hno]
  exact oty_mk op nm n64 (by simpa using hl) (fun c hc => hc.elim (hr.lt c) (hO.lt c)) (hr.keepV (fun b hb => .inl hb) (fun _ _ _ _ _ => rfl)) hO (fun c hc => ⟨.inr hc, fun e => dd_hr_hO c c e hc rfl⟩)

/-- Put: something in the place of a variable. -/
theorem Put_own (t s : Ty) (n : Int) (M : Nat → Prop) (w : World) (v u : Value) (ht : Rep.R M w v t) (hs : Rep.R M w u s) (hlow0 : Low M w) (hz : psz t ≤ 2000000) (hzs : psz s ≤ 2000000) :
    Calls Try.prog 28 #[v, .int .i64 n, u] w (Ret fun r w' => OTy 25 w.heap.size w' (PutF t n s) r (Plus NoM w w') ∧ Ext w w') := by
  have hlow := hlow0
  have hB : w.heap.size ≤ w.heap.size := Nat.le_refl _
  have hE : Below w.heap.size w w := Below.refl _ _
  have hsub : ∀ b, M b → M b := fun _ h => h
  obtain ⟨kv, rfl, op, nm, n64, hk⟩ := ty_open ht
  obtain ⟨kvs, rfl, ops, nms, n64s, hks⟩ := ty_open hs
  refine c_enter (n := 25) Try.func28 rfl rfl rfl ?_
  refine q0 ?_
  refine l_cons (o_box rfl rfl rfl ?_)
  intro b3 w1 hb_b3 ew1 h3
  replace h3 : Box _ b3 25 [.int .u8 t.op, .string t.name, .int .i64 t.n, kv] := h3
  replace h3 := h3.at (nM_of hlow hb_b3)
  replace hE := hE.trans (Below.mono ew1 hB)
  replace ht := Rep.ext ht ew1
  replace hk := hk.ext ew1
  replace hs := Rep.ext hs ew1
  replace hks := hks.ext ew1
  replace hlow := hlow.ext ew1
  replace hB := Nat.le_trans hB ew1.size
  refine l_cons (o_box rfl rfl rfl ?_)
  intro b5 w2 hb_b5 ew2 h5
  replace h5 : Box _ b5 25 [.int .u8 s.op, .string s.name, .int .i64 s.n, kvs] := h5
  replace h5 := h5.at (nM_of hlow hb_b5)
  replace hE := hE.trans (Below.mono ew2 hB)
  replace ht := Rep.ext ht ew2
  replace hk := hk.ext ew2
  replace hs := Rep.ext hs ew2
  replace hks := hks.ext ew2
  replace h3 := h3.ext ew2
  replace hlow := hlow.ext ew2
  replace hB := Nat.le_trans hB ew2.size
  refine l_cons (o_new tbOk rfl rfl rfl ?_)
  intro b6 w3 qb6 ew3 hb6
  have sw3 := Stp.add ew3 hlow hB (Nat.le_of_eq qb6.symm) hb6.lt
  have h6 : MB w.heap.size (Rw.Add M b6) w3 b6 25 [.int .u8 0, .string ⟨#[]⟩, .int .i64 0, .slice none 0 0] := MB.mk' hb6 qb6 hB
  replace hE := hE.trans sw3.below
  replace ht := Rep.stp ht sw3
  replace hk := hk.stp sw3
  replace hs := Rep.stp hs sw3
  replace hks := hks.stp sw3
  replace h3 := h3.stp sw3
  replace h5 := h5.stp sw3
  replace hsub := fun b h => sw3.sub b (hsub b h)
  replace hlow := sw3.low
  replace hB := Nat.le_trans hB sw3.upd.1
  refine q1 (c_seq (q0 ?_))
  refine l_cons (o_lds tbOk (fun j v hv => h3.cell j v hv) rfl rfl rfl rfl rfl rfl ?_)
  refine l_cons (o_call fo70 rfl rfl rfl (either_specB t _ _ _ ht hlow) ?_)
  rintro _ w4 ⟨rfl, ew4⟩
  replace h6 := h6.ext hlow hB ew4
  replace hE := hE.trans (Below.mono ew4 hB)
  replace ht := Rep.ext ht ew4
  replace hk := hk.ext ew4
  replace hs := Rep.ext hs ew4
  replace hks := hks.ext ew4
  replace h3 := h3.ext ew4
  replace h5 := h5.ext ew4
  replace hlow := hlow.ext ew4
  replace hB := Nat.le_trans hB ew4.size
  refine l_p 2 tbOk rfl ?_
  refine l_splitB 10 _ rfl (fun c1 => ?_) (fun c1 => ?_)
  · refine l_p 4 tbOk rfl (q1 (c_ifT rfl (q0 ?_)))
    refine l_cons (o_lds tbOk (fun j v hv => h3.cell j v hv) rfl rfl rfl rfl rfl rfl ?_)
    have l_h6 := h6.lt
    refine l_cons (o_call fo67 rfl rfl rfl (copied_own t _ _ _ ht hlow hz) ?_)
    rintro vc w5 ⟨hc, ew5⟩
    replace hc := hc.ge hB
    have hGl : ∀ c, Plus NoM w4 w5 c → w4.heap.size ≤ c ∧ c < w5.heap.size := fun c h => h.elim (fun h => h.elim) id
    generalize Plus NoM w4 w5 = G at hc hGl
    have sw5 := (Stp.ext ew5 hlow hB).more hGl
    replace h6 := h6.stp sw5 (ew5.block b6 h6.lt)
    replace hE := hE.trans sw5.below
    replace ht := Rep.stp ht sw5
    replace hk := hk.stp sw5
    replace hs := Rep.stp hs sw5
    replace hks := hks.stp sw5
    replace h3 := h3.stp sw5
    replace h5 := h5.stp sw5
    replace hsub := fun b h => sw5.sub b (hsub b h)
    replace hlow := sw5.low
    replace hB := Nat.le_trans hB sw5.upd.1
    have d_hc_h6 : ∀ x, G x → x ≠ b6 := fun x hx => by have := (hGl x hx).1; omega
    obtain ⟨kvc, usc, Hc, rfl, opc, nmc, n64c, hlc, hrc, hOc, hHc⟩ := oty_open hc
    refine l_cons (o_st tbOk h6.box rfl rfl rfl rfl hc.one rfl rfl ?_)
    intro w6 hw6 qw6 bew6
    have uw6 : UpdB _ _ _ := ⟨qw6, bew6⟩
    have sw6 := uw6.stp h6.inM hlow h6.ge
    have frw6 := qw6.2
    replace hc := hc.stp sw6 (fun x hx => frw6 x (hc.lt x hx).2 (d_hc_h6 x hx))
    replace hE := hE.trans sw6.below
    replace ht := Rep.stp ht sw6
    replace hk := hk.stp sw6
    replace hs := Rep.stp hs sw6
    replace hks := hks.stp sw6
    replace h3 := h3.stp sw6
    replace h5 := h5.stp sw6
    replace hsub := fun b h => sw6.sub b (hsub b h)
    replace hlow := sw6.low
    replace hB := Nat.le_trans hB sw6.upd.1
    replace h6 : MB w.heap.size _ w6 b6 _ [.int .u8 t.op, .string t.name, .int .i64 t.n, kvc] := ⟨hw6, h6.inM, h6.ge⟩
    refine q1 (c_ret (x_seqR ?_))
    refine x_ret1s tbOk (fun j v hv => h6.cell j v hv) rfl rfl rfl rfl rfl ?_
    have hfin : PutF t n s = t := by unfold PutF; rw [c1]; rfl
    rw [hfin]
    exact ⟨hc.mono (fun c h => .inr (hc.lt c h)) (fun c h => h.elim (fun h => h.elim) id), hE⟩
  refine l_cons (o_lds tbOk (fun j v hv => h5.cell j v hv) rfl rfl rfl rfl rfl rfl ?_)
  refine l_cons (o_call fo70 rfl rfl rfl (either_specB s _ _ _ hs hlow) ?_)
  rintro _ w7 ⟨rfl, ew7⟩
  replace h6 := h6.ext hlow hB ew7
  replace hE := hE.trans (Below.mono ew7 hB)
  replace ht := Rep.ext ht ew7
  replace hk := hk.ext ew7
  replace hs := Rep.ext hs ew7
  replace hks := hks.ext ew7
  replace h3 := h3.ext ew7
  replace h5 := h5.ext ew7
  replace hlow := hlow.ext ew7
  replace hB := Nat.le_trans hB ew7.size
  refine l_p 2 tbOk rfl (q1 ?_)
  refine c_ifB _ rfl (fun c2 => ?_) (fun c2 => ?_)
  · refine q0 ?_
    refine l_cons (o_lds tbOk (fun j v hv => h3.cell j v hv) rfl rfl rfl rfl rfl rfl ?_)
    have l_h6 := h6.lt
    refine l_cons (o_call fo67 rfl rfl rfl (copied_own t _ _ _ ht hlow hz) ?_)
    rintro vc w8 ⟨hc, ew8⟩
    replace hc := hc.ge hB
    have hGl : ∀ c, Plus NoM w7 w8 c → w7.heap.size ≤ c ∧ c < w8.heap.size := fun c h => h.elim (fun h => h.elim) id
    generalize Plus NoM w7 w8 = G at hc hGl
    have sw8 := (Stp.ext ew8 hlow hB).more hGl
    replace h6 := h6.stp sw8 (ew8.block b6 h6.lt)
    replace hE := hE.trans sw8.below
    replace ht := Rep.stp ht sw8
    replace hk := hk.stp sw8
    replace hs := Rep.stp hs sw8
    replace hks := hks.stp sw8
    replace h3 := h3.stp sw8
    replace h5 := h5.stp sw8
    replace hsub := fun b h => sw8.sub b (hsub b h)
    replace hlow := sw8.low
    replace hB := Nat.le_trans hB sw8.upd.1
    have d_hc_h6 : ∀ x, G x → x ≠ b6 := fun x hx => by have := (hGl x hx).1; omega
    obtain ⟨kvc, usc, Hc, rfl, opc, nmc, n64c, hlc, hrc, hOc, hHc⟩ := oty_open hc
    refine l_cons (o_st tbOk h6.box rfl rfl rfl rfl hc.one rfl rfl ?_)
    intro w9 hw9 qw9 bew9
    have uw9 : UpdB _ _ _ := ⟨qw9, bew9⟩
    have sw9 := uw9.stp h6.inM hlow h6.ge
    have frw9 := qw9.2
    replace hc := hc.stp sw9 (fun x hx => frw9 x (hc.lt x hx).2 (d_hc_h6 x hx))
    replace hE := hE.trans sw9.below
    replace ht := Rep.stp ht sw9
    replace hk := hk.stp sw9
    replace hs := Rep.stp hs sw9
    replace hks := hks.stp sw9
    replace h3 := h3.stp sw9
    replace h5 := h5.stp sw9
    replace hsub := fun b h => sw9.sub b (hsub b h)
    replace hlow := sw9.low
    replace hB := Nat.le_trans hB sw9.upd.1
    replace h6 : MB w.heap.size _ w9 b6 _ [.int .u8 t.op, .string t.name, .int .i64 t.n, kvc] := ⟨hw9, h6.inM, h6.ge⟩
    refine q1 (c_ret (x_seqR ?_))
    refine x_ret1s tbOk (fun j v hv => h6.cell j v hv) rfl rfl rfl rfl rfl ?_
    have hfin : PutF t n s = t := by unfold PutF; rw [c1, c2]; rfl
    rw [hfin]
    exact ⟨hc.mono (fun c h => .inr (hc.lt c h)) (fun c h => h.elim (fun h => h.elim) id), hE⟩
  refine c_skip (x_seq (c_seq ?_))
  refine a_beg Ext rfl ?_
  intro w10 ew10
  replace h6 := h6.ext hlow hB ew10
  replace hE := hE.trans (Below.mono ew10 hB)
  replace ht := Rep.ext ht ew10
  replace hk := hk.ext ew10
  replace hs := Rep.ext hs ew10
  replace hks := hks.ext ew10
  replace h3 := h3.ext ew10
  replace h5 := h5.ext ew10
  replace hlow := hlow.ext ew10
  replace hB := Nat.le_trans hB ew10.size
  have hS : Ext w10 w10 := ext_refl _
  have D_hk := hk
  have D_hks := hks
  have D_h3 := h3
  have D_h5 := h5
  have D_h6 := h6.box
  refine a_lds 0 tbOk (fun _ hs j v hv => (D_h3.ext hs).cell j v hv) rfl rfl rfl rfl rfl rfl rfl (by kernel_rfl) (fun _ _ _ h => h) hS ?_
  refine a_p 2 tbOk rfl rfl rfl rfl (by kernel_rfl) (fun _ _ _ h => h) hS ?_
  refine a_lds 3 tbOk (fun _ hs j v hv => (D_h5.ext hs).cell j v hv) rfl rfl rfl rfl rfl rfl rfl (by kernel_rfl) (fun _ _ _ h => h) hS ?_
  refine a_lds 6 tbOk (fun _ hs j v hv => (D_h5.ext hs).cell j v hv) rfl rfl rfl rfl rfl rfl rfl (by kernel_rfl) (fun _ _ _ h => h) hS ?_
  have l_h6 := h6.lt
  refine a_one 1 rfl (by kernel_rfl) (o_call fo67 rfl rfl rfl (copied_own t _ _ _ ht hlow hz) ?_)
  rintro vc w11 ⟨hc, ew11⟩
  replace hc := hc.ge hB
  have hGl : ∀ c, Plus NoM w10 w11 c → w10.heap.size ≤ c ∧ c < w11.heap.size := fun c h => h.elim (fun h => h.elim) id
  generalize Plus NoM w10 w11 = G at hc hGl
  have sw11 := (Stp.ext ew11 hlow hB).more hGl
  replace hS := hS.then ew11
  replace h6 := h6.stp sw11 (ew11.block b6 h6.lt)
  replace hE := hE.trans sw11.below
  replace ht := Rep.stp ht sw11
  replace hk := hk.stp sw11
  replace hs := Rep.stp hs sw11
  replace hks := hks.stp sw11
  replace h3 := h3.stp sw11
  replace h5 := h5.stp sw11
  replace hsub := fun b h => sw11.sub b (hsub b h)
  replace hlow := sw11.low
  replace hB := Nat.le_trans hB sw11.upd.1
  refine ⟨hS, ?_⟩
  have d_hc_h6 : ∀ x, G x → x ≠ b6 := fun x hx => by have := (hGl x hx).1; omega
  refine a_one 4 rfl (by kernel_rfl) (o_call fo18 rfl rfl rfl (kRow_specB s _ _ _ hs hlow) ?_)
  rintro _ w12 ⟨rfl, ew12⟩
  replace hS := hS.then ew12
  replace h6 := h6.ext hlow hB ew12
  replace hc := hc.ext hlow hB ew12
  replace hE := hE.trans (Below.mono ew12 hB)
  replace ht := Rep.ext ht ew12
  replace hk := hk.ext ew12
  replace hs := Rep.ext hs ew12
  replace hks := hks.ext ew12
  replace h3 := h3.ext ew12
  replace h5 := h5.ext ew12
  replace hlow := hlow.ext ew12
  replace hB := Nat.le_trans hB ew12.size
  refine ⟨hS, ?_⟩
  refine a_build (cells := [.int .i64 n, .bool (rowB s)]) (css := [[.int .i64 n], [.bool (rowB s)]]) 5 bd77 rfl rfl rfl rfl rfl rfl (by kernel_rfl) (fun _ _ _ h => h) hS ?_
  have l2_h6 := h6.lt
  have lc := hc.lt
  refine a_barS Ext 7 rfl (by kernel_rfl) (by kernel_rfl) (o_call fo71 rfl rfl rfl (put_own t n (rowB s) s _ _ w.heap.size _ _ G hc (fun c hc => .inr hc) hs hlow hB hzs) ?_)
  rintro vq w13 ⟨Mw13, Fw13, hq, hq2, sw13, kw13⟩
  replace h6 := h6.stp sw13 (kw13.blk b6 ⟨h6.lt, fun g => d_hc_h6 _ g rfl⟩)
  replace hE := hE.trans sw13.below
  replace ht := Rep.stp ht sw13
  replace hk := hk.stp sw13
  replace hs := Rep.stp hs sw13
  replace hks := hks.stp sw13
  replace h3 := h3.stp sw13
  replace h5 := h5.stp sw13
  replace hsub := fun b h => sw13.sub b (hsub b h)
  replace hlow := sw13.low
  replace hB := Nat.le_trans hB sw13.upd.1
  replace hS : Ext w13 w13 := ext_refl _
  have d_hq_h6 : ∀ x, Fw13 x → x ≠ b6 := fun x hx => (hq2 x hx).2.elim (d_hc_h6 x) (fun h => by omega)
  obtain ⟨kvq, usq, Hq, rfl, opq, nmq, n64q, hlq, hrq, hOq, hHq⟩ := oty_open hq
  have D_hk := hk
  have D_hks := hks
  have D_h3 := h3
  have D_h5 := h5
  have D_h6 := h6.box
  refine a_barS Ext 8 rfl (by kernel_rfl) (by kernel_rfl) (o_st tbOk h6.box rfl rfl rfl rfl hq.one rfl rfl ?_)
  intro w14 hw14 qw14 bew14
  have uw14 : UpdB _ _ _ := ⟨qw14, bew14⟩
  have sw14 := uw14.stp h6.inM hlow h6.ge
  have frw14 := qw14.2
  replace hq := hq.stp sw14 (fun x hx => frw14 x (hq.lt x hx).2 (d_hq_h6 x hx))
  replace hE := hE.trans sw14.below
  replace ht := Rep.stp ht sw14
  replace hk := hk.stp sw14
  replace hs := Rep.stp hs sw14
  replace hks := hks.stp sw14
  replace h3 := h3.stp sw14
  replace h5 := h5.stp sw14
  replace hsub := fun b h => sw14.sub b (hsub b h)
  replace hlow := sw14.low
  replace hB := Nat.le_trans hB sw14.upd.1
  replace hS : Ext w14 w14 := ext_refl _
  replace h6 : MB w.heap.size _ w14 b6 _ [.int .u8 (putF (varOp (rowB s)) n s t).op, .string (putF (varOp (rowB s)) n s t).name, .int .i64 (putF (varOp (rowB s)) n s t).n, kvq] := ⟨hw14, h6.inM, h6.ge⟩
  have D_hk := hk
  have D_hks := hks
  have D_h3 := h3
  have D_h5 := h5
  have D_h6 := h6.box
  refine a_end (by kernel_rfl) ?_
  refine x_seq (c_ret ?_)
  refine x_ret1s tbOk (fun j v hv => h6.cell j v hv) rfl rfl rfl rfl rfl ?_
  have hfin : PutF t n s = putF (varOp (rowB s)) n s t := by unfold PutF; rw [c1, c2]; rfl
  rw [hfin]
  exact ⟨hq.mono (fun c h => .inr (hq.lt c h)) (fun c h => h.elim (fun h => h.elim) id), hE⟩

/-- The document's Put. -/
theorem refPut_spec : ∀ (t : Ty) (o n : Int) (s : Ty) (M : Nat → Prop) (w : World) (v u : Value), Rep.R M w v t → Rep.R M w u s → Low M w → psz t ≤ 2000000 → Calls Try.prog 29 #[v, .int .u8 o, .int .i64 n, u] w (Ret fun r w' => Rep.R M w' r (putF o n s t) ∧ Ext w w') := by
  refine Ty.ind fun t ih => ?_
  intro o n s M w v u ht hs hlow0 hsz
  have hlow := hlow0
  have hB : w.heap.size ≤ w.heap.size := Nat.le_refl _
  have hE : Below w.heap.size w w := Below.refl _ _
  have hsub : ∀ b, M b → M b := fun _ h => h
  obtain ⟨kv, rfl, op, nm, n64, hk⟩ := ty_open ht
  obtain ⟨kvs, rfl, ops, nms, n64s, hks⟩ := ty_open hs
  have hps := psz_eq t
  have hkl := len_psz t.kids
  refine c_enter (n := 51) Try.func29 rfl rfl rfl ?_
  refine q0 ?_
  refine l_cons (o_box rfl rfl rfl ?_)
  intro b4 w1 hb_b4 ew1 h4
  replace h4 : Box _ b4 25 [.int .u8 t.op, .string t.name, .int .i64 t.n, kv] := h4
  replace h4 := h4.at (nM_of hlow hb_b4)
  replace hE := hE.trans (Below.mono ew1 hB)
  replace ht := Rep.ext ht ew1
  replace hk := hk.ext ew1
  replace hs := Rep.ext hs ew1
  replace hks := hks.ext ew1
  replace hlow := hlow.ext ew1
  replace hB := Nat.le_trans hB ew1.size
  refine l_cons (o_box rfl rfl rfl ?_)
  intro b7 w2 hb_b7 ew2 h7
  replace h7 : Box _ b7 25 [.int .u8 s.op, .string s.name, .int .i64 s.n, kvs] := h7
  replace h7 := h7.at (nM_of hlow hb_b7)
  replace hE := hE.trans (Below.mono ew2 hB)
  replace ht := Rep.ext ht ew2
  replace hk := hk.ext ew2
  replace hs := Rep.ext hs ew2
  replace hks := hks.ext ew2
  replace h4 := h4.ext ew2
  replace hlow := hlow.ext ew2
  replace hB := Nat.le_trans hB ew2.size
  refine l_cons (o_new tbOk rfl rfl rfl ?_)
  intro b8 w3 qb8 ew3 hb8
  have sw3 := Stp.add ew3 hlow hB (Nat.le_of_eq qb8.symm) hb8.lt
  have h8 : MB w.heap.size (Rw.Add M b8) w3 b8 25 [.int .u8 0, .string ⟨#[]⟩, .int .i64 0, .slice none 0 0] := MB.mk' hb8 qb8 hB
  replace hE := hE.trans sw3.below
  replace ht := Rep.stp ht sw3
  replace hk := hk.stp sw3
  replace hs := Rep.stp hs sw3
  replace hks := hks.stp sw3
  replace h4 := h4.stp sw3
  replace h7 := h7.stp sw3
  replace hsub := fun b h => sw3.sub b (hsub b h)
  replace hlow := sw3.low
  replace hB := Nat.le_trans hB sw3.upd.1
  refine q1 (c_seq (q0 (l_p 1 tbOk rfl ?_)))
  refine l_cons (o_ld tbOk (h4.cell 0 _ rfl) rfl rfl rfl rfl rfl ?_)
  refine l_p 3 tbOk rfl ?_
  refine l_splitP 15 _ rfl (fun c1 => ?_) (fun c1 => ?_)
  · refine l_p 1 tbOk rfl ?_
    refine l_cons (o_ld tbOk (h4.cell 2 _ rfl) rfl rfl rfl rfl rfl ?_)
    refine l_p 3 tbOk rfl (q1 ?_)
    refine c_ifP _ rfl (fun c2 => ?_) (fun c2 => ?_)
    · refine q0 ?_
      refine l_cons (o_lds tbOk (fun j v hv => h7.cell j v hv) rfl rfl rfl rfl rfl rfl ?_)
      refine l_cons (o_st tbOk h8.box rfl rfl rfl rfl (Rep.one hs) rfl rfl ?_)
      intro w4 hw4 qw4 bew4
      have uw4 : UpdB _ _ _ := ⟨qw4, bew4⟩
      have sw4 := uw4.stp h8.inM hlow h8.ge
      have frw4 := qw4.2
      replace hE := hE.trans sw4.below
      replace ht := Rep.stp ht sw4
      replace hk := hk.stp sw4
      replace hs := Rep.stp hs sw4
      replace hks := hks.stp sw4
      replace h4 := h4.stp sw4
      replace h7 := h7.stp sw4
      replace hsub := fun b h => sw4.sub b (hsub b h)
      replace hlow := sw4.low
      replace hB := Nat.le_trans hB sw4.upd.1
      replace h8 : MB w.heap.size _ w4 b8 _ [.int .u8 s.op, .string s.name, .int .i64 s.n, kvs] := ⟨hw4, h8.inM, h8.ge⟩
      refine q1 (c_ret (x_seqR ?_))
      refine x_ret1s tbOk (fun j v hv => h8.cell j v hv) rfl rfl rfl rfl rfl ?_
      rw [put_hit (by clear ih; simp_all) (by clear ih; simp_all)]
      exact ⟨Rep.wk hs (fun b _ h => hsub b h), hE⟩
    refine c_skip (x_seq (q0 (l_p 1 tbOk rfl ?_)))
    refine l_cons (o_ld tbOk (h4.cell 0 _ rfl) rfl rfl rfl rfl rfl ?_)
    refine l_p 1 tbOk rfl ?_
    refine l_cons (o_ld tbOk (h4.cell 1 _ rfl) rfl rfl rfl rfl rfl ?_)
    refine l_p 1 tbOk rfl ?_
    refine l_cons (o_ld tbOk (h4.cell 2 _ rfl) rfl rfl rfl rfl rfl ?_)
    refine l_cons (o_build (cells := [.int .u8 t.op, .string t.name, .int .i64 t.n, .slice none 0 0]) (css := [[.int .u8 t.op], [.string t.name], [.int .i64 t.n]]) bd25 rfl rfl rfl rfl rfl ?_)
    refine l_cons (o_new tbOk rfl rfl rfl ?_)
    intro b9 w5 qb9 ew5 hb9
    have ne_h8_h9 : b8 ≠ b9 := by have := h8.lt; omega
    have sw5 := Stp.add ew5 hlow hB (Nat.le_of_eq qb9.symm) hb9.lt
    have h9 : MB w.heap.size (Rw.Add (Rw.Add M b8) b9) w5 b9 25 [.int .u8 0, .string ⟨#[]⟩, .int .i64 0, .slice none 0 0] := MB.mk' hb9 qb9 hB
    replace h8 := h8.stp sw5 (ew5.block b8 h8.lt)
    replace hE := hE.trans sw5.below
    replace ht := Rep.stp ht sw5
    replace hk := hk.stp sw5
    replace hs := Rep.stp hs sw5
    replace hks := hks.stp sw5
    replace h4 := h4.stp sw5
    replace h7 := h7.stp sw5
    replace hsub := fun b h => sw5.sub b (hsub b h)
    replace hlow := sw5.low
    replace hB := Nat.le_trans hB sw5.upd.1
    refine l_cons (o_st tbOk h9.box rfl rfl rfl rfl (by intro u hu; simp [Value.cells] at hu; rcases hu with rfl | rfl | rfl | rfl <;> rfl) rfl rfl ?_)
    intro w6 hw6 qw6 bew6
    have uw6 : UpdB _ _ _ := ⟨qw6, bew6⟩
    have sw6 := uw6.stp h9.inM hlow h9.ge
    have frw6 := qw6.2
    replace h8 := h8.stp sw6 (frw6 b8 h8.lt ne_h8_h9)
    replace hE := hE.trans sw6.below
    replace ht := Rep.stp ht sw6
    replace hk := hk.stp sw6
    replace hs := Rep.stp hs sw6
    replace hks := hks.stp sw6
    replace h4 := h4.stp sw6
    replace h7 := h7.stp sw6
    replace hsub := fun b h => sw6.sub b (hsub b h)
    replace hlow := sw6.low
    replace hB := Nat.le_trans hB sw6.upd.1
    replace h9 : MB w.heap.size _ w6 b9 _ [.int .u8 t.op, .string t.name, .int .i64 t.n, .slice none 0 0] := ⟨hw6, h9.inM, h9.ge⟩
    refine q1 (c_seq (q0 (l_p 1 tbOk rfl (q1 (c_blk ?_)))))
    have d_ho_h8 : ∀ x, (.slice none 0 0 : Value).ownBlock = some x → x ≠ b8 := fun x hx => by simp [Value.ownBlock] at hx
    have d_ho_h9 : ∀ x, (.slice none 0 0 : Value).ownBlock = some x → x ≠ b9 := fun x hx => by simp [Value.ownBlock] at hx
    refine c_loop3 (X := Nat) (Y := Value) (Z := Nat → Prop) (fun i wv M1 => [(1, .int .u8 o), (2, .int .i64 n), (7, .pointer (some ⟨b7, 0, none⟩)), (4, .pointer (some ⟨b4, 0, none⟩)), (8, .pointer (some ⟨b8, 0, none⟩)), (9, .pointer (some ⟨b9, 0, none⟩)), (10, .int .i64 (i : Nat))]) (fun i wv M1 w' => i ≤ t.kids.length ∧ OwnSl 25 w.heap.size M1 w' wv ((t.kids.take i).map (putF o n s)) ∧ MB w.heap.size M1 w' b8 25 [.int .u8 0, .string ⟨#[]⟩, .int .i64 0, .slice none 0 0] ∧ MB w.heap.size M1 w' b9 25 [.int .u8 t.op, .string t.name, .int .i64 t.n, wv] ∧ At M1 w' b4 0 [.int .u8 t.op, .string t.name, .int .i64 t.n, kv] ∧ (∀ x, (wv : Value).ownBlock = some x → x ≠ b8) ∧ (∀ x, (wv : Value).ownBlock = some x → x ≠ b9) ∧ Sl M1 w' kv t.kids ∧ At M1 w' b7 0 [.int .u8 s.op, .string s.name, .int .i64 s.n, kvs] ∧ Rep.R M1 w' (.agg #[.int .u8 s.op, .string s.name, .int .i64 s.n, kvs]) s ∧ Low M1 w' ∧ (∀ b, M b → M1 b) ∧ Below w.heap.size w w' ∧ w.heap.size ≤ w'.heap.size) (fun i wv M1 => t.kids.length - i) (0) (.slice none 0 0) ((Rw.Add (Rw.Add M b8) b9)) (s7 rfl rfl rfl rfl rfl rfl rfl) ?_ ?_
    · exact ⟨Nat.zero_le _, own_nil, h8, h9, h4, d_ho_h8, d_ho_h9, hk, h7, hs, hlow, hsub, hE, hB⟩
    rintro i wv M1 w7 ⟨hi, ho, h8, h9, h4, d_ho_h8, d_ho_h9, hk, h7, hs, hlow, hsub, hE, hB⟩
    refine c_seq (q0 (l_p 2 tbOk rfl ?_))
    refine l_cons (o_ld tbOk (h4.cell 3 _ rfl) rfl rfl rfl rfl rfl ?_)
    refine l_cons (o_len tbOk hk rfl rfl rfl rfl rfl ?_)
    refine l_p 1 tbOk rfl (q1 ?_)
    refine c_ifP _ rfl (fun c3 => ?_) (fun c3 => ?_)
    · refine c_skip (x_seq (c_seq (c_blk ?_)))
      refine a_beg Ext rfl ?_
      intro w8 ew8
      replace ho := ho.ext hlow hB ew8
      replace h8 := h8.ext hlow hB ew8
      replace h9 := h9.ext hlow hB ew8
      replace hE := hE.trans (Below.mono ew8 hB)
      replace h4 := h4.ext ew8
      replace hk := hk.ext ew8
      replace h7 := h7.ext ew8
      replace hs := Rep.ext hs ew8
      replace hlow := hlow.ext ew8
      replace hB := Nat.le_trans hB ew8.size
      have hS : Ext w8 w8 := ext_refl _
      have D_h8 := h8.box
      have D_h9 := h9.box
      have D_h4 := h4
      have D_hk := hk
      have D_h7 := h7
      refine a_p 0 tbOk rfl rfl rfl rfl (by kernel_rfl) (fun _ _ _ h => h) hS ?_
      refine a_ld 1 tbOk (fun _ hs => (D_h9.ext hs).cell 3 _ rfl) rfl rfl rfl rfl rfl rfl (by kernel_rfl) (fun _ _ _ h => h) hS ?_
      refine a_p 2 tbOk rfl rfl rfl rfl (by kernel_rfl) (fun _ _ _ h => h) hS ?_
      refine a_ld 3 tbOk (fun _ hs => (D_h4.ext hs).cell 3 _ rfl) rfl rfl rfl rfl rfl rfl (by kernel_rfl) (fun _ _ _ h => h) hS ?_
      refine a_p 4 tbOk rfl rfl rfl rfl (by kernel_rfl) (fun _ _ _ h => h) hS ?_
      have hik : i < t.kids.length := by omega
      have hp1 := psz_get hik
      refine a_ixS 5 tbOk D_hk (List.getElem?_eq_getElem hik) rfl rfl rfl rfl rfl rfl rfl rfl rfl rfl (by kernel_rfl) (fun _ _ _ _ h => h) hS ?_
      intro ebx eox eux hyx hatx
      obtain ⟨kvx, rfl, opx, nmx, n64x, hkx⟩ := ty_open hyx
      replace hatx : At M1 w8 ebx eox [.int .u8 t.kids[i].op, .string t.kids[i].name, .int .i64 t.kids[i].n, kvx] := hatx
      refine a_lds 6 tbOk (fun _ hs j v hv => (hatx.ext hs).cell j v hv) rfl rfl rfl rfl rfl rfl rfl (by kernel_rfl) (fun _ _ _ h => h) hS ?_
      refine a_p 7 tbOk rfl rfl rfl rfl (by kernel_rfl) (fun _ _ _ h => h) hS ?_
      refine a_p 8 tbOk rfl rfl rfl rfl (by kernel_rfl) (fun _ _ _ h => h) hS ?_
      refine a_lds 9 tbOk (fun _ hs j v hv => (D_h7.ext hs).cell j v hv) rfl rfl rfl rfl rfl rfl rfl (by kernel_rfl) (fun _ _ _ h => h) hS ?_
      refine a_one 10 rfl (by kernel_rfl) (o_call fo29 rfl rfl rfl (ih _ (List.getElem_mem hik) o n s _ _ _ _ hyx hs hlow (by omega)) ?_)
      rintro vc w9 ⟨hc, ew9⟩
      replace hS := hS.then ew9
      replace ho := ho.ext hlow hB ew9
      replace h8 := h8.ext hlow hB ew9
      replace h9 := h9.ext hlow hB ew9
      replace hE := hE.trans (Below.mono ew9 hB)
      replace h4 := h4.ext ew9
      replace hk := hk.ext ew9
      replace h7 := h7.ext ew9
      replace hs := Rep.ext hs ew9
      replace hyx := Rep.ext hyx ew9
      replace hkx := hkx.ext ew9
      replace hatx := hatx.ext ew9
      replace hlow := hlow.ext ew9
      replace hB := Nat.le_trans hB ew9.size
      refine ⟨hS, ?_⟩
      refine a_one 11 rfl (by kernel_rfl) (o_bs tbOk rfl rfl rfl rfl rfl rfl rfl (sz1 (Rep.size hc)) rfl rfl rfl ?_)
      intro bw10 w10 qbw10 ew10 hbw10
      have nbw10 := nM_of hlow qbw10
      replace hS := hS.then ew10
      replace ho := ho.ext hlow hB ew10
      replace h8 := h8.ext hlow hB ew10
      replace h9 := h9.ext hlow hB ew10
      replace hE := hE.trans (Below.mono ew10 hB)
      replace h4 := h4.ext ew10
      replace hk := hk.ext ew10
      replace h7 := h7.ext ew10
      replace hs := Rep.ext hs ew10
      replace hyx := Rep.ext hyx ew10
      replace hkx := hkx.ext ew10
      replace hatx := hatx.ext ew10
      replace hc := Rep.ext hc ew10
      replace hlow := hlow.ext ew10
      replace hB := Nat.le_trans hB ew10.size
      refine ⟨hS, ?_⟩
      refine a_barS Ext 12 rfl (by kernel_rfl) (by kernel_rfl) (o_app1 tbOk ho hbw10 nbw10 hc hlow hB rfl rfl rfl rfl rfl rfl rfl (by simp; omega) (by show (_ + _) * 56 ≤ _; simp; omega) rfl rfl ?_)
      intro vw11 w11 Mw11 hw11 sw11 frw11 blw11
      have zd_ho_h8 := d_ho_h8
      replace d_ho_h8 : ∀ x, (vw11 : Value).ownBlock = some x → x ≠ b8 := fun x hx => (blw11 x hx).elim (d_ho_h8 x) (fun h e => by have := h8.lt; omega)
      have zd_ho_h9 := d_ho_h9
      replace d_ho_h9 : ∀ x, (vw11 : Value).ownBlock = some x → x ≠ b9 := fun x hx => (blw11 x hx).elim (d_ho_h9 x) (fun h e => by have := h9.lt; omega)
      replace h8 := h8.stp sw11 (frw11 b8 h8.lt (fun e => zd_ho_h8 _ e.symm rfl))
      replace h9 := h9.stp sw11 (frw11 b9 h9.lt (fun e => zd_ho_h9 _ e.symm rfl))
      replace hE := hE.trans sw11.below
      replace h4 := h4.stp sw11
      replace hk := hk.stp sw11
      replace h7 := h7.stp sw11
      replace hs := Rep.stp hs sw11
      replace hyx := Rep.stp hyx sw11
      replace hkx := hkx.stp sw11
      replace hatx := hatx.stp sw11
      replace hc := Rep.stp hc sw11
      replace hsub := fun b h => sw11.sub b (hsub b h)
      replace hlow := sw11.low
      replace hB := Nat.le_trans hB sw11.upd.1
      replace hS : Ext w11 w11 := ext_refl _
      replace ho := hw11
      clear hw11
      have D_h8 := h8.box
      have D_h9 := h9.box
      have D_h4 := h4
      have D_hk := hk
      have D_h7 := h7
      have D_hkx := hkx
      have D_hatx := hatx
      refine a_p 13 tbOk rfl rfl rfl rfl (by kernel_rfl) (fun _ _ _ h => h) hS ?_
      obtain ⟨av6, cv6, rfl, _⟩ := ho.val
      refine a_barS Ext 14 rfl (by kernel_rfl) (by kernel_rfl) (o_st tbOk h9.box rfl rfl rfl rfl (by simp [Value.cells, Value.oneCell']) rfl rfl ?_)
      intro w12 hw12 qw12 bew12
      have uw12 : UpdB _ _ _ := ⟨qw12, bew12⟩
      have sw12 := uw12.stp h9.inM hlow h9.ge
      have frw12 := qw12.2
      replace ho := ho.stp sw12 (fun x hx => frw12 x (ho.lt x hx).2 (d_ho_h9 x hx))
      replace h8 := h8.stp sw12 (frw12 b8 h8.lt ne_h8_h9)
      replace hE := hE.trans sw12.below
      replace h4 := h4.stp sw12
      replace hk := hk.stp sw12
      replace h7 := h7.stp sw12
      replace hs := Rep.stp hs sw12
      replace hyx := Rep.stp hyx sw12
      replace hkx := hkx.stp sw12
      replace hatx := hatx.stp sw12
      replace hc := Rep.stp hc sw12
      replace hsub := fun b h => sw12.sub b (hsub b h)
      replace hlow := sw12.low
      replace hB := Nat.le_trans hB sw12.upd.1
      replace hS : Ext w12 w12 := ext_refl _
      replace h9 : MB w.heap.size _ w12 b9 _ [.int .u8 t.op, .string t.name, .int .i64 t.n, (.slice av6 ((t.kids.take i).map (putF o n s) ++ [(putF o n s) t.kids[i]]).length cv6)] := ⟨hw12, h9.inM, h9.ge⟩
      have D_h8 := h8.box
      have D_h9 := h9.box
      have D_h4 := h4
      have D_hk := hk
      have D_h7 := h7
      have D_hkx := hkx
      have D_hatx := hatx
      refine a_end (by kernel_rfl) ?_
      refine x_blk (x_seq (c_reg (l_p 1 tbOk rfl ?_)))
      refine l_cons (o_ar rfl rfl rfl (IntWalk.i64_in _ (by omega)) rfl rfl ?_)
      refine l_p 1 tbOk rfl (l_nil ?_)
      exact x_round3 (i + 1) ((.slice av6 ((t.kids.take i).map (putF o n s) ++ [(putF o n s) t.kids[i]]).length cv6)) (Mw11) (s7 rfl rfl rfl rfl rfl rfl (get_num rfl (by omega))) ⟨by omega, by rw [List.take_succ_eq_append_getElem hik, List.map_append]; exact ho, h8, h9, h4, d_ho_h8, d_ho_h9, hk, h7, hs, hlow, hsub, hE, hB⟩ (by omega)
    refine c_exit (x_seqE (x_seqE (x_blkE (x_seq (q0 ?_)))))
    refine l_cons (o_lds tbOk (fun j v hv => h9.cell j v hv) rfl rfl rfl rfl rfl rfl ?_)
    obtain rfl : i = t.kids.length := by omega
    rw [List.take_of_length_le (Nat.le_refl _)] at ho
    obtain ⟨av, cv, rfl, hcv⟩ := ho.val
    have hml : (t.kids.map (putF o n s)).length = t.kids.length := List.length_map _
    refine l_cons (o_st tbOk h8.box rfl rfl rfl rfl (by intro u hu; simp [Value.cells] at hu; rcases hu with rfl | rfl | rfl | rfl <;> rfl) rfl rfl ?_)
    intro w13 hw13 qw13 bew13
    have uw13 : UpdB _ _ _ := ⟨qw13, bew13⟩
    have sw13 := uw13.stp h8.inM hlow h8.ge
    have frw13 := qw13.2
    replace ho := ho.stp sw13 (fun x hx => frw13 x (ho.lt x hx).2 (d_ho_h8 x hx))
    replace h9 := h9.stp sw13 (frw13 b9 h9.lt ne_h8_h9.symm)
    replace hE := hE.trans sw13.below
    replace h4 := h4.stp sw13
    replace hk := hk.stp sw13
    replace h7 := h7.stp sw13
    replace hs := Rep.stp hs sw13
    replace hsub := fun b h => sw13.sub b (hsub b h)
    replace hlow := sw13.low
    replace hB := Nat.le_trans hB sw13.upd.1
    replace h8 : MB w.heap.size _ w13 b8 _ [.int .u8 t.op, .string t.name, .int .i64 t.n, .slice av (t.kids.map (putF o n s)).length cv] := ⟨hw13, h8.inM, h8.ge⟩
    refine q1 (c_ret ?_)
    refine x_ret1s tbOk (fun j v hv => h8.cell j v hv) rfl rfl rfl rfl rfl ?_
    have hfin := ty_mk op nm n64 (ho.sl (by omega) hlow0 hsub)
    rw [← put_no (by clear ih; simp_all)] at hfin
    exact ⟨hfin, hE⟩
  refine l_p 5 tbOk rfl (q1 (c_ifF rfl (c_skip (x_seq (q0 (l_p 1 tbOk rfl ?_))))))
  refine l_cons (o_ld tbOk (h4.cell 0 _ rfl) rfl rfl rfl rfl rfl ?_)
  refine l_p 1 tbOk rfl ?_
  refine l_cons (o_ld tbOk (h4.cell 1 _ rfl) rfl rfl rfl rfl rfl ?_)
  refine l_p 1 tbOk rfl ?_
  refine l_cons (o_ld tbOk (h4.cell 2 _ rfl) rfl rfl rfl rfl rfl ?_)
  refine l_cons (o_build (cells := [.int .u8 t.op, .string t.name, .int .i64 t.n, .slice none 0 0]) (css := [[.int .u8 t.op], [.string t.name], [.int .i64 t.n]]) bd25 rfl rfl rfl rfl rfl ?_)
  refine l_cons (o_new tbOk rfl rfl rfl ?_)
  intro b9 w14 qb9 ew14 hb9
  have ne_h8_h9 : b8 ≠ b9 := by have := h8.lt; omega
  have sw14 := Stp.add ew14 hlow hB (Nat.le_of_eq qb9.symm) hb9.lt
  have h9 : MB w.heap.size (Rw.Add (Rw.Add M b8) b9) w14 b9 25 [.int .u8 0, .string ⟨#[]⟩, .int .i64 0, .slice none 0 0] := MB.mk' hb9 qb9 hB
  replace h8 := h8.stp sw14 (ew14.block b8 h8.lt)
  replace hE := hE.trans sw14.below
  replace ht := Rep.stp ht sw14
  replace hk := hk.stp sw14
  replace hs := Rep.stp hs sw14
  replace hks := hks.stp sw14
  replace h4 := h4.stp sw14
  replace h7 := h7.stp sw14
  replace hsub := fun b h => sw14.sub b (hsub b h)
  replace hlow := sw14.low
  replace hB := Nat.le_trans hB sw14.upd.1
  refine l_cons (o_st tbOk h9.box rfl rfl rfl rfl (by intro u hu; simp [Value.cells] at hu; rcases hu with rfl | rfl | rfl | rfl <;> rfl) rfl rfl ?_)
  intro w15 hw15 qw15 bew15
  have uw15 : UpdB _ _ _ := ⟨qw15, bew15⟩
  have sw15 := uw15.stp h9.inM hlow h9.ge
  have frw15 := qw15.2
  replace h8 := h8.stp sw15 (frw15 b8 h8.lt ne_h8_h9)
  replace hE := hE.trans sw15.below
  replace ht := Rep.stp ht sw15
  replace hk := hk.stp sw15
  replace hs := Rep.stp hs sw15
  replace hks := hks.stp sw15
  replace h4 := h4.stp sw15
  replace h7 := h7.stp sw15
  replace hsub := fun b h => sw15.sub b (hsub b h)
  replace hlow := sw15.low
  replace hB := Nat.le_trans hB sw15.upd.1
  replace h9 : MB w.heap.size _ w15 b9 _ [.int .u8 t.op, .string t.name, .int .i64 t.n, .slice none 0 0] := ⟨hw15, h9.inM, h9.ge⟩
  refine q1 (c_seq (q0 (l_p 1 tbOk rfl (q1 (c_blk ?_)))))
  have d_ho_h8 : ∀ x, (.slice none 0 0 : Value).ownBlock = some x → x ≠ b8 := fun x hx => by simp [Value.ownBlock] at hx
  have d_ho_h9 : ∀ x, (.slice none 0 0 : Value).ownBlock = some x → x ≠ b9 := fun x hx => by simp [Value.ownBlock] at hx
  refine c_loop3 (X := Nat) (Y := Value) (Z := Nat → Prop) (fun i wv M1 => [(1, .int .u8 o), (2, .int .i64 n), (7, .pointer (some ⟨b7, 0, none⟩)), (4, .pointer (some ⟨b4, 0, none⟩)), (8, .pointer (some ⟨b8, 0, none⟩)), (9, .pointer (some ⟨b9, 0, none⟩)), (10, .int .i64 (i : Nat))]) (fun i wv M1 w' => i ≤ t.kids.length ∧ OwnSl 25 w.heap.size M1 w' wv ((t.kids.take i).map (putF o n s)) ∧ MB w.heap.size M1 w' b8 25 [.int .u8 0, .string ⟨#[]⟩, .int .i64 0, .slice none 0 0] ∧ MB w.heap.size M1 w' b9 25 [.int .u8 t.op, .string t.name, .int .i64 t.n, wv] ∧ At M1 w' b4 0 [.int .u8 t.op, .string t.name, .int .i64 t.n, kv] ∧ (∀ x, (wv : Value).ownBlock = some x → x ≠ b8) ∧ (∀ x, (wv : Value).ownBlock = some x → x ≠ b9) ∧ Sl M1 w' kv t.kids ∧ At M1 w' b7 0 [.int .u8 s.op, .string s.name, .int .i64 s.n, kvs] ∧ Rep.R M1 w' (.agg #[.int .u8 s.op, .string s.name, .int .i64 s.n, kvs]) s ∧ Low M1 w' ∧ (∀ b, M b → M1 b) ∧ Below w.heap.size w w' ∧ w.heap.size ≤ w'.heap.size) (fun i wv M1 => t.kids.length - i) (0) (.slice none 0 0) ((Rw.Add (Rw.Add M b8) b9)) (s7 rfl rfl rfl rfl rfl rfl rfl) ?_ ?_
  · exact ⟨Nat.zero_le _, own_nil, h8, h9, h4, d_ho_h8, d_ho_h9, hk, h7, hs, hlow, hsub, hE, hB⟩
  rintro i wv M1 w16 ⟨hi, ho, h8, h9, h4, d_ho_h8, d_ho_h9, hk, h7, hs, hlow, hsub, hE, hB⟩
  refine c_seq (q0 (l_p 2 tbOk rfl ?_))
  refine l_cons (o_ld tbOk (h4.cell 3 _ rfl) rfl rfl rfl rfl rfl ?_)
  refine l_cons (o_len tbOk hk rfl rfl rfl rfl rfl ?_)
  refine l_p 1 tbOk rfl (q1 ?_)
  refine c_ifP _ rfl (fun c4 => ?_) (fun c4 => ?_)
  · refine c_skip (x_seq (c_seq (c_blk ?_)))
    refine a_beg Ext rfl ?_
    intro w17 ew17
    replace ho := ho.ext hlow hB ew17
    replace h8 := h8.ext hlow hB ew17
    replace h9 := h9.ext hlow hB ew17
    replace hE := hE.trans (Below.mono ew17 hB)
    replace h4 := h4.ext ew17
    replace hk := hk.ext ew17
    replace h7 := h7.ext ew17
    replace hs := Rep.ext hs ew17
    replace hlow := hlow.ext ew17
    replace hB := Nat.le_trans hB ew17.size
    have hS : Ext w17 w17 := ext_refl _
    have D_h8 := h8.box
    have D_h9 := h9.box
    have D_h4 := h4
    have D_hk := hk
    have D_h7 := h7
    refine a_p 0 tbOk rfl rfl rfl rfl (by kernel_rfl) (fun _ _ _ h => h) hS ?_
    refine a_ld 1 tbOk (fun _ hs => (D_h9.ext hs).cell 3 _ rfl) rfl rfl rfl rfl rfl rfl (by kernel_rfl) (fun _ _ _ h => h) hS ?_
    refine a_p 2 tbOk rfl rfl rfl rfl (by kernel_rfl) (fun _ _ _ h => h) hS ?_
    refine a_ld 3 tbOk (fun _ hs => (D_h4.ext hs).cell 3 _ rfl) rfl rfl rfl rfl rfl rfl (by kernel_rfl) (fun _ _ _ h => h) hS ?_
    refine a_p 4 tbOk rfl rfl rfl rfl (by kernel_rfl) (fun _ _ _ h => h) hS ?_
    have hik : i < t.kids.length := by omega
    have hp1 := psz_get hik
    refine a_ixS 5 tbOk D_hk (List.getElem?_eq_getElem hik) rfl rfl rfl rfl rfl rfl rfl rfl rfl rfl (by kernel_rfl) (fun _ _ _ _ h => h) hS ?_
    intro ebx eox eux hyx hatx
    obtain ⟨kvx, rfl, opx, nmx, n64x, hkx⟩ := ty_open hyx
    replace hatx : At M1 w17 ebx eox [.int .u8 t.kids[i].op, .string t.kids[i].name, .int .i64 t.kids[i].n, kvx] := hatx
    refine a_lds 6 tbOk (fun _ hs j v hv => (hatx.ext hs).cell j v hv) rfl rfl rfl rfl rfl rfl rfl (by kernel_rfl) (fun _ _ _ h => h) hS ?_
    refine a_p 7 tbOk rfl rfl rfl rfl (by kernel_rfl) (fun _ _ _ h => h) hS ?_
    refine a_p 8 tbOk rfl rfl rfl rfl (by kernel_rfl) (fun _ _ _ h => h) hS ?_
    refine a_lds 9 tbOk (fun _ hs j v hv => (D_h7.ext hs).cell j v hv) rfl rfl rfl rfl rfl rfl rfl (by kernel_rfl) (fun _ _ _ h => h) hS ?_
    refine a_one 10 rfl (by kernel_rfl) (o_call fo29 rfl rfl rfl (ih _ (List.getElem_mem hik) o n s _ _ _ _ hyx hs hlow (by omega)) ?_)
    rintro vc w18 ⟨hc, ew18⟩
    replace hS := hS.then ew18
    replace ho := ho.ext hlow hB ew18
    replace h8 := h8.ext hlow hB ew18
    replace h9 := h9.ext hlow hB ew18
    replace hE := hE.trans (Below.mono ew18 hB)
    replace h4 := h4.ext ew18
    replace hk := hk.ext ew18
    replace h7 := h7.ext ew18
    replace hs := Rep.ext hs ew18
    replace hyx := Rep.ext hyx ew18
    replace hkx := hkx.ext ew18
    replace hatx := hatx.ext ew18
    replace hlow := hlow.ext ew18
    replace hB := Nat.le_trans hB ew18.size
    refine ⟨hS, ?_⟩
    refine a_one 11 rfl (by kernel_rfl) (o_bs tbOk rfl rfl rfl rfl rfl rfl rfl (sz1 (Rep.size hc)) rfl rfl rfl ?_)
    intro bw19 w19 qbw19 ew19 hbw19
    have nbw19 := nM_of hlow qbw19
    replace hS := hS.then ew19
    replace ho := ho.ext hlow hB ew19
    replace h8 := h8.ext hlow hB ew19
    replace h9 := h9.ext hlow hB ew19
    replace hE := hE.trans (Below.mono ew19 hB)
    replace h4 := h4.ext ew19
    replace hk := hk.ext ew19
    replace h7 := h7.ext ew19
    replace hs := Rep.ext hs ew19
    replace hyx := Rep.ext hyx ew19
    replace hkx := hkx.ext ew19
    replace hatx := hatx.ext ew19
    replace hc := Rep.ext hc ew19
    replace hlow := hlow.ext ew19
    replace hB := Nat.le_trans hB ew19.size
    refine ⟨hS, ?_⟩
    refine a_barS Ext 12 rfl (by kernel_rfl) (by kernel_rfl) (o_app1 tbOk ho hbw19 nbw19 hc hlow hB rfl rfl rfl rfl rfl rfl rfl (by simp; omega) (by show (_ + _) * 56 ≤ _; simp; omega) rfl rfl ?_)
    intro vw20 w20 Mw20 hw20 sw20 frw20 blw20
    have zd_ho_h8 := d_ho_h8
    replace d_ho_h8 : ∀ x, (vw20 : Value).ownBlock = some x → x ≠ b8 := fun x hx => (blw20 x hx).elim (d_ho_h8 x) (fun h e => by have := h8.lt; omega)
    have zd_ho_h9 := d_ho_h9
    replace d_ho_h9 : ∀ x, (vw20 : Value).ownBlock = some x → x ≠ b9 := fun x hx => (blw20 x hx).elim (d_ho_h9 x) (fun h e => by have := h9.lt; omega)
    replace h8 := h8.stp sw20 (frw20 b8 h8.lt (fun e => zd_ho_h8 _ e.symm rfl))
    replace h9 := h9.stp sw20 (frw20 b9 h9.lt (fun e => zd_ho_h9 _ e.symm rfl))
    replace hE := hE.trans sw20.below
    replace h4 := h4.stp sw20
    replace hk := hk.stp sw20
    replace h7 := h7.stp sw20
    replace hs := Rep.stp hs sw20
    replace hyx := Rep.stp hyx sw20
    replace hkx := hkx.stp sw20
    replace hatx := hatx.stp sw20
    replace hc := Rep.stp hc sw20
    replace hsub := fun b h => sw20.sub b (hsub b h)
    replace hlow := sw20.low
    replace hB := Nat.le_trans hB sw20.upd.1
    replace hS : Ext w20 w20 := ext_refl _
    replace ho := hw20
    clear hw20
    have D_h8 := h8.box
    have D_h9 := h9.box
    have D_h4 := h4
    have D_hk := hk
    have D_h7 := h7
    have D_hkx := hkx
    have D_hatx := hatx
    refine a_p 13 tbOk rfl rfl rfl rfl (by kernel_rfl) (fun _ _ _ h => h) hS ?_
    obtain ⟨av6, cv6, rfl, _⟩ := ho.val
    refine a_barS Ext 14 rfl (by kernel_rfl) (by kernel_rfl) (o_st tbOk h9.box rfl rfl rfl rfl (by simp [Value.cells, Value.oneCell']) rfl rfl ?_)
    intro w21 hw21 qw21 bew21
    have uw21 : UpdB _ _ _ := ⟨qw21, bew21⟩
    have sw21 := uw21.stp h9.inM hlow h9.ge
    have frw21 := qw21.2
    replace ho := ho.stp sw21 (fun x hx => frw21 x (ho.lt x hx).2 (d_ho_h9 x hx))
    replace h8 := h8.stp sw21 (frw21 b8 h8.lt ne_h8_h9)
    replace hE := hE.trans sw21.below
    replace h4 := h4.stp sw21
    replace hk := hk.stp sw21
    replace h7 := h7.stp sw21
    replace hs := Rep.stp hs sw21
    replace hyx := Rep.stp hyx sw21
    replace hkx := hkx.stp sw21
    replace hatx := hatx.stp sw21
    replace hc := Rep.stp hc sw21
    replace hsub := fun b h => sw21.sub b (hsub b h)
    replace hlow := sw21.low
    replace hB := Nat.le_trans hB sw21.upd.1
    replace hS : Ext w21 w21 := ext_refl _
    replace h9 : MB w.heap.size _ w21 b9 _ [.int .u8 t.op, .string t.name, .int .i64 t.n, (.slice av6 ((t.kids.take i).map (putF o n s) ++ [(putF o n s) t.kids[i]]).length cv6)] := ⟨hw21, h9.inM, h9.ge⟩
    have D_h8 := h8.box
    have D_h9 := h9.box
    have D_h4 := h4
    have D_hk := hk
    have D_h7 := h7
    have D_hkx := hkx
    have D_hatx := hatx
    refine a_end (by kernel_rfl) ?_
    refine x_blk (x_seq (c_reg (l_p 1 tbOk rfl ?_)))
    refine l_cons (o_ar rfl rfl rfl (IntWalk.i64_in _ (by omega)) rfl rfl ?_)
    refine l_p 1 tbOk rfl (l_nil ?_)
    exact x_round3 (i + 1) ((.slice av6 ((t.kids.take i).map (putF o n s) ++ [(putF o n s) t.kids[i]]).length cv6)) (Mw20) (s7 rfl rfl rfl rfl rfl rfl (get_num rfl (by omega))) ⟨by omega, by rw [List.take_succ_eq_append_getElem hik, List.map_append]; exact ho, h8, h9, h4, d_ho_h8, d_ho_h9, hk, h7, hs, hlow, hsub, hE, hB⟩ (by omega)
  refine c_exit (x_seqE (x_seqE (x_blkE (x_seq (q0 ?_)))))
  refine l_cons (o_lds tbOk (fun j v hv => h9.cell j v hv) rfl rfl rfl rfl rfl rfl ?_)
  obtain rfl : i = t.kids.length := by omega
  rw [List.take_of_length_le (Nat.le_refl _)] at ho
  obtain ⟨av, cv, rfl, hcv⟩ := ho.val
  have hml : (t.kids.map (putF o n s)).length = t.kids.length := List.length_map _
  refine l_cons (o_st tbOk h8.box rfl rfl rfl rfl (by intro u hu; simp [Value.cells] at hu; rcases hu with rfl | rfl | rfl | rfl <;> rfl) rfl rfl ?_)
  intro w22 hw22 qw22 bew22
  have uw22 : UpdB _ _ _ := ⟨qw22, bew22⟩
  have sw22 := uw22.stp h8.inM hlow h8.ge
  have frw22 := qw22.2
  replace ho := ho.stp sw22 (fun x hx => frw22 x (ho.lt x hx).2 (d_ho_h8 x hx))
  replace h9 := h9.stp sw22 (frw22 b9 h9.lt ne_h8_h9.symm)
  replace hE := hE.trans sw22.below
  replace h4 := h4.stp sw22
  replace hk := hk.stp sw22
  replace h7 := h7.stp sw22
  replace hs := Rep.stp hs sw22
  replace hsub := fun b h => sw22.sub b (hsub b h)
  replace hlow := sw22.low
  replace hB := Nat.le_trans hB sw22.upd.1
  replace h8 : MB w.heap.size _ w22 b8 _ [.int .u8 t.op, .string t.name, .int .i64 t.n, .slice av (t.kids.map (putF o n s)).length cv] := ⟨hw22, h8.inM, h8.ge⟩
  refine q1 (c_ret ?_)
  refine x_ret1s tbOk (fun j v hv => h8.cell j v hv) rfl rfl rfl rfl rfl ?_
  have hfin := ty_mk op nm n64 (ho.sl (by omega) hlow0 hsub)
  rw [← put_no (by clear ih; simp_all)] at hfin
  exact ⟨hfin, hE⟩

/-- kinds.Fun: a type's type. -/
theorem fun_own (t s : Ty) (M : Nat → Prop) (w : World) (v u : Value) (ht : Rep.R M w v t) (hs : Rep.R M w u s) (hlow0 : Low M w) (hzt : psz t ≤ 2000000) (hzs : psz s ≤ 2000000) :
    Calls Try.prog 30 #[v, u] w (Ret fun r w' => OTy 25 w.heap.size w' (Ty.mk 4 ⟨#[]⟩ 0 [t, s]) r (Plus NoM w w') ∧ Ext w w') := by
  have hlow := hlow0
  have hB : w.heap.size ≤ w.heap.size := Nat.le_refl _
  have hE : Below w.heap.size w w := Below.refl _ _
  have hsub : ∀ b, M b → M b := fun _ h => h
  obtain ⟨kvt, rfl, opt, nmt, n64t, hkt⟩ := ty_open ht
  obtain ⟨kvs, rfl, ops, nms, n64s, hks⟩ := ty_open hs
  refine c_enter (n := 11) Try.func30 rfl rfl rfl ?_
  refine q0 ?_
  refine l_cons (o_box rfl rfl rfl ?_)
  intro b5 w1 hb_b5 ew1 h5
  replace h5 : Box _ b5 25 [.int .u8 t.op, .string t.name, .int .i64 t.n, kvt] := h5
  replace h5 := h5.at (nM_of hlow hb_b5)
  replace hE := hE.trans (Below.mono ew1 hB)
  replace ht := Rep.ext ht ew1
  replace hkt := hkt.ext ew1
  replace hs := Rep.ext hs ew1
  replace hks := hks.ext ew1
  replace hlow := hlow.ext ew1
  replace hB := Nat.le_trans hB ew1.size
  refine l_cons (o_box rfl rfl rfl ?_)
  intro b6 w2 hb_b6 ew2 h6
  replace h6 : Box _ b6 25 [.int .u8 s.op, .string s.name, .int .i64 s.n, kvs] := h6
  replace h6 := h6.at (nM_of hlow hb_b6)
  replace hE := hE.trans (Below.mono ew2 hB)
  replace ht := Rep.ext ht ew2
  replace hkt := hkt.ext ew2
  replace hs := Rep.ext hs ew2
  replace hks := hks.ext ew2
  replace h5 := h5.ext ew2
  replace hlow := hlow.ext ew2
  replace hB := Nat.le_trans hB ew2.size
  refine l_cons (o_new tbOk rfl rfl rfl ?_)
  intro b9 w3 qb9 ew3 hb9
  have sw3 := Stp.add ew3 hlow hB (Nat.le_of_eq qb9.symm) hb9.lt
  have h9 : MB w.heap.size (Rw.Add M b9) w3 b9 25 [.int .u8 0, .string ⟨#[]⟩, .int .i64 0, .slice none 0 0] := MB.mk' hb9 qb9 hB
  replace hE := hE.trans sw3.below
  replace ht := Rep.stp ht sw3
  replace hkt := hkt.stp sw3
  replace hs := Rep.stp hs sw3
  replace hks := hks.stp sw3
  replace h5 := h5.stp sw3
  replace h6 := h6.stp sw3
  replace hsub := fun b h => sw3.sub b (hsub b h)
  replace hlow := sw3.low
  replace hB := Nat.le_trans hB sw3.upd.1
  refine q1 (c_seq ?_)
  refine a_beg Ext rfl ?_
  intro w4 ew4
  replace h9 := h9.ext hlow hB ew4
  replace hE := hE.trans (Below.mono ew4 hB)
  replace ht := Rep.ext ht ew4
  replace hkt := hkt.ext ew4
  replace hs := Rep.ext hs ew4
  replace hks := hks.ext ew4
  replace h5 := h5.ext ew4
  replace h6 := h6.ext ew4
  replace hlow := hlow.ext ew4
  replace hB := Nat.le_trans hB ew4.size
  have hS : Ext w4 w4 := ext_refl _
  have D_hkt := hkt
  have D_hks := hks
  have D_h5 := h5
  have D_h6 := h6
  have D_h9 := h9.box
  refine a_lds 0 tbOk (fun _ hs j v hv => (D_h5.ext hs).cell j v hv) rfl rfl rfl rfl rfl rfl rfl (by kernel_rfl) (fun _ _ _ h => h) hS ?_
  refine a_lds 2 tbOk (fun _ hs j v hv => (D_h6.ext hs).cell j v hv) rfl rfl rfl rfl rfl rfl rfl (by kernel_rfl) (fun _ _ _ h => h) hS ?_
  have l_h9 := h9.lt
  refine a_one 1 rfl (by kernel_rfl) (o_call fo67 rfl rfl rfl (copied_own t _ _ _ ht hlow hzt) ?_)
  rintro vct w5 ⟨hct, ew5⟩
  replace hct := hct.ge hB
  have hGlt : ∀ c, Plus NoM w4 w5 c → w4.heap.size ≤ c ∧ c < w5.heap.size := fun c h => h.elim (fun h => h.elim) id
  generalize Plus NoM w4 w5 = Gt at hct hGlt
  have sw5 := (Stp.ext ew5 hlow hB).more hGlt
  replace hS := hS.then ew5
  replace h9 := h9.stp sw5 (ew5.block b9 h9.lt)
  replace hE := hE.trans sw5.below
  replace ht := Rep.stp ht sw5
  replace hkt := hkt.stp sw5
  replace hs := Rep.stp hs sw5
  replace hks := hks.stp sw5
  replace h5 := h5.stp sw5
  replace h6 := h6.stp sw5
  replace hsub := fun b h => sw5.sub b (hsub b h)
  replace hlow := sw5.low
  replace hB := Nat.le_trans hB sw5.upd.1
  refine ⟨hS, ?_⟩
  have d_hct_h9 : ∀ x, Gt x → x ≠ b9 := fun x hx => by have := (hGlt x hx).1; omega
  have l_h9 := h9.lt
  have l_hct := hct.lt
  refine a_barS Ext 3 rfl (by kernel_rfl) (by kernel_rfl) (o_call fo67 rfl rfl rfl (copied_own s _ _ _ hs hlow hzs) ?_)
  rintro vcs w6 ⟨hcs, ew6⟩
  replace hcs := hcs.ge hB
  have hGls : ∀ c, Plus NoM w5 w6 c → w5.heap.size ≤ c ∧ c < w6.heap.size := fun c h => h.elim (fun h => h.elim) id
  generalize Plus NoM w5 w6 = Gs at hcs hGls
  have sw6 := (Stp.ext ew6 hlow hB).more hGls
  replace hS := hS.then ew6
  replace h9 := h9.stp sw6 (ew6.block b9 h9.lt)
  replace hct := hct.stp sw6 (fun x hx => ew6.block x (hct.lt x hx).2)
  replace hE := hE.trans sw6.below
  replace ht := Rep.stp ht sw6
  replace hkt := hkt.stp sw6
  replace hs := Rep.stp hs sw6
  replace hks := hks.stp sw6
  replace h5 := h5.stp sw6
  replace h6 := h6.stp sw6
  replace hsub := fun b h => sw6.sub b (hsub b h)
  replace hlow := sw6.low
  replace hB := Nat.le_trans hB sw6.upd.1
  replace hS : Ext w6 w6 := ext_refl _
  have d_hcs_h9 : ∀ x, Gs x → x ≠ b9 := fun x hx => by have := (hGls x hx).1; omega
  have D_hkt := hkt
  have D_hks := hks
  have D_h5 := h5
  have D_h6 := h6
  have D_h9 := h9.box
  have l_hct := hct.lt
  have l_hcs := hcs.lt
  have l9 := h9.lt
  have hB0 := hB
  refine a_barS Ext 4 rfl (by kernel_rfl) (by kernel_rfl) (o_bs tbOk rfl rfl rfl rfl rfl rfl rfl (sz2 hct.size hcs.size) rfl rfl rfl ?_)
  intro bw7 w7 qbw7 ew7 hbbw7
  have sw7 := Stp.add ew7 hlow hB (Nat.le_of_eq qbw7.symm) hbbw7.lt
  replace hS := hS.then ew7
  replace h9 := h9.stp sw7 (ew7.block b9 h9.lt)
  replace hct := hct.stp sw7 (fun x hx => ew7.block x (hct.lt x hx).2)
  replace hcs := hcs.stp sw7 (fun x hx => ew7.block x (hcs.lt x hx).2)
  replace hE := hE.trans sw7.below
  replace ht := Rep.stp ht sw7
  replace hkt := hkt.stp sw7
  replace hs := Rep.stp hs sw7
  replace hks := hks.stp sw7
  replace h5 := h5.stp sw7
  replace h6 := h6.stp sw7
  replace hsub := fun b h => sw7.sub b (hsub b h)
  replace hlow := sw7.low
  replace hB := Nat.le_trans hB sw7.upd.1
  replace hS : Ext w7 w7 := ext_refl _
  have hrs : Rs (α := VN 3) (fun c => c = bw7) w7 [vct, vcs] [⟨vct⟩, ⟨vcs⟩] := ⟨hct.vn, hcs.vn, trivial⟩
  have hown : OwnSl 25 w.heap.size (fun c => c = bw7) w7 (.slice (some ⟨bw7, 0, none⟩) 2 2) ([⟨vct⟩, ⟨vcs⟩] : List (VN 3)) := own_lit hbbw7 hrs rfl (by omega) (by simp [maxLen])
  have dcr : ∀ c, Gs c → ¬ (NoM c ∨ Gt c) := fun c hs ht => ht.elim id (fun ht => by have := hGls c hs; have := hGlt c ht; omega)
  have hts := ((ots_nil (E := 25) (B := w.heap.size) (w := w7) (F := NoM) (fun _ h => h.elim)).app hct (fun _ _ h => h)).app hcs dcr
  have hbl := hbbw7.lt
  have D_hkt := hkt
  have D_hks := hks
  have D_h5 := h5
  have D_h6 := h6
  have D_h9 := h9.box
  refine a_build (cells := [.int .u8 4, .string ⟨#[]⟩, .int .i64 0, .slice (some ⟨bw7, 0, none⟩) 2 2]) 5 bd25 rfl rfl rfl rfl rfl rfl (by kernel_rfl) (fun _ _ _ h => h) hS ?_
  have hnew : OTy 25 w.heap.size w7 (Ty.mk 4 ⟨#[]⟩ 0 [t, s]) (.agg #[.int .u8 4, .string ⟨#[]⟩, .int .i64 0, .slice (some ⟨bw7, 0, none⟩) 2 2]) (fun c => c = bw7 ∨ ((NoM c ∨ Gt c) ∨ Gs c)) := oty_mk (by decide) (by decide) ⟨by decide, by decide⟩ (by simp) (fun c hc2 => hc2.elim (fun h => by subst h; omega) (fun h => h.elim (fun h => h.elim (fun h => h.elim) (hct.lt c)) (hcs.lt c))) (hown.keepV (fun x hx => .inl (hown.inM x hx)) (fun _ _ _ _ _ => rfl)) hts (fun c hc2 => ⟨.inr hc2, fun e => by simp [Value.ownBlock] at e; subst e; exact (fun h => h.elim (fun h => h.elim id (fun h => by have := (l_hct _ h).2; omega)) (fun h => by have := (l_hcs _ h).2; omega)) hc2⟩)
  have d_hnew_h9 : ∀ x, (fun c => c = bw7 ∨ ((NoM c ∨ Gt c) ∨ Gs c)) x → x ≠ b9 := fun x hx => hx.elim (fun h => by omega) (fun h => h.elim (fun h => h.elim (fun h => h.elim) (d_hct_h9 x)) (d_hcs_h9 x))
  refine a_barS Ext 6 rfl (by kernel_rfl) (by kernel_rfl) (o_st tbOk h9.box rfl rfl rfl rfl (by intro u hu; simp [Value.cells] at hu; rcases hu with rfl | rfl | rfl | rfl <;> rfl) rfl rfl ?_)
  intro w8 hw8 qw8 bew8
  have uw8 : UpdB _ _ _ := ⟨qw8, bew8⟩
  have sw8 := uw8.stp h9.inM hlow h9.ge
  have frw8 := qw8.2
  replace hnew := hnew.stp sw8 (fun x hx => frw8 x (hnew.lt x hx).2 (d_hnew_h9 x hx))
  replace hE := hE.trans sw8.below
  replace ht := Rep.stp ht sw8
  replace hkt := hkt.stp sw8
  replace hs := Rep.stp hs sw8
  replace hks := hks.stp sw8
  replace h5 := h5.stp sw8
  replace h6 := h6.stp sw8
  replace hsub := fun b h => sw8.sub b (hsub b h)
  replace hlow := sw8.low
  replace hB := Nat.le_trans hB sw8.upd.1
  replace hS : Ext w8 w8 := ext_refl _
  replace h9 : MB w.heap.size _ w8 b9 _ [.int .u8 4, .string ⟨#[]⟩, .int .i64 0, .slice (some ⟨bw7, 0, none⟩) 2 2] := ⟨hw8, h9.inM, h9.ge⟩
  have D_hkt := hkt
  have D_hks := hks
  have D_h5 := h5
  have D_h6 := h6
  have D_h9 := h9.box
  refine a_end (by kernel_rfl) ?_
  refine x_seq (c_ret ?_)
  refine x_ret1s tbOk (fun j v hv => h9.cell j v hv) rfl rfl rfl rfl rfl ?_
  exact ⟨hnew.mono (fun c hc => .inr (hnew.lt c hc)) (fun c hc => hc.elim (fun h => h.elim) id), hE⟩

/-- kinds.Rec: a type's type. -/
theorem rec_own (t : Ty) (M : Nat → Prop) (w : World) (v : Value) (ht : Rep.R M w v t) (hlow0 : Low M w) (hzt : psz t ≤ 2000000) :
    Calls Try.prog 31 #[v] w (Ret fun r w' => OTy 25 w.heap.size w' (Ty.mk 5 ⟨#[]⟩ 0 [t]) r (Plus NoM w w') ∧ Ext w w') := by
  have hlow := hlow0
  have hB : w.heap.size ≤ w.heap.size := Nat.le_refl _
  have hE : Below w.heap.size w w := Below.refl _ _
  have hsub : ∀ b, M b → M b := fun _ h => h
  obtain ⟨kvt, rfl, opt, nmt, n64t, hkt⟩ := ty_open ht
  refine c_enter (n := 7) Try.func31 rfl rfl rfl ?_
  refine q0 ?_
  refine l_cons (o_box rfl rfl rfl ?_)
  intro b5 w1 hb_b5 ew1 h5
  replace h5 : Box _ b5 25 [.int .u8 t.op, .string t.name, .int .i64 t.n, kvt] := h5
  replace h5 := h5.at (nM_of hlow hb_b5)
  replace hE := hE.trans (Below.mono ew1 hB)
  replace ht := Rep.ext ht ew1
  replace hkt := hkt.ext ew1
  replace hlow := hlow.ext ew1
  replace hB := Nat.le_trans hB ew1.size
  refine l_cons (o_new tbOk rfl rfl rfl ?_)
  intro b9 w2 qb9 ew2 hb9
  have sw2 := Stp.add ew2 hlow hB (Nat.le_of_eq qb9.symm) hb9.lt
  have h9 : MB w.heap.size (Rw.Add M b9) w2 b9 25 [.int .u8 0, .string ⟨#[]⟩, .int .i64 0, .slice none 0 0] := MB.mk' hb9 qb9 hB
  replace hE := hE.trans sw2.below
  replace ht := Rep.stp ht sw2
  replace hkt := hkt.stp sw2
  replace h5 := h5.stp sw2
  replace hsub := fun b h => sw2.sub b (hsub b h)
  replace hlow := sw2.low
  replace hB := Nat.le_trans hB sw2.upd.1
  refine q1 (q0 ?_)
  refine l_cons (o_lds tbOk (fun j v hv => h5.cell j v hv) rfl rfl rfl rfl rfl rfl ?_)
  have l_h9 := h9.lt
  refine l_cons (o_call fo67 rfl rfl rfl (copied_own t _ _ _ ht hlow hzt) ?_)
  rintro vct w3 ⟨hct, ew3⟩
  replace hct := hct.ge hB
  have hGlt : ∀ c, Plus NoM w2 w3 c → w2.heap.size ≤ c ∧ c < w3.heap.size := fun c h => h.elim (fun h => h.elim) id
  generalize Plus NoM w2 w3 = Gt at hct hGlt
  have sw3 := (Stp.ext ew3 hlow hB).more hGlt
  replace h9 := h9.stp sw3 (ew3.block b9 h9.lt)
  replace hE := hE.trans sw3.below
  replace ht := Rep.stp ht sw3
  replace hkt := hkt.stp sw3
  replace h5 := h5.stp sw3
  replace hsub := fun b h => sw3.sub b (hsub b h)
  replace hlow := sw3.low
  replace hB := Nat.le_trans hB sw3.upd.1
  have d_hct_h9 : ∀ x, Gt x → x ≠ b9 := fun x hx => by have := (hGlt x hx).1; omega
  have l_hct := hct.lt
  have l9 := h9.lt
  have hB0 := hB
  refine l_cons (o_bs tbOk rfl rfl rfl rfl rfl rfl rfl (sz1 hct.size) rfl rfl rfl ?_)
  intro bw4 w4 qbw4 ew4 hbbw4
  have sw4 := Stp.add ew4 hlow hB (Nat.le_of_eq qbw4.symm) hbbw4.lt
  replace h9 := h9.stp sw4 (ew4.block b9 h9.lt)
  replace hct := hct.stp sw4 (fun x hx => ew4.block x (hct.lt x hx).2)
  replace hE := hE.trans sw4.below
  replace ht := Rep.stp ht sw4
  replace hkt := hkt.stp sw4
  replace h5 := h5.stp sw4
  replace hsub := fun b h => sw4.sub b (hsub b h)
  replace hlow := sw4.low
  replace hB := Nat.le_trans hB sw4.upd.1
  have hrs : Rs (α := VN 3) (fun c => c = bw4) w4 [vct] [⟨vct⟩] := ⟨hct.vn, trivial⟩
  have hown : OwnSl 25 w.heap.size (fun c => c = bw4) w4 (.slice (some ⟨bw4, 0, none⟩) 1 1) ([⟨vct⟩] : List (VN 3)) := own_lit hbbw4 hrs rfl (by omega) (by simp [maxLen])
  have hts := (ots_nil (E := 25) (B := w.heap.size) (w := w4) (F := NoM) (fun _ h => h.elim)).app hct (fun _ _ h => h)
  have hbl := hbbw4.lt
  refine l_cons (o_build (cells := [.int .u8 5, .string ⟨#[]⟩, .int .i64 0, .slice (some ⟨bw4, 0, none⟩) 1 1]) bd25 rfl rfl rfl rfl rfl ?_)
  have hnew : OTy 25 w.heap.size w4 (Ty.mk 5 ⟨#[]⟩ 0 [t]) (.agg #[.int .u8 5, .string ⟨#[]⟩, .int .i64 0, .slice (some ⟨bw4, 0, none⟩) 1 1]) (fun c => c = bw4 ∨ (NoM c ∨ Gt c)) := oty_mk (by decide) (by decide) ⟨by decide, by decide⟩ (by simp) (fun c hc2 => hc2.elim (fun h => by subst h; omega) (fun h => h.elim (fun h => h.elim) (hct.lt c))) (hown.keepV (fun x hx => .inl (hown.inM x hx)) (fun _ _ _ _ _ => rfl)) hts (fun c hc2 => ⟨.inr hc2, fun e => by simp [Value.ownBlock] at e; subst e; exact (fun h => h.elim id (fun h => by have := (l_hct _ h).2; omega)) hc2⟩)
  have d_hnew_h9 : ∀ x, (fun c => c = bw4 ∨ (NoM c ∨ Gt c)) x → x ≠ b9 := fun x hx => hx.elim (fun h => by omega) (fun h => h.elim (fun h => h.elim) (d_hct_h9 x))
  refine l_cons (o_st tbOk h9.box rfl rfl rfl rfl (by intro u hu; simp [Value.cells] at hu; rcases hu with rfl | rfl | rfl | rfl <;> rfl) rfl rfl ?_)
  intro w5 hw5 qw5 bew5
  have uw5 : UpdB _ _ _ := ⟨qw5, bew5⟩
  have sw5 := uw5.stp h9.inM hlow h9.ge
  have frw5 := qw5.2
  replace hnew := hnew.stp sw5 (fun x hx => frw5 x (hnew.lt x hx).2 (d_hnew_h9 x hx))
  replace hE := hE.trans sw5.below
  replace ht := Rep.stp ht sw5
  replace hkt := hkt.stp sw5
  replace h5 := h5.stp sw5
  replace hsub := fun b h => sw5.sub b (hsub b h)
  replace hlow := sw5.low
  replace hB := Nat.le_trans hB sw5.upd.1
  replace h9 : MB w.heap.size _ w5 b9 _ [.int .u8 5, .string ⟨#[]⟩, .int .i64 0, .slice (some ⟨bw4, 0, none⟩) 1 1] := ⟨hw5, h9.inM, h9.ge⟩
  refine q1 (c_ret ?_)
  refine x_ret1s tbOk (fun j v hv => h9.cell j v hv) rfl rfl rfl rfl rfl ?_
  exact ⟨hnew.mono (fun c hc => .inr (hnew.lt c hc)) (fun c hc => hc.elim (fun h => h.elim) id), hE⟩

/-- kinds.Vnt: a type's type. -/
theorem vnt_own (t : Ty) (M : Nat → Prop) (w : World) (v : Value) (ht : Rep.R M w v t) (hlow0 : Low M w) (hzt : psz t ≤ 2000000) :
    Calls Try.prog 32 #[v] w (Ret fun r w' => OTy 25 w.heap.size w' (Ty.mk 6 ⟨#[]⟩ 0 [t]) r (Plus NoM w w') ∧ Ext w w') := by
  have hlow := hlow0
  have hB : w.heap.size ≤ w.heap.size := Nat.le_refl _
  have hE : Below w.heap.size w w := Below.refl _ _
  have hsub : ∀ b, M b → M b := fun _ h => h
  obtain ⟨kvt, rfl, opt, nmt, n64t, hkt⟩ := ty_open ht
  refine c_enter (n := 7) Try.func32 rfl rfl rfl ?_
  refine q0 ?_
  refine l_cons (o_box rfl rfl rfl ?_)
  intro b5 w1 hb_b5 ew1 h5
  replace h5 : Box _ b5 25 [.int .u8 t.op, .string t.name, .int .i64 t.n, kvt] := h5
  replace h5 := h5.at (nM_of hlow hb_b5)
  replace hE := hE.trans (Below.mono ew1 hB)
  replace ht := Rep.ext ht ew1
  replace hkt := hkt.ext ew1
  replace hlow := hlow.ext ew1
  replace hB := Nat.le_trans hB ew1.size
  refine l_cons (o_new tbOk rfl rfl rfl ?_)
  intro b9 w2 qb9 ew2 hb9
  have sw2 := Stp.add ew2 hlow hB (Nat.le_of_eq qb9.symm) hb9.lt
  have h9 : MB w.heap.size (Rw.Add M b9) w2 b9 25 [.int .u8 0, .string ⟨#[]⟩, .int .i64 0, .slice none 0 0] := MB.mk' hb9 qb9 hB
  replace hE := hE.trans sw2.below
  replace ht := Rep.stp ht sw2
  replace hkt := hkt.stp sw2
  replace h5 := h5.stp sw2
  replace hsub := fun b h => sw2.sub b (hsub b h)
  replace hlow := sw2.low
  replace hB := Nat.le_trans hB sw2.upd.1
  refine q1 (q0 ?_)
  refine l_cons (o_lds tbOk (fun j v hv => h5.cell j v hv) rfl rfl rfl rfl rfl rfl ?_)
  have l_h9 := h9.lt
  refine l_cons (o_call fo67 rfl rfl rfl (copied_own t _ _ _ ht hlow hzt) ?_)
  rintro vct w3 ⟨hct, ew3⟩
  replace hct := hct.ge hB
  have hGlt : ∀ c, Plus NoM w2 w3 c → w2.heap.size ≤ c ∧ c < w3.heap.size := fun c h => h.elim (fun h => h.elim) id
  generalize Plus NoM w2 w3 = Gt at hct hGlt
  have sw3 := (Stp.ext ew3 hlow hB).more hGlt
  replace h9 := h9.stp sw3 (ew3.block b9 h9.lt)
  replace hE := hE.trans sw3.below
  replace ht := Rep.stp ht sw3
  replace hkt := hkt.stp sw3
  replace h5 := h5.stp sw3
  replace hsub := fun b h => sw3.sub b (hsub b h)
  replace hlow := sw3.low
  replace hB := Nat.le_trans hB sw3.upd.1
  have d_hct_h9 : ∀ x, Gt x → x ≠ b9 := fun x hx => by have := (hGlt x hx).1; omega
  have l_hct := hct.lt
  have l9 := h9.lt
  have hB0 := hB
  refine l_cons (o_bs tbOk rfl rfl rfl rfl rfl rfl rfl (sz1 hct.size) rfl rfl rfl ?_)
  intro bw4 w4 qbw4 ew4 hbbw4
  have sw4 := Stp.add ew4 hlow hB (Nat.le_of_eq qbw4.symm) hbbw4.lt
  replace h9 := h9.stp sw4 (ew4.block b9 h9.lt)
  replace hct := hct.stp sw4 (fun x hx => ew4.block x (hct.lt x hx).2)
  replace hE := hE.trans sw4.below
  replace ht := Rep.stp ht sw4
  replace hkt := hkt.stp sw4
  replace h5 := h5.stp sw4
  replace hsub := fun b h => sw4.sub b (hsub b h)
  replace hlow := sw4.low
  replace hB := Nat.le_trans hB sw4.upd.1
  have hrs : Rs (α := VN 3) (fun c => c = bw4) w4 [vct] [⟨vct⟩] := ⟨hct.vn, trivial⟩
  have hown : OwnSl 25 w.heap.size (fun c => c = bw4) w4 (.slice (some ⟨bw4, 0, none⟩) 1 1) ([⟨vct⟩] : List (VN 3)) := own_lit hbbw4 hrs rfl (by omega) (by simp [maxLen])
  have hts := (ots_nil (E := 25) (B := w.heap.size) (w := w4) (F := NoM) (fun _ h => h.elim)).app hct (fun _ _ h => h)
  have hbl := hbbw4.lt
  refine l_cons (o_build (cells := [.int .u8 6, .string ⟨#[]⟩, .int .i64 0, .slice (some ⟨bw4, 0, none⟩) 1 1]) bd25 rfl rfl rfl rfl rfl ?_)
  have hnew : OTy 25 w.heap.size w4 (Ty.mk 6 ⟨#[]⟩ 0 [t]) (.agg #[.int .u8 6, .string ⟨#[]⟩, .int .i64 0, .slice (some ⟨bw4, 0, none⟩) 1 1]) (fun c => c = bw4 ∨ (NoM c ∨ Gt c)) := oty_mk (by decide) (by decide) ⟨by decide, by decide⟩ (by simp) (fun c hc2 => hc2.elim (fun h => by subst h; omega) (fun h => h.elim (fun h => h.elim) (hct.lt c))) (hown.keepV (fun x hx => .inl (hown.inM x hx)) (fun _ _ _ _ _ => rfl)) hts (fun c hc2 => ⟨.inr hc2, fun e => by simp [Value.ownBlock] at e; subst e; exact (fun h => h.elim id (fun h => by have := (l_hct _ h).2; omega)) hc2⟩)
  have d_hnew_h9 : ∀ x, (fun c => c = bw4 ∨ (NoM c ∨ Gt c)) x → x ≠ b9 := fun x hx => hx.elim (fun h => by omega) (fun h => h.elim (fun h => h.elim) (d_hct_h9 x))
  refine l_cons (o_st tbOk h9.box rfl rfl rfl rfl (by intro u hu; simp [Value.cells] at hu; rcases hu with rfl | rfl | rfl | rfl <;> rfl) rfl rfl ?_)
  intro w5 hw5 qw5 bew5
  have uw5 : UpdB _ _ _ := ⟨qw5, bew5⟩
  have sw5 := uw5.stp h9.inM hlow h9.ge
  have frw5 := qw5.2
  replace hnew := hnew.stp sw5 (fun x hx => frw5 x (hnew.lt x hx).2 (d_hnew_h9 x hx))
  replace hE := hE.trans sw5.below
  replace ht := Rep.stp ht sw5
  replace hkt := hkt.stp sw5
  replace h5 := h5.stp sw5
  replace hsub := fun b h => sw5.sub b (hsub b h)
  replace hlow := sw5.low
  replace hB := Nat.le_trans hB sw5.upd.1
  replace h9 : MB w.heap.size _ w5 b9 _ [.int .u8 6, .string ⟨#[]⟩, .int .i64 0, .slice (some ⟨bw4, 0, none⟩) 1 1] := ⟨hw5, h9.inM, h9.ge⟩
  refine q1 (c_ret ?_)
  refine x_ret1s tbOk (fun j v hv => h9.cell j v hv) rfl rfl rfl rfl rfl ?_
  exact ⟨hnew.mono (fun c hc => .inr (hnew.lt c hc)) (fun c hc => hc.elim (fun h => h.elim) id), hE⟩

end Go.Proofs.Ytpoahmeacjggfaa
