/- Walks: laws of the relations between types. Printed by wip/walks/prec6.py. -/
import Derived.Test.YtpoahmeacjggfaaPc
import Derived.Test.YtpoahmeacjggfaaPe
import Derived.Test.YtpoahmeacjggfaaPlainRb
namespace Go.Proofs.Ytpoahmeacjggfaa
open Go Rw Go.RowKit
set_option maxRecDepth 100000
set_option maxHeartbeats 1000000

/-- PrecOrder: true. -/
theorem precOrder_spec (t : Ty) (b c : List UInt8) (u : Ty) (M : Nat → Prop) (w : World) (v bv cv uv : Value) (ht : Rep.R M w v t) (hb : Sl M w bv b) (hc : Sl M w cv c) (hu : Rep.R M w uv u) (hpt : psz t ≤ 2000000) (hpu : psz u ≤ 2000000) (hlow : Low M w) :
    Calls Try.prog 11 #[v, bv, cv, uv] w (Ret fun r w' => r = .bool true ∧ Ext w w') := by
  have hE : Below w.heap.size w w := Below.refl _ _
  have hB : w.heap.size ≤ w.heap.size := Nat.le_refl _
  obtain ⟨kv, rfl, op, nm, n64, hk⟩ := ty_open ht
  obtain ⟨kvu, rfl, opu, nmu, n64u, hku⟩ := ty_open hu
  refine c_enter (n := 104) Try.func11 rfl rfl rfl ?_
  refine q0 ?_
  refine l_cons (o_box rfl rfl rfl ?_)
  intro b4 w1 hb_b4 ew1 h4
  replace h4 : Box _ b4 25 [.int .u8 t.op, .string t.name, .int .i64 t.n, kv] := h4
  replace h4 := h4.at (nM_of hlow hb_b4)
  replace hE := hE.trans (Below.mono ew1 hB)
  replace ht := Rep.ext ht ew1
  replace hk := hk.ext ew1
  replace hb := hb.ext ew1
  replace hc := hc.ext ew1
  replace hu := Rep.ext hu ew1
  replace hku := hku.ext ew1
  replace hlow := hlow.ext ew1
  replace hB := Nat.le_trans hB ew1.size
  refine l_cons (o_box rfl rfl rfl ?_)
  intro b7 w2 hb_b7 ew2 h7
  replace h7 : Box _ b7 25 [.int .u8 u.op, .string u.name, .int .i64 u.n, kvu] := h7
  replace h7 := h7.at (nM_of hlow hb_b7)
  replace hE := hE.trans (Below.mono ew2 hB)
  replace ht := Rep.ext ht ew2
  replace hk := hk.ext ew2
  replace hb := hb.ext ew2
  replace hc := hc.ext ew2
  replace hu := Rep.ext hu ew2
  replace hku := hku.ext ew2
  replace h4 := h4.ext ew2
  replace hlow := hlow.ext ew2
  replace hB := Nat.le_trans hB ew2.size
  refine l_p 1 tbOk rfl (q1 (c_seq (q0 ?_)))
  refine l_cons (o_call fo38 rfl rfl rfl (alive08_spec M _ hlow) ?_)
  rintro _ w3 ⟨rfl, ew3⟩
  replace hE := hE.trans (Below.mono ew3 hB)
  replace ht := Rep.ext ht ew3
  replace hk := hk.ext ew3
  replace hb := hb.ext ew3
  replace hc := hc.ext ew3
  replace hu := Rep.ext hu ew3
  replace hku := hku.ext ew3
  replace h4 := h4.ext ew3
  replace h7 := h7.ext ew3
  replace hlow := hlow.ext ew3
  replace hB := Nat.le_trans hB ew3.size
  refine l_p 1 tbOk rfl (q1 ?_)
  refine c_ifB _ rfl (fun c1 => ?_) (fun c1 => ?_)
  · exact absurd c1 (by simp)
  refine c_skip (x_seq (c_seq (q0 ?_)))
  refine l_cons (o_lds tbOk (fun j v hv => h4.cell j v hv) rfl rfl rfl rfl rfl rfl ?_)
  refine l_cons (o_call fo39 rfl rfl rfl (many08_spec t _ _ _ ht hlow hpt) ?_)
  rintro _ w4 ⟨rfl, ew4⟩
  replace hE := hE.trans (Below.mono ew4 hB)
  replace ht := Rep.ext ht ew4
  replace hk := hk.ext ew4
  replace hb := hb.ext ew4
  replace hc := hc.ext ew4
  replace hu := Rep.ext hu ew4
  replace hku := hku.ext ew4
  replace h4 := h4.ext ew4
  replace h7 := h7.ext ew4
  replace hlow := hlow.ext ew4
  replace hB := Nat.le_trans hB ew4.size
  refine l_p 1 tbOk rfl ?_
  refine l_split 15 _ rfl (fun c2 => ?_) (fun c2 => ?_)
  · refine l_p 23 tbOk rfl (q1 (c_ifT rfl (q0 (l_p 1 tbOk rfl (q1 (c_ret (x_seqR (x_ret1 rfl rfl ?_))))))))
    exact ⟨by simp, hE⟩
  refine l_cons (o_lds tbOk (fun j v hv => h7.cell j v hv) rfl rfl rfl rfl rfl rfl ?_)
  refine l_cons (o_call fo39 rfl rfl rfl (many08_spec u _ _ _ hu hlow hpu) ?_)
  rintro _ w5 ⟨rfl, ew5⟩
  replace hE := hE.trans (Below.mono ew5 hB)
  replace ht := Rep.ext ht ew5
  replace hk := hk.ext ew5
  replace hb := hb.ext ew5
  replace hc := hc.ext ew5
  replace hu := Rep.ext hu ew5
  replace hku := hku.ext ew5
  replace h4 := h4.ext ew5
  replace h7 := h7.ext ew5
  replace hlow := hlow.ext ew5
  replace hB := Nat.le_trans hB ew5.size
  refine l_p 2 tbOk rfl ?_
  refine l_split 19 _ rfl (fun c3 => ?_) (fun c3 => ?_)
  · refine l_p 19 tbOk rfl (q1 (c_ifT rfl (q0 (l_p 1 tbOk rfl (q1 (c_ret (x_seqR (x_ret1 rfl rfl ?_))))))))
    exact ⟨by simp, hE⟩
  refine l_p 1 tbOk rfl ?_
  refine l_cons (o_len tbOk hb rfl rfl rfl rfl rfl ?_)
  refine l_p 3 tbOk rfl ?_
  refine l_splitP 24 _ rfl (fun c4 => ?_) (fun c4 => ?_)
  · refine l_p 14 tbOk rfl (q1 (c_ifT rfl (q0 (l_p 1 tbOk rfl (q1 (c_ret (x_seqR (x_ret1 rfl rfl ?_))))))))
    exact ⟨by simp, hE⟩
  refine l_p 1 tbOk rfl ?_
  refine l_cons (o_len tbOk hc rfl rfl rfl rfl rfl ?_)
  refine l_p 3 tbOk rfl ?_
  refine l_splitP 29 _ rfl (fun c5 => ?_) (fun c5 => ?_)
  · refine l_p 9 tbOk rfl (q1 (c_ifT rfl (q0 (l_p 1 tbOk rfl (q1 (c_ret (x_seqR (x_ret1 rfl rfl ?_))))))))
    exact ⟨by simp, hE⟩
  refine l_cons (o_lds tbOk (fun j v hv => h4.cell j v hv) rfl rfl rfl rfl rfl rfl ?_)
  refine l_cons (o_call fo17 rfl rfl rfl (refRight_spec t _ _ _ ht hlow hpt) ?_)
  rintro _ w6 ⟨rfl, ew6⟩
  replace hE := hE.trans (Below.mono ew6 hB)
  replace ht := Rep.ext ht ew6
  replace hk := hk.ext ew6
  replace hb := hb.ext ew6
  replace hc := hc.ext ew6
  replace hu := Rep.ext hu ew6
  replace hku := hku.ext ew6
  replace h4 := h4.ext ew6
  replace h7 := h7.ext ew6
  replace hlow := hlow.ext ew6
  replace hB := Nat.le_trans hB ew6.size
  refine l_p 3 tbOk rfl ?_
  refine l_splitB 34 _ rfl (fun c6 => ?_) (fun c6 => ?_)
  · refine l_p 4 tbOk rfl (q1 (c_ifT rfl (q0 (l_p 1 tbOk rfl (q1 (c_ret (x_seqR (x_ret1 rfl rfl ?_))))))))
    exact ⟨by simp, hE⟩
  refine l_cons (o_lds tbOk (fun j v hv => h7.cell j v hv) rfl rfl rfl rfl rfl rfl ?_)
  refine l_cons (o_call fo17 rfl rfl rfl (refRight_spec u _ _ _ hu hlow hpu) ?_)
  rintro _ w7 ⟨rfl, ew7⟩
  replace hE := hE.trans (Below.mono ew7 hB)
  replace ht := Rep.ext ht ew7
  replace hk := hk.ext ew7
  replace hb := hb.ext ew7
  replace hc := hc.ext ew7
  replace hu := Rep.ext hu ew7
  replace hku := hku.ext ew7
  replace h4 := h4.ext ew7
  replace h7 := h7.ext ew7
  replace hlow := hlow.ext ew7
  replace hB := Nat.le_trans hB ew7.size
  refine l_p 2 tbOk rfl (q1 ?_)
  refine c_ifB _ rfl (fun c7 => ?_) (fun c7 => ?_)
  · refine q0 (l_p 1 tbOk rfl (q1 (c_ret (x_seqR (x_ret1 rfl rfl ?_)))))
    exact ⟨by simp, hE⟩
  refine c_skip (x_seq (q0 ?_))
  refine l_cons (o_lds tbOk (fun j v hv => h4.cell j v hv) rfl rfl rfl rfl rfl rfl ?_)
  refine l_p 1 tbOk rfl ?_
  have hrt : rightB t = true := by assumption
  have hru : rightB u = true := by assumption
  have hrx := right_LoosF hrt b
  have hlx := less_LoosF hrt b
  have hpx : psz (LoosF t b) ≤ 2000000 := Nat.le_trans (psz_LoosF hrt b) hpt
  generalize hX : LoosF t b = x at hrx hlx hpx
  refine l_cons (o_call fo54 rfl rfl rfl (Loosen_own t b _ _ _ _ ht hb hlow hpt) ?_)
  rintro vx w8 ⟨hx, ew8⟩
  replace hx := hx.repNew hlow
  replace hE := hE.trans (Below.mono ew8 hB)
  replace ht := Rep.ext ht ew8
  replace hk := hk.ext ew8
  replace hb := hb.ext ew8
  replace hc := hc.ext ew8
  replace hu := Rep.ext hu ew8
  replace hku := hku.ext ew8
  replace h4 := h4.ext ew8
  replace h7 := h7.ext ew8
  replace hlow := hlow.ext ew8
  replace hB := Nat.le_trans hB ew8.size
  rw [hX] at hx
  obtain ⟨kvx, rfl, opx, nmx, n64x, hkx⟩ := ty_open hx
  refine l_cons (o_new tbOk rfl rfl rfl ?_)
  intro b9 w9 qb9 ew9 hb9
  have nb9 := nM_of hlow qb9
  refine l_cons (o_st tbOk hb9 rfl rfl rfl rfl (Rep.one hx) rfl rfl ?_)
  intro w10 h9 uw10 bew10
  have ew10 : Ext w8 w10 := ew9.trans (bew10 _ (Nat.le_of_eq qb9.symm))
  replace hE := hE.trans (Below.mono ew10 hB)
  replace ht := Rep.ext ht ew10
  replace hk := hk.ext ew10
  replace hb := hb.ext ew10
  replace hc := hc.ext ew10
  replace hu := Rep.ext hu ew10
  replace hku := hku.ext ew10
  replace h4 := h4.ext ew10
  replace h7 := h7.ext ew10
  replace hx := Rep.ext hx ew10
  replace hlow := hlow.ext ew10
  replace hB := Nat.le_trans hB ew10.size
  replace h9 : Box w10 b9 25 [.int .u8 x.op, .string x.name, .int .i64 x.n, kvx] := h9
  replace h9 := h9.at nb9
  refine q1 (q0 ?_)
  refine l_cons (o_lds tbOk (fun j v hv => h9.cell j v hv) rfl rfl rfl rfl rfl rfl ?_)
  refine l_p 1 tbOk rfl ?_
  have hry := right_LoosF hrx c
  have hly := less_LoosF hrx c
  have hpy : psz (LoosF x c) ≤ 2000000 := Nat.le_trans (psz_LoosF hrx c) hpx
  generalize hY : LoosF x c = y at hry hly hpy
  refine l_cons (o_call fo54 rfl rfl rfl (Loosen_own x c _ _ _ _ hx hc hlow hpx) ?_)
  rintro vy w11 ⟨hy, ew11⟩
  replace hy := hy.repNew hlow
  replace hE := hE.trans (Below.mono ew11 hB)
  replace ht := Rep.ext ht ew11
  replace hk := hk.ext ew11
  replace hb := hb.ext ew11
  replace hc := hc.ext ew11
  replace hu := Rep.ext hu ew11
  replace hku := hku.ext ew11
  replace h4 := h4.ext ew11
  replace h7 := h7.ext ew11
  replace hx := Rep.ext hx ew11
  replace h9 := h9.ext ew11
  replace hlow := hlow.ext ew11
  replace hB := Nat.le_trans hB ew11.size
  rw [hY] at hy
  have hlty := less_trans _ t x y (Nat.le_refl _) hrt hrx hry hlx hly
  obtain ⟨kvy, rfl, opy, nmy, n64y, hky⟩ := ty_open hy
  refine l_cons (o_new tbOk rfl rfl rfl ?_)
  intro b10 w12 qb10 ew12 hb10
  have nb10 := nM_of hlow qb10
  refine l_cons (o_st tbOk hb10 rfl rfl rfl rfl (Rep.one hy) rfl rfl ?_)
  intro w13 h10 uw13 bew13
  have ew13 : Ext w11 w13 := ew12.trans (bew13 _ (Nat.le_of_eq qb10.symm))
  replace hE := hE.trans (Below.mono ew13 hB)
  replace ht := Rep.ext ht ew13
  replace hk := hk.ext ew13
  replace hb := hb.ext ew13
  replace hc := hc.ext ew13
  replace hu := Rep.ext hu ew13
  replace hku := hku.ext ew13
  replace h4 := h4.ext ew13
  replace h7 := h7.ext ew13
  replace hx := Rep.ext hx ew13
  replace h9 := h9.ext ew13
  replace hy := Rep.ext hy ew13
  replace hlow := hlow.ext ew13
  replace hB := Nat.le_trans hB ew13.size
  replace h10 : Box w13 b10 25 [.int .u8 y.op, .string y.name, .int .i64 y.n, kvy] := h10
  replace h10 := h10.at nb10
  refine q1 (c_seq (q0 ?_))
  refine l_cons (o_lds tbOk (fun j v hv => h4.cell j v hv) rfl rfl rfl rfl rfl rfl ?_)
  refine l_cons (o_lds tbOk (fun j v hv => h9.cell j v hv) rfl rfl rfl rfl rfl rfl ?_)
  have k8 := lessP_spec t x _ _ _ _ ht hx hlow hpt hpx
  rw [asked_right hrt hrx] at k8
  rw [show holdsF true t x = true from hlx] at k8
  refine l_cons (o_call fo42 rfl rfl rfl (k8) ?_)
  rintro _ w14 ⟨rfl, ew14⟩
  replace hE := hE.trans (Below.mono ew14 hB)
  replace ht := Rep.ext ht ew14
  replace hk := hk.ext ew14
  replace hb := hb.ext ew14
  replace hc := hc.ext ew14
  replace hu := Rep.ext hu ew14
  replace hku := hku.ext ew14
  replace h4 := h4.ext ew14
  replace h7 := h7.ext ew14
  replace hx := Rep.ext hx ew14
  replace h9 := h9.ext ew14
  replace hy := Rep.ext hy ew14
  replace h10 := h10.ext ew14
  replace hlow := hlow.ext ew14
  replace hB := Nat.le_trans hB ew14.size
  refine l_p 2 tbOk rfl ?_
  refine l_cons (o_lds tbOk (fun j v hv => h9.cell j v hv) rfl rfl rfl rfl rfl rfl ?_)
  refine l_cons (o_lds tbOk (fun j v hv => h10.cell j v hv) rfl rfl rfl rfl rfl rfl ?_)
  have k9 := lessP_spec x y _ _ _ _ hx hy hlow hpx hpy
  rw [asked_right hrx hry] at k9
  rw [show holdsF true x y = true from hly] at k9
  refine l_cons (o_call fo42 rfl rfl rfl (k9) ?_)
  rintro _ w15 ⟨rfl, ew15⟩
  replace hE := hE.trans (Below.mono ew15 hB)
  replace ht := Rep.ext ht ew15
  replace hk := hk.ext ew15
  replace hb := hb.ext ew15
  replace hc := hc.ext ew15
  replace hu := Rep.ext hu ew15
  replace hku := hku.ext ew15
  replace h4 := h4.ext ew15
  replace h7 := h7.ext ew15
  replace hx := Rep.ext hx ew15
  replace h9 := h9.ext ew15
  replace hy := Rep.ext hy ew15
  replace h10 := h10.ext ew15
  replace hlow := hlow.ext ew15
  replace hB := Nat.le_trans hB ew15.size
  refine l_p 3 tbOk rfl ?_
  refine l_cons (o_lds tbOk (fun j v hv => h4.cell j v hv) rfl rfl rfl rfl rfl rfl ?_)
  refine l_cons (o_lds tbOk (fun j v hv => h10.cell j v hv) rfl rfl rfl rfl rfl rfl ?_)
  have k10 := lessP_spec t y _ _ _ _ ht hy hlow hpt hpy
  rw [asked_right hrt hry] at k10
  rw [show holdsF true t y = true from hlty] at k10
  refine l_cons (o_call fo42 rfl rfl rfl (k10) ?_)
  rintro _ w16 ⟨rfl, ew16⟩
  replace hE := hE.trans (Below.mono ew16 hB)
  replace ht := Rep.ext ht ew16
  replace hk := hk.ext ew16
  replace hb := hb.ext ew16
  replace hc := hc.ext ew16
  replace hu := Rep.ext hu ew16
  replace hku := hku.ext ew16
  replace h4 := h4.ext ew16
  replace h7 := h7.ext ew16
  replace hx := Rep.ext hx ew16
  replace h9 := h9.ext ew16
  replace hy := Rep.ext hy ew16
  replace h10 := h10.ext ew16
  replace hlow := hlow.ext ew16
  replace hB := Nat.le_trans hB ew16.size
  refine l_p 3 tbOk rfl ?_
  refine l_cons (o_lds tbOk (fun j v hv => h4.cell j v hv) rfl rfl rfl rfl rfl rfl ?_)
  refine l_cons (o_lds tbOk (fun j v hv => h10.cell j v hv) rfl rfl rfl rfl rfl rfl ?_)
  have k11 := consistent_spec t y _ _ _ _ ht hy hlow hpt hpy
  rw [asked_right hrt hry] at k11
  rw [show holdsF false t y = true from less_cons _ t y (Nat.le_refl _) hrt hry hlty] at k11
  refine l_cons (o_call fo40 rfl rfl rfl (k11) ?_)
  rintro _ w17 ⟨rfl, ew17⟩
  replace hE := hE.trans (Below.mono ew17 hB)
  replace ht := Rep.ext ht ew17
  replace hk := hk.ext ew17
  replace hb := hb.ext ew17
  replace hc := hc.ext ew17
  replace hu := Rep.ext hu ew17
  replace hku := hku.ext ew17
  replace h4 := h4.ext ew17
  replace h7 := h7.ext ew17
  replace hx := Rep.ext hx ew17
  replace h9 := h9.ext ew17
  replace hy := Rep.ext hy ew17
  replace h10 := h10.ext ew17
  replace hlow := hlow.ext ew17
  replace hB := Nat.le_trans hB ew17.size
  refine l_p 3 tbOk rfl ?_
  refine l_cons (o_lds tbOk (fun j v hv => h10.cell j v hv) rfl rfl rfl rfl rfl rfl ?_)
  refine l_cons (o_lds tbOk (fun j v hv => h4.cell j v hv) rfl rfl rfl rfl rfl rfl ?_)
  have k12 := consistent_spec y t _ _ _ _ hy ht hlow hpy hpt
  rw [asked_right hry hrt] at k12
  rw [show holdsF false y t = true from cons_symm _ t y (Nat.le_refl _) hrt hry (less_cons _ t y (Nat.le_refl _) hrt hry hlty)] at k12
  refine l_cons (o_call fo40 rfl rfl rfl (k12) ?_)
  rintro _ w18 ⟨rfl, ew18⟩
  replace hE := hE.trans (Below.mono ew18 hB)
  replace ht := Rep.ext ht ew18
  replace hk := hk.ext ew18
  replace hb := hb.ext ew18
  replace hc := hc.ext ew18
  replace hu := Rep.ext hu ew18
  replace hku := hku.ext ew18
  replace h4 := h4.ext ew18
  replace h7 := h7.ext ew18
  replace hx := Rep.ext hx ew18
  replace h9 := h9.ext ew18
  replace hy := Rep.ext hy ew18
  replace h10 := h10.ext ew18
  replace hlow := hlow.ext ew18
  replace hB := Nat.le_trans hB ew18.size
  refine l_p 3 tbOk rfl ?_
  refine l_cons (o_lds tbOk (fun j v hv => h4.cell j v hv) rfl rfl rfl rfl rfl rfl ?_)
  refine l_cons (o_lds tbOk (fun j v hv => h4.cell j v hv) rfl rfl rfl rfl rfl rfl ?_)
  have k13 := lessP_spec t t _ _ _ _ ht ht hlow hpt hpt
  rw [asked_right hrt hrt] at k13
  rw [show holdsF true t t = true from less_refl _ _ t (Nat.le_refl _) hrt] at k13
  refine l_cons (o_call fo42 rfl rfl rfl (k13) ?_)
  rintro _ w19 ⟨rfl, ew19⟩
  replace hE := hE.trans (Below.mono ew19 hB)
  replace ht := Rep.ext ht ew19
  replace hk := hk.ext ew19
  replace hb := hb.ext ew19
  replace hc := hc.ext ew19
  replace hu := Rep.ext hu ew19
  replace hku := hku.ext ew19
  replace h4 := h4.ext ew19
  replace h7 := h7.ext ew19
  replace hx := Rep.ext hx ew19
  replace h9 := h9.ext ew19
  replace hy := Rep.ext hy ew19
  replace h10 := h10.ext ew19
  replace hlow := hlow.ext ew19
  replace hB := Nat.le_trans hB ew19.size
  refine l_p 2 tbOk rfl (q1 (c_ifF rfl (c_skip (x_seq (c_seq (c_seq ?_))))))
  refine a_beg Ext rfl ?_
  intro w20 ew20
  replace hE := hE.trans (Below.mono ew20 hB)
  replace ht := Rep.ext ht ew20
  replace hk := hk.ext ew20
  replace hb := hb.ext ew20
  replace hc := hc.ext ew20
  replace hu := Rep.ext hu ew20
  replace hku := hku.ext ew20
  replace h4 := h4.ext ew20
  replace h7 := h7.ext ew20
  replace hx := Rep.ext hx ew20
  replace h9 := h9.ext ew20
  replace hy := Rep.ext hy ew20
  replace h10 := h10.ext ew20
  replace hlow := hlow.ext ew20
  replace hB := Nat.le_trans hB ew20.size
  have hS : Ext w20 w20 := ext_refl _
  have D_hk := hk
  have D_hb := hb
  have D_hc := hc
  have D_hku := hku
  have D_h4 := h4
  have D_h7 := h7
  have D_h9 := h9
  have D_h10 := h10
  refine a_lds 0 tbOk (fun _ hs j v hv => (D_h9.ext hs).cell j v hv) rfl rfl rfl rfl rfl rfl rfl (by kernel_rfl) (fun _ _ _ h => h) hS ?_
  refine a_lds 1 tbOk (fun _ hs j v hv => (D_h4.ext hs).cell j v hv) rfl rfl rfl rfl rfl rfl rfl (by kernel_rfl) (fun _ _ _ h => h) hS ?_
  refine a_lds 3 tbOk (fun _ hs j v hv => (D_h9.ext hs).cell j v hv) rfl rfl rfl rfl rfl rfl rfl (by kernel_rfl) (fun _ _ _ h => h) hS ?_
  refine a_lds 4 tbOk (fun _ hs j v hv => (D_h4.ext hs).cell j v hv) rfl rfl rfl rfl rfl rfl rfl (by kernel_rfl) (fun _ _ _ h => h) hS ?_
  have hXT : holdsF true x t = (@decide (canonF x = canonF t) (Classical.propDecidable _)) := by
    cases e : holdsF true x t with
    | true => rw [cl_true (less_anti _ x t (Nat.le_refl _) hrx hrt e hlx)]
    | false => rw [cl_false (fun h => by rw [same_less _ x t (Nat.le_refl _) hrx hrt h] at e; cases e)]
  have k14 := lessP_spec x t _ _ _ _ hx ht hlow hpx hpt
  rw [asked_right hrx hrt] at k14
  rw [hXT] at k14
  refine a_one 2 rfl (by kernel_rfl) (o_call fo42 rfl rfl rfl (k14) ?_)
  rintro _ w21 ⟨rfl, ew21⟩
  replace hS := hS.then ew21
  replace hE := hE.trans (Below.mono ew21 hB)
  replace ht := Rep.ext ht ew21
  replace hk := hk.ext ew21
  replace hb := hb.ext ew21
  replace hc := hc.ext ew21
  replace hu := Rep.ext hu ew21
  replace hku := hku.ext ew21
  replace h4 := h4.ext ew21
  replace h7 := h7.ext ew21
  replace hx := Rep.ext hx ew21
  replace h9 := h9.ext ew21
  replace hy := Rep.ext hy ew21
  replace h10 := h10.ext ew21
  replace hlow := hlow.ext ew21
  replace hB := Nat.le_trans hB ew21.size
  refine ⟨hS, ?_⟩
  refine a_bar 5 rfl (by kernel_rfl) (by kernel_rfl) (o_call fo37 rfl rfl rfl (refSame_spec x t _ _ _ _ _ _ hx ht (rightB_of hrx).1 (rightB_of hrt).1 hlow hpx hpt) ?_)
  rintro _ w22 ⟨rfl, ew22⟩
  replace hS := hS.then ew22
  replace hE := hE.trans (Below.mono ew22 hB)
  replace ht := Rep.ext ht ew22
  replace hk := hk.ext ew22
  replace hb := hb.ext ew22
  replace hc := hc.ext ew22
  replace hu := Rep.ext hu ew22
  replace hku := hku.ext ew22
  replace h4 := h4.ext ew22
  replace h7 := h7.ext ew22
  replace hx := Rep.ext hx ew22
  replace h9 := h9.ext ew22
  replace hy := Rep.ext hy ew22
  replace h10 := h10.ext ew22
  replace hlow := hlow.ext ew22
  replace hB := Nat.le_trans hB ew22.size
  refine a_bar 6 rfl (by kernel_rfl) (by kernel_rfl) (o_bne tbOk rfl rfl rfl rfl rfl rfl ?_)
  refine a_p 7 tbOk rfl rfl rfl rfl (by kernel_rfl) (fun _ _ _ h => h) hS ?_
  refine a_split 86 _ rfl (fun c15 => ?_) (fun c15 => ?_)
  · exact absurd c15 (by simp)
  refine a_lds 8 tbOk (fun _ hs j v hv => (D_h4.ext hs).cell j v hv) rfl rfl rfl rfl rfl rfl rfl (by kernel_rfl) (fun _ _ _ h => h) hS ?_
  refine a_lds 9 tbOk (fun _ hs j v hv => (D_h7.ext hs).cell j v hv) rfl rfl rfl rfl rfl rfl rfl (by kernel_rfl) (fun _ _ _ h => h) hS ?_
  refine a_lds 11 tbOk (fun _ hs j v hv => (D_h7.ext hs).cell j v hv) rfl rfl rfl rfl rfl rfl rfl (by kernel_rfl) (fun _ _ _ h => h) hS ?_
  refine a_lds 12 tbOk (fun _ hs j v hv => (D_h4.ext hs).cell j v hv) rfl rfl rfl rfl rfl rfl rfl (by kernel_rfl) (fun _ _ _ h => h) hS ?_
  have k16 := consistent_spec t u _ _ _ _ ht hu hlow hpt hpu
  rw [asked_right hrt hru] at k16
  refine a_one 10 rfl (by kernel_rfl) (o_call fo40 rfl rfl rfl (k16) ?_)
  rintro _ w23 ⟨rfl, ew23⟩
  replace hS := hS.then ew23
  replace hE := hE.trans (Below.mono ew23 hB)
  replace ht := Rep.ext ht ew23
  replace hk := hk.ext ew23
  replace hb := hb.ext ew23
  replace hc := hc.ext ew23
  replace hu := Rep.ext hu ew23
  replace hku := hku.ext ew23
  replace h4 := h4.ext ew23
  replace h7 := h7.ext ew23
  replace hx := Rep.ext hx ew23
  replace h9 := h9.ext ew23
  replace hy := Rep.ext hy ew23
  replace h10 := h10.ext ew23
  replace hlow := hlow.ext ew23
  replace hB := Nat.le_trans hB ew23.size
  refine ⟨hS, ?_⟩
  have k17 := consistent_spec u t _ _ _ _ hu ht hlow hpu hpt
  rw [asked_right hru hrt] at k17
  rw [cons_comm hru hrt] at k17
  refine a_bar 13 rfl (by kernel_rfl) (by kernel_rfl) (o_call fo40 rfl rfl rfl (k17) ?_)
  rintro _ w24 ⟨rfl, ew24⟩
  replace hS := hS.then ew24
  replace hE := hE.trans (Below.mono ew24 hB)
  replace ht := Rep.ext ht ew24
  replace hk := hk.ext ew24
  replace hb := hb.ext ew24
  replace hc := hc.ext ew24
  replace hu := Rep.ext hu ew24
  replace hku := hku.ext ew24
  replace h4 := h4.ext ew24
  replace h7 := h7.ext ew24
  replace hx := Rep.ext hx ew24
  replace h9 := h9.ext ew24
  replace hy := Rep.ext hy ew24
  replace h10 := h10.ext ew24
  replace hlow := hlow.ext ew24
  replace hB := Nat.le_trans hB ew24.size
  refine a_bar 14 rfl (by kernel_rfl) (by kernel_rfl) (o_bne tbOk rfl rfl rfl rfl rfl rfl ?_)
  refine a_p 15 tbOk rfl rfl rfl rfl (by kernel_rfl) (fun _ _ _ h => h) hS ?_
  refine a_end (by kernel_rfl) ?_
  refine x_seq ?_
  refine c_if _ rfl (fun c18 => ?_) (fun c18 => ?_)
  · exact absurd c18 (by simp)
  refine c_skip (x_seq (q0 ?_))
  refine l_cons (o_lds tbOk (fun j v hv => h4.cell j v hv) rfl rfl rfl rfl rfl rfl ?_)
  refine l_cons (o_lds tbOk (fun j v hv => h7.cell j v hv) rfl rfl rfl rfl rfl rfl ?_)
  have k19 := consistent_spec t u _ _ _ _ ht hu hlow hpt hpu
  rw [asked_right hrt hru] at k19
  refine l_cons (o_call fo40 rfl rfl rfl (k19) ?_)
  rintro _ w25 ⟨rfl, ew25⟩
  replace hE := hE.trans (Below.mono ew25 hB)
  replace ht := Rep.ext ht ew25
  replace hk := hk.ext ew25
  replace hb := hb.ext ew25
  replace hc := hc.ext ew25
  replace hu := Rep.ext hu ew25
  replace hku := hku.ext ew25
  replace h4 := h4.ext ew25
  replace h7 := h7.ext ew25
  replace hx := Rep.ext hx ew25
  replace h9 := h9.ext ew25
  replace hy := Rep.ext hy ew25
  replace h10 := h10.ext ew25
  replace hlow := hlow.ext ew25
  replace hB := Nat.le_trans hB ew25.size
  refine l_p 2 tbOk rfl ?_
  refine l_splitB 99 _ rfl (fun c20 => ?_) (fun c20 => ?_)
  · refine l_p 5 tbOk rfl (q1 (c_ret (x_ret1 rfl rfl ?_)))
    exact ⟨by simp, hE⟩
  refine l_cons (o_lds tbOk (fun j v hv => h9.cell j v hv) rfl rfl rfl rfl rfl rfl ?_)
  refine l_cons (o_lds tbOk (fun j v hv => h7.cell j v hv) rfl rfl rfl rfl rfl rfl ?_)
  have hxu : holdsF false x u = true := cons_mono _ t x u (Nat.le_refl _) hrt hrx hru hlx c20
  have k21 := consistent_spec x u _ _ _ _ hx hu hlow hpx hpu
  rw [asked_right hrx hru] at k21
  rw [show holdsF false x u = true from hxu] at k21
  refine l_cons (o_call fo40 rfl rfl rfl (k21) ?_)
  rintro _ w26 ⟨rfl, ew26⟩
  replace hE := hE.trans (Below.mono ew26 hB)
  replace ht := Rep.ext ht ew26
  replace hk := hk.ext ew26
  replace hb := hb.ext ew26
  replace hc := hc.ext ew26
  replace hu := Rep.ext hu ew26
  replace hku := hku.ext ew26
  replace h4 := h4.ext ew26
  replace h7 := h7.ext ew26
  replace hx := Rep.ext hx ew26
  replace h9 := h9.ext ew26
  replace hy := Rep.ext hy ew26
  replace h10 := h10.ext ew26
  replace hlow := hlow.ext ew26
  replace hB := Nat.le_trans hB ew26.size
  refine l_p 2 tbOk rfl (q1 (c_ret (x_ret1 rfl rfl ?_)))
  exact ⟨by simp, hE⟩

end Go.Proofs.Ytpoahmeacjggfaa
