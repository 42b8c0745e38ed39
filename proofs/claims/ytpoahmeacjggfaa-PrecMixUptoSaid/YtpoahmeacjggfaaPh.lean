/- Walks: laws of the relations between types. Printed by wip/walks/prec6.py. -/
import Derived.Test.YtpoahmeacjggfaaPc
import Derived.Test.YtpoahmeacjggfaaPe
import Derived.Test.YtpoahmeacjggfaaPlainRb
namespace Go.Proofs.Ytpoahmeacjggfaa
open Go Rw Go.RowKit
set_option maxRecDepth 100000
set_option maxHeartbeats 1000000

/-- PrecMix: true. -/
theorem precMix_spec (t : Ty) (b c d : List UInt8) (M : Nat → Prop) (w : World) (v bv cv dv : Value) (ht : Rep.R M w v t) (hb : Sl M w bv b) (hc : Sl M w cv c) (hd : Sl M w dv d) (hpt : psz t ≤ 2000000) (hlow : Low M w) :
    Calls Try.prog 12 #[v, bv, cv, dv] w (Ret fun r w' => r = .bool true ∧ Ext w w') := by
  have hlow0 := hlow
  have hlow := hlow
  have hB : w.heap.size ≤ w.heap.size := Nat.le_refl _
  have hE : Below w.heap.size w w := Below.refl _ _
  have hsub : ∀ b, M b → M b := fun _ h => h
  obtain ⟨kv, rfl, op, nm, n64, hk⟩ := ty_open ht
  have hbl := hb.lt
  have hcl := hc.lt
  have hdl := hd.lt
  refine c_enter (n := 59) Try.func12 rfl rfl rfl ?_
  refine q0 ?_
  refine l_cons (o_box rfl rfl rfl ?_)
  intro b4 w1 hb_b4 ew1 h4
  replace h4 : Box _ b4 25 [.int .u8 t.op, .string t.name, .int .i64 t.n, kv] := h4
  replace h4 := h4.at (nM_of hlow hb_b4)
  replace hE := hE.trans (Below.mono ew1 hB)
  replace ht := Rep.ext ht ew1
  replace hk := hk.ext ew1
  replace hb := hb.ext ew1
  replace hc := hc.ext ew1
  replace hd := hd.ext ew1
  replace hlow := hlow.ext ew1
  replace hB := Nat.le_trans hB ew1.size
  refine l_p 1 tbOk rfl (q1 (c_seq (q0 ?_)))
  refine l_cons (o_call fo38 rfl rfl rfl (alive08_spec _ _ hlow) ?_)
  rintro _ w2 ⟨rfl, ew2⟩
  replace hE := hE.trans (Below.mono ew2 hB)
  replace ht := Rep.ext ht ew2
  replace hk := hk.ext ew2
  replace hb := hb.ext ew2
  replace hc := hc.ext ew2
  replace hd := hd.ext ew2
  replace h4 := h4.ext ew2
  replace hlow := hlow.ext ew2
  replace hB := Nat.le_trans hB ew2.size
  refine l_p 1 tbOk rfl (q1 ?_)
  refine c_ifB _ rfl (fun c1 => ?_) (fun c1 => ?_)
  · exact absurd c1 (by simp)
  refine c_skip (x_seq (c_seq (q0 ?_)))
  refine l_cons (o_lds tbOk (fun j v hv => h4.cell j v hv) rfl rfl rfl rfl rfl rfl ?_)
  refine l_cons (o_call fo39 rfl rfl rfl (many08_spec t _ _ _ ht hlow hpt) ?_)
  rintro _ w3 ⟨rfl, ew3⟩
  replace hE := hE.trans (Below.mono ew3 hB)
  replace ht := Rep.ext ht ew3
  replace hk := hk.ext ew3
  replace hb := hb.ext ew3
  replace hc := hc.ext ew3
  replace hd := hd.ext ew3
  replace h4 := h4.ext ew3
  replace hlow := hlow.ext ew3
  replace hB := Nat.le_trans hB ew3.size
  refine l_p 1 tbOk rfl ?_
  refine l_split 16 _ rfl (fun c2 => ?_) (fun c2 => ?_)
  · refine l_p 15 tbOk rfl (q1 (c_ifT rfl (q0 (l_p 1 tbOk rfl (q1 (c_ret (x_seqR (x_ret1 rfl rfl ?_))))))))
    exact ⟨rfl, hE⟩
  refine l_p 1 tbOk rfl ?_
  refine l_cons (o_len tbOk hb rfl rfl rfl rfl rfl ?_)
  refine l_p 1 tbOk rfl ?_
  refine l_cons (o_len tbOk hc rfl rfl rfl rfl rfl ?_)
  refine l_cons (o_ar rfl rfl rfl (IntWalk.i64_in _ (by omega)) rfl rfl ?_)
  refine l_p 1 tbOk rfl ?_
  refine l_cons (o_len tbOk hd rfl rfl rfl rfl rfl ?_)
  refine l_cons (o_ar rfl rfl rfl (IntWalk.i64_in _ (by omega)) rfl rfl ?_)
  refine l_p 3 tbOk rfl ?_
  refine l_splitP 27 _ rfl (fun c3 => ?_) (fun c3 => ?_)
  · refine l_p 4 tbOk rfl (q1 (c_ifT rfl (q0 (l_p 1 tbOk rfl (q1 (c_ret (x_seqR (x_ret1 rfl rfl ?_))))))))
    exact ⟨rfl, hE⟩
  refine l_cons (o_lds tbOk (fun j v hv => h4.cell j v hv) rfl rfl rfl rfl rfl rfl ?_)
  refine l_cons (o_call fo17 rfl rfl rfl (refRight_spec t _ _ _ ht hlow hpt) ?_)
  rintro _ w4 ⟨rfl, ew4⟩
  replace hE := hE.trans (Below.mono ew4 hB)
  replace ht := Rep.ext ht ew4
  replace hk := hk.ext ew4
  replace hb := hb.ext ew4
  replace hc := hc.ext ew4
  replace hd := hd.ext ew4
  replace h4 := h4.ext ew4
  replace hlow := hlow.ext ew4
  replace hB := Nat.le_trans hB ew4.size
  refine l_p 2 tbOk rfl (q1 ?_)
  refine c_ifB _ rfl (fun c4 => ?_) (fun c4 => ?_)
  · refine q0 (l_p 1 tbOk rfl (q1 (c_ret (x_seqR (x_ret1 rfl rfl ?_)))))
    exact ⟨rfl, hE⟩
  refine c_skip (x_seq ?_)
  have hrt : rightB t = true := by assumption
  have hrx := right_LoosF hrt b
  have hlx := less_LoosF hrt b
  have hpx : psz (LoosF t b) ≤ 2000000 := Nat.le_trans (psz_LoosF hrt b) hpt
  generalize hX : LoosF t b = x at hrx hlx hpx
  have hry := right_LoosF hrt c
  have hly := less_LoosF hrt c
  have hpy : psz (LoosF t c) ≤ 2000000 := Nat.le_trans (psz_LoosF hrt c) hpt
  generalize hY : LoosF t c = y at hry hly hpy
  refine c_cut4 (X := Nat) (Y := Nat) (Z := Value) (U := Value) (fun b9 b10 kvx kvy => [(3, dv), (9, .pointer (some ⟨b9, 0, none⟩)), (10, .pointer (some ⟨b10, 0, none⟩))]) (fun b9 b10 kvx kvy w' => At M w' b9 0 [.int .u8 x.op, .string x.name, .int .i64 x.n, kvx] ∧ At M w' b10 0 [.int .u8 y.op, .string y.name, .int .i64 y.n, kvy] ∧ Rep.R M w' (.agg #[.int .u8 x.op, .string x.name, .int .i64 x.n, kvx]) x ∧ Rep.R M w' (.agg #[.int .u8 y.op, .string y.name, .int .i64 y.n, kvy]) y ∧ Sl M w' dv d ∧ Low M w' ∧ Below w.heap.size w w' ∧ w.heap.size ≤ w'.heap.size) ?_ ?_
  · refine a_beg Ext rfl ?_
    intro w5 ew5
    replace hE := hE.trans (Below.mono ew5 hB)
    replace ht := Rep.ext ht ew5
    replace hk := hk.ext ew5
    replace hb := hb.ext ew5
    replace hc := hc.ext ew5
    replace hd := hd.ext ew5
    replace h4 := h4.ext ew5
    replace hlow := hlow.ext ew5
    replace hB := Nat.le_trans hB ew5.size
    have hS : Ext w5 w5 := ext_refl _
    have D_hk := hk
    have D_hb := hb
    have D_hc := hc
    have D_hd := hd
    have D_h4 := h4
    refine a_lds 0 tbOk (fun _ hs j v hv => (D_h4.ext hs).cell j v hv) rfl rfl rfl rfl rfl rfl rfl (by kernel_rfl) (fun _ _ _ h => h) hS ?_
    refine a_p 1 tbOk rfl rfl rfl rfl (by kernel_rfl) (fun _ _ _ h => h) hS ?_
    refine a_lds 3 tbOk (fun _ hs j v hv => (D_h4.ext hs).cell j v hv) rfl rfl rfl rfl rfl rfl rfl (by kernel_rfl) (fun _ _ _ h => h) hS ?_
    refine a_p 4 tbOk rfl rfl rfl rfl (by kernel_rfl) (fun _ _ _ h => h) hS ?_
    refine a_all [2, 6, 7] (by kernel_rfl) rfl (all_cons (i := 2) rfl ?_ (all_cons (i := 6) rfl ?_ (all_cons (i := 7) rfl ?_ all_nil)))
    · refine o_call fo54 rfl rfl rfl (Loosen_own t b _ _ _ _ ht hb hlow hpt) ?_
      rintro vx w6 ⟨hx, ew6⟩
      replace hx := hx.repNew hlow
      replace hS := hS.then ew6
      replace hE := hE.trans (Below.mono ew6 hB)
      replace ht := Rep.ext ht ew6
      replace hk := hk.ext ew6
      replace hb := hb.ext ew6
      replace hc := hc.ext ew6
      replace hd := hd.ext ew6
      replace h4 := h4.ext ew6
      replace hlow := hlow.ext ew6
      replace hB := Nat.le_trans hB ew6.size
      refine ⟨hS, ?_⟩
      rw [hX] at hx
      obtain ⟨kvx, rfl, opx, nmx, n64x, hkx⟩ := ty_open hx
      refine a_all [5, 6, 7] (by kernel_rfl) rfl (all_cons (i := 5) rfl ?_ (all_cons (i := 6) rfl ?_ (all_cons (i := 7) rfl ?_ all_nil)))
      · refine o_call fo54 rfl rfl rfl (Loosen_own t c _ _ _ _ ht hc hlow hpt) ?_
        rintro vy w7 ⟨hy, ew7⟩
        replace hy := hy.repNew hlow
        replace hS := hS.then ew7
        replace hE := hE.trans (Below.mono ew7 hB)
        replace ht := Rep.ext ht ew7
        replace hk := hk.ext ew7
        replace hb := hb.ext ew7
        replace hc := hc.ext ew7
        replace hd := hd.ext ew7
        replace h4 := h4.ext ew7
        replace hx := Rep.ext hx ew7
        replace hlow := hlow.ext ew7
        replace hB := Nat.le_trans hB ew7.size
        refine ⟨hS, ?_⟩
        rw [hY] at hy
        obtain ⟨kvy, rfl, opy, nmy, n64y, hky⟩ := ty_open hy
        refine a_all [6, 7] (by kernel_rfl) rfl (all_cons (i := 6) rfl ?_ (all_cons (i := 7) rfl ?_ all_nil))
        · refine o_new tbOk rfl rfl rfl ?_
          intro b9 w8 qb9 ew8 hb9
          have gS_b9 := Nat.le_trans hS.size (Nat.le_of_eq qb9.symm)
          replace hS := hS.then ew8
          have sw8 := Stp.add ew8 hlow hB (Nat.le_of_eq qb9.symm) hb9.lt
          have h9 : MB w.heap.size (Rw.Add M b9) w8 b9 25 [.int .u8 0, .string ⟨#[]⟩, .int .i64 0, .slice none 0 0] := MB.mk' hb9 qb9 hB
          replace hE := hE.trans sw8.below
          replace ht := Rep.stp ht sw8
          replace hk := hk.stp sw8
          replace hb := hb.stp sw8
          replace hc := hc.stp sw8
          replace hd := hd.stp sw8
          replace h4 := h4.stp sw8
          replace hx := Rep.stp hx sw8
          replace hy := Rep.stp hy sw8
          replace hsub := fun b h => sw8.sub b (hsub b h)
          replace hlow := sw8.low
          replace hB := Nat.le_trans hB sw8.upd.1
          refine ⟨hS, ?_⟩
          refine a_one 7 rfl (by kernel_rfl) (o_new tbOk rfl rfl rfl ?_)
          intro b10 w9 qb10 ew9 hb10
          have gS_b10 := Nat.le_trans hS.size (Nat.le_of_eq qb10.symm)
          replace hS := hS.then ew9
          have ne_h9_h10 : b9 ≠ b10 := by have := h9.lt; omega
          have sw9 := Stp.add ew9 hlow hB (Nat.le_of_eq qb10.symm) hb10.lt
          have h10 : MB w.heap.size (Rw.Add (Rw.Add M b9) b10) w9 b10 25 [.int .u8 0, .string ⟨#[]⟩, .int .i64 0, .slice none 0 0] := MB.mk' hb10 qb10 hB
          replace h9 := h9.stp sw9 (ew9.block b9 h9.lt)
          replace hE := hE.trans sw9.below
          replace ht := Rep.stp ht sw9
          replace hk := hk.stp sw9
          replace hb := hb.stp sw9
          replace hc := hc.stp sw9
          replace hd := hd.stp sw9
          replace h4 := h4.stp sw9
          replace hx := Rep.stp hx sw9
          replace hy := Rep.stp hy sw9
          replace hsub := fun b h => sw9.sub b (hsub b h)
          replace hlow := sw9.low
          replace hB := Nat.le_trans hB sw9.upd.1
          refine ⟨hS, ?_⟩
          refine a_barS Ext 8 rfl (by kernel_rfl) (by kernel_rfl) (o_st tbOk h9.box rfl rfl rfl rfl (Rep.one hx) rfl rfl ?_)
          intro w10 hw10 qw10 bew10
          have uw10 : UpdB _ _ _ := ⟨qw10, bew10⟩
          have sw10 := uw10.stp h9.inM hlow h9.ge
          have frw10 := qw10.2
          replace h10 := h10.stp sw10 (frw10 b10 h10.lt ne_h9_h10.symm)
          replace hE := hE.trans sw10.below
          replace ht := Rep.stp ht sw10
          replace hk := hk.stp sw10
          replace hb := hb.stp sw10
          replace hc := hc.stp sw10
          replace hd := hd.stp sw10
          replace h4 := h4.stp sw10
          replace hx := Rep.stp hx sw10
          replace hy := Rep.stp hy sw10
          replace hsub := fun b h => sw10.sub b (hsub b h)
          replace hlow := sw10.low
          replace hB := Nat.le_trans hB sw10.upd.1
          replace hS : Ext w10 w10 := ext_refl _
          replace h9 : MB w.heap.size _ w10 b9 _ [.int .u8 x.op, .string x.name, .int .i64 x.n, kvx] := ⟨hw10, h9.inM, h9.ge⟩
          have D_hk := hk
          have D_hb := hb
          have D_hc := hc
          have D_hd := hd
          have D_h4 := h4
          have D_h9 := h9.box
          have D_h10 := h10.box
          refine a_barS Ext 9 rfl (by kernel_rfl) (by kernel_rfl) (o_st tbOk h10.box rfl rfl rfl rfl (Rep.one hy) rfl rfl ?_)
          intro w11 hw11 qw11 bew11
          have uw11 : UpdB _ _ _ := ⟨qw11, bew11⟩
          have sw11 := uw11.stp h10.inM hlow h10.ge
          have frw11 := qw11.2
          replace h9 := h9.stp sw11 (frw11 b9 h9.lt ne_h9_h10)
          replace hE := hE.trans sw11.below
          replace ht := Rep.stp ht sw11
          replace hk := hk.stp sw11
          replace hb := hb.stp sw11
          replace hc := hc.stp sw11
          replace hd := hd.stp sw11
          replace h4 := h4.stp sw11
          replace hx := Rep.stp hx sw11
          replace hy := Rep.stp hy sw11
          replace hsub := fun b h => sw11.sub b (hsub b h)
          replace hlow := sw11.low
          replace hB := Nat.le_trans hB sw11.upd.1
          replace hS : Ext w11 w11 := ext_refl _
          replace h10 : MB w.heap.size _ w11 b10 _ [.int .u8 y.op, .string y.name, .int .i64 y.n, kvy] := ⟨hw11, h10.inM, h10.ge⟩
          have D_hk := hk
          have D_hb := hb
          have D_hc := hc
          have D_hd := hd
          have D_h4 := h4
          have D_h9 := h9.box
          have D_h10 := h10.box
          refine a_end (by kernel_rfl) ?_
          exact x_cut4 (b9) (b10) (kvx) (kvy) (s3 rfl rfl rfl) ⟨h9.box.at (fun h => absurd (hlow0 _ h) (by have := h9.ge; omega)), h10.box.at (fun h => absurd (hlow0 _ h) (by have := h10.ge; omega)), Rep.wk hx (fun b _ h => hsub b h), Rep.wk hy (fun b _ h => hsub b h), hd.wk (fun b _ h => hsub b h), (fun b h => hlow b (hsub b h)), hE, hB⟩
        refine o_new tbOk rfl rfl rfl ?_
        intro b10 w12 qb10 ew12 hb10
        have gS_b10 := Nat.le_trans hS.size (Nat.le_of_eq qb10.symm)
        replace hS := hS.then ew12
        have sw12 := Stp.add ew12 hlow hB (Nat.le_of_eq qb10.symm) hb10.lt
        have h10 : MB w.heap.size (Rw.Add M b10) w12 b10 25 [.int .u8 0, .string ⟨#[]⟩, .int .i64 0, .slice none 0 0] := MB.mk' hb10 qb10 hB
        replace hE := hE.trans sw12.below
        replace ht := Rep.stp ht sw12
        replace hk := hk.stp sw12
        replace hb := hb.stp sw12
        replace hc := hc.stp sw12
        replace hd := hd.stp sw12
        replace h4 := h4.stp sw12
        replace hx := Rep.stp hx sw12
        replace hy := Rep.stp hy sw12
        replace hsub := fun b h => sw12.sub b (hsub b h)
        replace hlow := sw12.low
        replace hB := Nat.le_trans hB sw12.upd.1
        refine ⟨hS, ?_⟩
        refine a_one 6 rfl (by kernel_rfl) (o_new tbOk rfl rfl rfl ?_)
        intro b9 w13 qb9 ew13 hb9
        have gS_b9 := Nat.le_trans hS.size (Nat.le_of_eq qb9.symm)
        replace hS := hS.then ew13
        have ne_h10_h9 : b10 ≠ b9 := by have := h10.lt; omega
        have sw13 := Stp.add ew13 hlow hB (Nat.le_of_eq qb9.symm) hb9.lt
        have h9 : MB w.heap.size (Rw.Add (Rw.Add M b10) b9) w13 b9 25 [.int .u8 0, .string ⟨#[]⟩, .int .i64 0, .slice none 0 0] := MB.mk' hb9 qb9 hB
        replace h10 := h10.stp sw13 (ew13.block b10 h10.lt)
        replace hE := hE.trans sw13.below
        replace ht := Rep.stp ht sw13
        replace hk := hk.stp sw13
        replace hb := hb.stp sw13
        replace hc := hc.stp sw13
        replace hd := hd.stp sw13
        replace h4 := h4.stp sw13
        replace hx := Rep.stp hx sw13
        replace hy := Rep.stp hy sw13
        replace hsub := fun b h => sw13.sub b (hsub b h)
        replace hlow := sw13.low
        replace hB := Nat.le_trans hB sw13.upd.1
        refine ⟨hS, ?_⟩
        refine a_barS Ext 8 rfl (by kernel_rfl) (by kernel_rfl) (o_st tbOk h9.box rfl rfl rfl rfl (Rep.one hx) rfl rfl ?_)
        intro w14 hw14 qw14 bew14
        have uw14 : UpdB _ _ _ := ⟨qw14, bew14⟩
        have sw14 := uw14.stp h9.inM hlow h9.ge
        have frw14 := qw14.2
        replace h10 := h10.stp sw14 (frw14 b10 h10.lt ne_h10_h9)
        replace hE := hE.trans sw14.below
        replace ht := Rep.stp ht sw14
        replace hk := hk.stp sw14
        replace hb := hb.stp sw14
        replace hc := hc.stp sw14
        replace hd := hd.stp sw14
        replace h4 := h4.stp sw14
        replace hx := Rep.stp hx sw14
        replace hy := Rep.stp hy sw14
        replace hsub := fun b h => sw14.sub b (hsub b h)
        replace hlow := sw14.low
        replace hB := Nat.le_trans hB sw14.upd.1
        replace hS : Ext w14 w14 := ext_refl _
        replace h9 : MB w.heap.size _ w14 b9 _ [.int .u8 x.op, .string x.name, .int .i64 x.n, kvx] := ⟨hw14, h9.inM, h9.ge⟩
        have D_hk := hk
        have D_hb := hb
        have D_hc := hc
        have D_hd := hd
        have D_h4 := h4
        have D_h10 := h10.box
        have D_h9 := h9.box
        refine a_barS Ext 9 rfl (by kernel_rfl) (by kernel_rfl) (o_st tbOk h10.box rfl rfl rfl rfl (Rep.one hy) rfl rfl ?_)
        intro w15 hw15 qw15 bew15
        have uw15 : UpdB _ _ _ := ⟨qw15, bew15⟩
        have sw15 := uw15.stp h10.inM hlow h10.ge
        have frw15 := qw15.2
        replace h9 := h9.stp sw15 (frw15 b9 h9.lt ne_h10_h9.symm)
        replace hE := hE.trans sw15.below
        replace ht := Rep.stp ht sw15
        replace hk := hk.stp sw15
        replace hb := hb.stp sw15
        replace hc := hc.stp sw15
        replace hd := hd.stp sw15
        replace h4 := h4.stp sw15
        replace hx := Rep.stp hx sw15
        replace hy := Rep.stp hy sw15
        replace hsub := fun b h => sw15.sub b (hsub b h)
        replace hlow := sw15.low
        replace hB := Nat.le_trans hB sw15.upd.1
        replace hS : Ext w15 w15 := ext_refl _
        replace h10 : MB w.heap.size _ w15 b10 _ [.int .u8 y.op, .string y.name, .int .i64 y.n, kvy] := ⟨hw15, h10.inM, h10.ge⟩
        have D_hk := hk
        have D_hb := hb
        have D_hc := hc
        have D_hd := hd
        have D_h4 := h4
        have D_h10 := h10.box
        have D_h9 := h9.box
        refine a_end (by kernel_rfl) ?_
        exact x_cut4 (b9) (b10) (kvx) (kvy) (s3 rfl rfl rfl) ⟨h9.box.at (fun h => absurd (hlow0 _ h) (by have := h9.ge; omega)), h10.box.at (fun h => absurd (hlow0 _ h) (by have := h10.ge; omega)), Rep.wk hx (fun b _ h => hsub b h), Rep.wk hy (fun b _ h => hsub b h), hd.wk (fun b _ h => hsub b h), (fun b h => hlow b (hsub b h)), hE, hB⟩
      · refine o_new tbOk rfl rfl rfl ?_
        intro b9 w16 qb9 ew16 hb9
        have gS_b9 := Nat.le_trans hS.size (Nat.le_of_eq qb9.symm)
        replace hS := hS.then ew16
        have sw16 := Stp.add ew16 hlow hB (Nat.le_of_eq qb9.symm) hb9.lt
        have h9 : MB w.heap.size (Rw.Add M b9) w16 b9 25 [.int .u8 0, .string ⟨#[]⟩, .int .i64 0, .slice none 0 0] := MB.mk' hb9 qb9 hB
        replace hE := hE.trans sw16.below
        replace ht := Rep.stp ht sw16
        replace hk := hk.stp sw16
        replace hb := hb.stp sw16
        replace hc := hc.stp sw16
        replace hd := hd.stp sw16
        replace h4 := h4.stp sw16
        replace hx := Rep.stp hx sw16
        replace hsub := fun b h => sw16.sub b (hsub b h)
        replace hlow := sw16.low
        replace hB := Nat.le_trans hB sw16.upd.1
        refine ⟨hS, ?_⟩
        refine a_all [5, 7] (by kernel_rfl) rfl (all_cons (i := 5) rfl ?_ (all_cons (i := 7) rfl ?_ all_nil))
        · refine o_call fo54 rfl rfl rfl (Loosen_own t c _ _ _ _ ht hc hlow hpt) ?_
          rintro vy w17 ⟨hy, ew17⟩
          replace hy := hy.repNew hlow
          replace hS := hS.then ew17
          replace h9 := h9.ext hlow hB ew17
          replace hE := hE.trans (Below.mono ew17 hB)
          replace ht := Rep.ext ht ew17
          replace hk := hk.ext ew17
          replace hb := hb.ext ew17
          replace hc := hc.ext ew17
          replace hd := hd.ext ew17
          replace h4 := h4.ext ew17
          replace hx := Rep.ext hx ew17
          replace hlow := hlow.ext ew17
          replace hB := Nat.le_trans hB ew17.size
          refine ⟨hS, ?_⟩
          rw [hY] at hy
          obtain ⟨kvy, rfl, opy, nmy, n64y, hky⟩ := ty_open hy
          refine a_one 7 rfl (by kernel_rfl) (o_new tbOk rfl rfl rfl ?_)
          intro b10 w18 qb10 ew18 hb10
          have gS_b10 := Nat.le_trans hS.size (Nat.le_of_eq qb10.symm)
          replace hS := hS.then ew18
          have ne_h9_h10 : b9 ≠ b10 := by have := h9.lt; omega
          have sw18 := Stp.add ew18 hlow hB (Nat.le_of_eq qb10.symm) hb10.lt
          have h10 : MB w.heap.size (Rw.Add (Rw.Add M b9) b10) w18 b10 25 [.int .u8 0, .string ⟨#[]⟩, .int .i64 0, .slice none 0 0] := MB.mk' hb10 qb10 hB
          replace h9 := h9.stp sw18 (ew18.block b9 h9.lt)
          replace hE := hE.trans sw18.below
          replace ht := Rep.stp ht sw18
          replace hk := hk.stp sw18
          replace hb := hb.stp sw18
          replace hc := hc.stp sw18
          replace hd := hd.stp sw18
          replace h4 := h4.stp sw18
          replace hx := Rep.stp hx sw18
          replace hy := Rep.stp hy sw18
          replace hsub := fun b h => sw18.sub b (hsub b h)
          replace hlow := sw18.low
          replace hB := Nat.le_trans hB sw18.upd.1
          refine ⟨hS, ?_⟩
          refine a_barS Ext 8 rfl (by kernel_rfl) (by kernel_rfl) (o_st tbOk h9.box rfl rfl rfl rfl (Rep.one hx) rfl rfl ?_)
          intro w19 hw19 qw19 bew19
          have uw19 : UpdB _ _ _ := ⟨qw19, bew19⟩
          have sw19 := uw19.stp h9.inM hlow h9.ge
          have frw19 := qw19.2
          replace h10 := h10.stp sw19 (frw19 b10 h10.lt ne_h9_h10.symm)
          replace hE := hE.trans sw19.below
          replace ht := Rep.stp ht sw19
          replace hk := hk.stp sw19
          replace hb := hb.stp sw19
          replace hc := hc.stp sw19
          replace hd := hd.stp sw19
          replace h4 := h4.stp sw19
          replace hx := Rep.stp hx sw19
          replace hy := Rep.stp hy sw19
          replace hsub := fun b h => sw19.sub b (hsub b h)
          replace hlow := sw19.low
          replace hB := Nat.le_trans hB sw19.upd.1
          replace hS : Ext w19 w19 := ext_refl _
          replace h9 : MB w.heap.size _ w19 b9 _ [.int .u8 x.op, .string x.name, .int .i64 x.n, kvx] := ⟨hw19, h9.inM, h9.ge⟩
          have D_hk := hk
          have D_hb := hb
          have D_hc := hc
          have D_hd := hd
          have D_h4 := h4
          have D_h9 := h9.box
          have D_h10 := h10.box
          refine a_barS Ext 9 rfl (by kernel_rfl) (by kernel_rfl) (o_st tbOk h10.box rfl rfl rfl rfl (Rep.one hy) rfl rfl ?_)
          intro w20 hw20 qw20 bew20
          have uw20 : UpdB _ _ _ := ⟨qw20, bew20⟩
          have sw20 := uw20.stp h10.inM hlow h10.ge
          have frw20 := qw20.2
          replace h9 := h9.stp sw20 (frw20 b9 h9.lt ne_h9_h10)
          replace hE := hE.trans sw20.below
          replace ht := Rep.stp ht sw20
          replace hk := hk.stp sw20
          replace hb := hb.stp sw20
          replace hc := hc.stp sw20
          replace hd := hd.stp sw20
          replace h4 := h4.stp sw20
          replace hx := Rep.stp hx sw20
          replace hy := Rep.stp hy sw20
          replace hsub := fun b h => sw20.sub b (hsub b h)
          replace hlow := sw20.low
          replace hB := Nat.le_trans hB sw20.upd.1
          replace hS : Ext w20 w20 := ext_refl _
          replace h10 : MB w.heap.size _ w20 b10 _ [.int .u8 y.op, .string y.name, .int .i64 y.n, kvy] := ⟨hw20, h10.inM, h10.ge⟩
          have D_hk := hk
          have D_hb := hb
          have D_hc := hc
          have D_hd := hd
          have D_h4 := h4
          have D_h9 := h9.box
          have D_h10 := h10.box
          refine a_end (by kernel_rfl) ?_
          exact x_cut4 (b9) (b10) (kvx) (kvy) (s3 rfl rfl rfl) ⟨h9.box.at (fun h => absurd (hlow0 _ h) (by have := h9.ge; omega)), h10.box.at (fun h => absurd (hlow0 _ h) (by have := h10.ge; omega)), Rep.wk hx (fun b _ h => hsub b h), Rep.wk hy (fun b _ h => hsub b h), hd.wk (fun b _ h => hsub b h), (fun b h => hlow b (hsub b h)), hE, hB⟩
        refine o_new tbOk rfl rfl rfl ?_
        intro b10 w21 qb10 ew21 hb10
        have gS_b10 := Nat.le_trans hS.size (Nat.le_of_eq qb10.symm)
        replace hS := hS.then ew21
        have ne_h9_h10 : b9 ≠ b10 := by have := h9.lt; omega
        have sw21 := Stp.add ew21 hlow hB (Nat.le_of_eq qb10.symm) hb10.lt
        have h10 : MB w.heap.size (Rw.Add (Rw.Add M b9) b10) w21 b10 25 [.int .u8 0, .string ⟨#[]⟩, .int .i64 0, .slice none 0 0] := MB.mk' hb10 qb10 hB
        replace h9 := h9.stp sw21 (ew21.block b9 h9.lt)
        replace hE := hE.trans sw21.below
        replace ht := Rep.stp ht sw21
        replace hk := hk.stp sw21
        replace hb := hb.stp sw21
        replace hc := hc.stp sw21
        replace hd := hd.stp sw21
        replace h4 := h4.stp sw21
        replace hx := Rep.stp hx sw21
        replace hsub := fun b h => sw21.sub b (hsub b h)
        replace hlow := sw21.low
        replace hB := Nat.le_trans hB sw21.upd.1
        refine ⟨hS, ?_⟩
        refine a_one 5 rfl (by kernel_rfl) (o_call fo54 rfl rfl rfl (Loosen_own t c _ _ _ _ ht hc hlow hpt) ?_)
        rintro vy w22 ⟨hy, ew22⟩
        replace hy := hy.repNew hlow
        replace hS := hS.then ew22
        replace h9 := h9.ext hlow hB ew22
        replace h10 := h10.ext hlow hB ew22
        replace hE := hE.trans (Below.mono ew22 hB)
        replace ht := Rep.ext ht ew22
        replace hk := hk.ext ew22
        replace hb := hb.ext ew22
        replace hc := hc.ext ew22
        replace hd := hd.ext ew22
        replace h4 := h4.ext ew22
        replace hx := Rep.ext hx ew22
        replace hlow := hlow.ext ew22
        replace hB := Nat.le_trans hB ew22.size
        refine ⟨hS, ?_⟩
        rw [hY] at hy
        obtain ⟨kvy, rfl, opy, nmy, n64y, hky⟩ := ty_open hy
        refine a_barS Ext 8 rfl (by kernel_rfl) (by kernel_rfl) (o_st tbOk h9.box rfl rfl rfl rfl (Rep.one hx) rfl rfl ?_)
        intro w23 hw23 qw23 bew23
        have uw23 : UpdB _ _ _ := ⟨qw23, bew23⟩
        have sw23 := uw23.stp h9.inM hlow h9.ge
        have frw23 := qw23.2
        replace h10 := h10.stp sw23 (frw23 b10 h10.lt ne_h9_h10.symm)
        replace hE := hE.trans sw23.below
        replace ht := Rep.stp ht sw23
        replace hk := hk.stp sw23
        replace hb := hb.stp sw23
        replace hc := hc.stp sw23
        replace hd := hd.stp sw23
        replace h4 := h4.stp sw23
        replace hx := Rep.stp hx sw23
        replace hy := Rep.stp hy sw23
        replace hsub := fun b h => sw23.sub b (hsub b h)
        replace hlow := sw23.low
        replace hB := Nat.le_trans hB sw23.upd.1
        replace hS : Ext w23 w23 := ext_refl _
        replace h9 : MB w.heap.size _ w23 b9 _ [.int .u8 x.op, .string x.name, .int .i64 x.n, kvx] := ⟨hw23, h9.inM, h9.ge⟩
        have D_hk := hk
        have D_hb := hb
        have D_hc := hc
        have D_hd := hd
        have D_h4 := h4
        have D_h9 := h9.box
        have D_h10 := h10.box
        refine a_barS Ext 9 rfl (by kernel_rfl) (by kernel_rfl) (o_st tbOk h10.box rfl rfl rfl rfl (Rep.one hy) rfl rfl ?_)
        intro w24 hw24 qw24 bew24
        have uw24 : UpdB _ _ _ := ⟨qw24, bew24⟩
        have sw24 := uw24.stp h10.inM hlow h10.ge
        have frw24 := qw24.2
        replace h9 := h9.stp sw24 (frw24 b9 h9.lt ne_h9_h10)
        replace hE := hE.trans sw24.below
        replace ht := Rep.stp ht sw24
        replace hk := hk.stp sw24
        replace hb := hb.stp sw24
        replace hc := hc.stp sw24
        replace hd := hd.stp sw24
        replace h4 := h4.stp sw24
        replace hx := Rep.stp hx sw24
        replace hy := Rep.stp hy sw24
        replace hsub := fun b h => sw24.sub b (hsub b h)
        replace hlow := sw24.low
        replace hB := Nat.le_trans hB sw24.upd.1
        replace hS : Ext w24 w24 := ext_refl _
        replace h10 : MB w.heap.size _ w24 b10 _ [.int .u8 y.op, .string y.name, .int .i64 y.n, kvy] := ⟨hw24, h10.inM, h10.ge⟩
        have D_hk := hk
        have D_hb := hb
        have D_hc := hc
        have D_hd := hd
        have D_h4 := h4
        have D_h9 := h9.box
        have D_h10 := h10.box
        refine a_end (by kernel_rfl) ?_
        exact x_cut4 (b9) (b10) (kvx) (kvy) (s3 rfl rfl rfl) ⟨h9.box.at (fun h => absurd (hlow0 _ h) (by have := h9.ge; omega)), h10.box.at (fun h => absurd (hlow0 _ h) (by have := h10.ge; omega)), Rep.wk hx (fun b _ h => hsub b h), Rep.wk hy (fun b _ h => hsub b h), hd.wk (fun b _ h => hsub b h), (fun b h => hlow b (hsub b h)), hE, hB⟩
      refine o_new tbOk rfl rfl rfl ?_
      intro b10 w25 qb10 ew25 hb10
      have gS_b10 := Nat.le_trans hS.size (Nat.le_of_eq qb10.symm)
      replace hS := hS.then ew25
      have sw25 := Stp.add ew25 hlow hB (Nat.le_of_eq qb10.symm) hb10.lt
      have h10 : MB w.heap.size (Rw.Add M b10) w25 b10 25 [.int .u8 0, .string ⟨#[]⟩, .int .i64 0, .slice none 0 0] := MB.mk' hb10 qb10 hB
      replace hE := hE.trans sw25.below
      replace ht := Rep.stp ht sw25
      replace hk := hk.stp sw25
      replace hb := hb.stp sw25
      replace hc := hc.stp sw25
      replace hd := hd.stp sw25
      replace h4 := h4.stp sw25
      replace hx := Rep.stp hx sw25
      replace hsub := fun b h => sw25.sub b (hsub b h)
      replace hlow := sw25.low
      replace hB := Nat.le_trans hB sw25.upd.1
      refine ⟨hS, ?_⟩
      refine a_all [5, 6] (by kernel_rfl) rfl (all_cons (i := 5) rfl ?_ (all_cons (i := 6) rfl ?_ all_nil))
      · refine o_call fo54 rfl rfl rfl (Loosen_own t c _ _ _ _ ht hc hlow hpt) ?_
        rintro vy w26 ⟨hy, ew26⟩
        replace hy := hy.repNew hlow
        replace hS := hS.then ew26
        replace h10 := h10.ext hlow hB ew26
        replace hE := hE.trans (Below.mono ew26 hB)
        replace ht := Rep.ext ht ew26
        replace hk := hk.ext ew26
        replace hb := hb.ext ew26
        replace hc := hc.ext ew26
        replace hd := hd.ext ew26
        replace h4 := h4.ext ew26
        replace hx := Rep.ext hx ew26
        replace hlow := hlow.ext ew26
        replace hB := Nat.le_trans hB ew26.size
        refine ⟨hS, ?_⟩
        rw [hY] at hy
        obtain ⟨kvy, rfl, opy, nmy, n64y, hky⟩ := ty_open hy
        refine a_one 6 rfl (by kernel_rfl) (o_new tbOk rfl rfl rfl ?_)
        intro b9 w27 qb9 ew27 hb9
        have gS_b9 := Nat.le_trans hS.size (Nat.le_of_eq qb9.symm)
        replace hS := hS.then ew27
        have ne_h10_h9 : b10 ≠ b9 := by have := h10.lt; omega
        have sw27 := Stp.add ew27 hlow hB (Nat.le_of_eq qb9.symm) hb9.lt
        have h9 : MB w.heap.size (Rw.Add (Rw.Add M b10) b9) w27 b9 25 [.int .u8 0, .string ⟨#[]⟩, .int .i64 0, .slice none 0 0] := MB.mk' hb9 qb9 hB
        replace h10 := h10.stp sw27 (ew27.block b10 h10.lt)
        replace hE := hE.trans sw27.below
        replace ht := Rep.stp ht sw27
        replace hk := hk.stp sw27
        replace hb := hb.stp sw27
        replace hc := hc.stp sw27
        replace hd := hd.stp sw27
        replace h4 := h4.stp sw27
        replace hx := Rep.stp hx sw27
        replace hy := Rep.stp hy sw27
        replace hsub := fun b h => sw27.sub b (hsub b h)
        replace hlow := sw27.low
        replace hB := Nat.le_trans hB sw27.upd.1
        refine ⟨hS, ?_⟩
        refine a_barS Ext 8 rfl (by kernel_rfl) (by kernel_rfl) (o_st tbOk h9.box rfl rfl rfl rfl (Rep.one hx) rfl rfl ?_)
        intro w28 hw28 qw28 bew28
        have uw28 : UpdB _ _ _ := ⟨qw28, bew28⟩
        have sw28 := uw28.stp h9.inM hlow h9.ge
        have frw28 := qw28.2
        replace h10 := h10.stp sw28 (frw28 b10 h10.lt ne_h10_h9)
        replace hE := hE.trans sw28.below
        replace ht := Rep.stp ht sw28
        replace hk := hk.stp sw28
        replace hb := hb.stp sw28
        replace hc := hc.stp sw28
        replace hd := hd.stp sw28
        replace h4 := h4.stp sw28
        replace hx := Rep.stp hx sw28
        replace hy := Rep.stp hy sw28
        replace hsub := fun b h => sw28.sub b (hsub b h)
        replace hlow := sw28.low
        replace hB := Nat.le_trans hB sw28.upd.1
        replace hS : Ext w28 w28 := ext_refl _
        replace h9 : MB w.heap.size _ w28 b9 _ [.int .u8 x.op, .string x.name, .int .i64 x.n, kvx] := ⟨hw28, h9.inM, h9.ge⟩
        have D_hk := hk
        have D_hb := hb
        have D_hc := hc
        have D_hd := hd
        have D_h4 := h4
        have D_h10 := h10.box
        have D_h9 := h9.box
        refine a_barS Ext 9 rfl (by kernel_rfl) (by kernel_rfl) (o_st tbOk h10.box rfl rfl rfl rfl (Rep.one hy) rfl rfl ?_)
        intro w29 hw29 qw29 bew29
        have uw29 : UpdB _ _ _ := ⟨qw29, bew29⟩
        have sw29 := uw29.stp h10.inM hlow h10.ge
        have frw29 := qw29.2
        replace h9 := h9.stp sw29 (frw29 b9 h9.lt ne_h10_h9.symm)
        replace hE := hE.trans sw29.below
        replace ht := Rep.stp ht sw29
        replace hk := hk.stp sw29
        replace hb := hb.stp sw29
        replace hc := hc.stp sw29
        replace hd := hd.stp sw29
        replace h4 := h4.stp sw29
        replace hx := Rep.stp hx sw29
        replace hy := Rep.stp hy sw29
        replace hsub := fun b h => sw29.sub b (hsub b h)
        replace hlow := sw29.low
        replace hB := Nat.le_trans hB sw29.upd.1
        replace hS : Ext w29 w29 := ext_refl _
        replace h10 : MB w.heap.size _ w29 b10 _ [.int .u8 y.op, .string y.name, .int .i64 y.n, kvy] := ⟨hw29, h10.inM, h10.ge⟩
        have D_hk := hk
        have D_hb := hb
        have D_hc := hc
        have D_hd := hd
        have D_h4 := h4
        have D_h10 := h10.box
        have D_h9 := h9.box
        refine a_end (by kernel_rfl) ?_
        exact x_cut4 (b9) (b10) (kvx) (kvy) (s3 rfl rfl rfl) ⟨h9.box.at (fun h => absurd (hlow0 _ h) (by have := h9.ge; omega)), h10.box.at (fun h => absurd (hlow0 _ h) (by have := h10.ge; omega)), Rep.wk hx (fun b _ h => hsub b h), Rep.wk hy (fun b _ h => hsub b h), hd.wk (fun b _ h => hsub b h), (fun b h => hlow b (hsub b h)), hE, hB⟩
      refine o_new tbOk rfl rfl rfl ?_
      intro b9 w30 qb9 ew30 hb9
      have gS_b9 := Nat.le_trans hS.size (Nat.le_of_eq qb9.symm)
      replace hS := hS.then ew30
      have ne_h10_h9 : b10 ≠ b9 := by have := h10.lt; omega
      have sw30 := Stp.add ew30 hlow hB (Nat.le_of_eq qb9.symm) hb9.lt
      have h9 : MB w.heap.size (Rw.Add (Rw.Add M b10) b9) w30 b9 25 [.int .u8 0, .string ⟨#[]⟩, .int .i64 0, .slice none 0 0] := MB.mk' hb9 qb9 hB
      replace h10 := h10.stp sw30 (ew30.block b10 h10.lt)
      replace hE := hE.trans sw30.below
      replace ht := Rep.stp ht sw30
      replace hk := hk.stp sw30
      replace hb := hb.stp sw30
      replace hc := hc.stp sw30
      replace hd := hd.stp sw30
      replace h4 := h4.stp sw30
      replace hx := Rep.stp hx sw30
      replace hsub := fun b h => sw30.sub b (hsub b h)
      replace hlow := sw30.low
      replace hB := Nat.le_trans hB sw30.upd.1
      refine ⟨hS, ?_⟩
      refine a_one 5 rfl (by kernel_rfl) (o_call fo54 rfl rfl rfl (Loosen_own t c _ _ _ _ ht hc hlow hpt) ?_)
      rintro vy w31 ⟨hy, ew31⟩
      replace hy := hy.repNew hlow
      replace hS := hS.then ew31
      replace h10 := h10.ext hlow hB ew31
      replace h9 := h9.ext hlow hB ew31
      replace hE := hE.trans (Below.mono ew31 hB)
      replace ht := Rep.ext ht ew31
      replace hk := hk.ext ew31
      replace hb := hb.ext ew31
      replace hc := hc.ext ew31
      replace hd := hd.ext ew31
      replace h4 := h4.ext ew31
      replace hx := Rep.ext hx ew31
      replace hlow := hlow.ext ew31
      replace hB := Nat.le_trans hB ew31.size
      refine ⟨hS, ?_⟩
      rw [hY] at hy
      obtain ⟨kvy, rfl, opy, nmy, n64y, hky⟩ := ty_open hy
      refine a_barS Ext 8 rfl (by kernel_rfl) (by kernel_rfl) (o_st tbOk h9.box rfl rfl rfl rfl (Rep.one hx) rfl rfl ?_)
      intro w32 hw32 qw32 bew32
      have uw32 : UpdB _ _ _ := ⟨qw32, bew32⟩
      have sw32 := uw32.stp h9.inM hlow h9.ge
      have frw32 := qw32.2
      replace h10 := h10.stp sw32 (frw32 b10 h10.lt ne_h10_h9)
      replace hE := hE.trans sw32.below
      replace ht := Rep.stp ht sw32
      replace hk := hk.stp sw32
      replace hb := hb.stp sw32
      replace hc := hc.stp sw32
      replace hd := hd.stp sw32
      replace h4 := h4.stp sw32
      replace hx := Rep.stp hx sw32
      replace hy := Rep.stp hy sw32
      replace hsub := fun b h => sw32.sub b (hsub b h)
      replace hlow := sw32.low
      replace hB := Nat.le_trans hB sw32.upd.1
      replace hS : Ext w32 w32 := ext_refl _
      replace h9 : MB w.heap.size _ w32 b9 _ [.int .u8 x.op, .string x.name, .int .i64 x.n, kvx] := ⟨hw32, h9.inM, h9.ge⟩
      have D_hk := hk
      have D_hb := hb
      have D_hc := hc
      have D_hd := hd
      have D_h4 := h4
      have D_h10 := h10.box
      have D_h9 := h9.box
      refine a_barS Ext 9 rfl (by kernel_rfl) (by kernel_rfl) (o_st tbOk h10.box rfl rfl rfl rfl (Rep.one hy) rfl rfl ?_)
      intro w33 hw33 qw33 bew33
      have uw33 : UpdB _ _ _ := ⟨qw33, bew33⟩
      have sw33 := uw33.stp h10.inM hlow h10.ge
      have frw33 := qw33.2
      replace h9 := h9.stp sw33 (frw33 b9 h9.lt ne_h10_h9.symm)
      replace hE := hE.trans sw33.below
      replace ht := Rep.stp ht sw33
      replace hk := hk.stp sw33
      replace hb := hb.stp sw33
      replace hc := hc.stp sw33
      replace hd := hd.stp sw33
      replace h4 := h4.stp sw33
      replace hx := Rep.stp hx sw33
      replace hy := Rep.stp hy sw33
      replace hsub := fun b h => sw33.sub b (hsub b h)
      replace hlow := sw33.low
      replace hB := Nat.le_trans hB sw33.upd.1
      replace hS : Ext w33 w33 := ext_refl _
      replace h10 : MB w.heap.size _ w33 b10 _ [.int .u8 y.op, .string y.name, .int .i64 y.n, kvy] := ⟨hw33, h10.inM, h10.ge⟩
      have D_hk := hk
      have D_hb := hb
      have D_hc := hc
      have D_hd := hd
      have D_h4 := h4
      have D_h10 := h10.box
      have D_h9 := h9.box
      refine a_end (by kernel_rfl) ?_
      exact x_cut4 (b9) (b10) (kvx) (kvy) (s3 rfl rfl rfl) ⟨h9.box.at (fun h => absurd (hlow0 _ h) (by have := h9.ge; omega)), h10.box.at (fun h => absurd (hlow0 _ h) (by have := h10.ge; omega)), Rep.wk hx (fun b _ h => hsub b h), Rep.wk hy (fun b _ h => hsub b h), hd.wk (fun b _ h => hsub b h), (fun b h => hlow b (hsub b h)), hE, hB⟩
    · refine o_new tbOk rfl rfl rfl ?_
      intro b9 w34 qb9 ew34 hb9
      have gS_b9 := Nat.le_trans hS.size (Nat.le_of_eq qb9.symm)
      replace hS := hS.then ew34
      have sw34 := Stp.add ew34 hlow hB (Nat.le_of_eq qb9.symm) hb9.lt
      have h9 : MB w.heap.size (Rw.Add M b9) w34 b9 25 [.int .u8 0, .string ⟨#[]⟩, .int .i64 0, .slice none 0 0] := MB.mk' hb9 qb9 hB
      replace hE := hE.trans sw34.below
      replace ht := Rep.stp ht sw34
      replace hk := hk.stp sw34
      replace hb := hb.stp sw34
      replace hc := hc.stp sw34
      replace hd := hd.stp sw34
      replace h4 := h4.stp sw34
      replace hsub := fun b h => sw34.sub b (hsub b h)
      replace hlow := sw34.low
      replace hB := Nat.le_trans hB sw34.upd.1
      refine ⟨hS, ?_⟩
      refine a_all [2, 7] (by kernel_rfl) rfl (all_cons (i := 2) rfl ?_ (all_cons (i := 7) rfl ?_ all_nil))
      · refine o_call fo54 rfl rfl rfl (Loosen_own t b _ _ _ _ ht hb hlow hpt) ?_
        rintro vx w35 ⟨hx, ew35⟩
        replace hx := hx.repNew hlow
        replace hS := hS.then ew35
        replace h9 := h9.ext hlow hB ew35
        replace hE := hE.trans (Below.mono ew35 hB)
        replace ht := Rep.ext ht ew35
        replace hk := hk.ext ew35
        replace hb := hb.ext ew35
        replace hc := hc.ext ew35
        replace hd := hd.ext ew35
        replace h4 := h4.ext ew35
        replace hlow := hlow.ext ew35
        replace hB := Nat.le_trans hB ew35.size
        refine ⟨hS, ?_⟩
        rw [hX] at hx
        obtain ⟨kvx, rfl, opx, nmx, n64x, hkx⟩ := ty_open hx
        refine a_all [5, 7] (by kernel_rfl) rfl (all_cons (i := 5) rfl ?_ (all_cons (i := 7) rfl ?_ all_nil))
        · refine o_call fo54 rfl rfl rfl (Loosen_own t c _ _ _ _ ht hc hlow hpt) ?_
          rintro vy w36 ⟨hy, ew36⟩
          replace hy := hy.repNew hlow
          replace hS := hS.then ew36
          replace h9 := h9.ext hlow hB ew36
          replace hE := hE.trans (Below.mono ew36 hB)
          replace ht := Rep.ext ht ew36
          replace hk := hk.ext ew36
          replace hb := hb.ext ew36
          replace hc := hc.ext ew36
          replace hd := hd.ext ew36
          replace h4 := h4.ext ew36
          replace hx := Rep.ext hx ew36
          replace hlow := hlow.ext ew36
          replace hB := Nat.le_trans hB ew36.size
          refine ⟨hS, ?_⟩
          rw [hY] at hy
          obtain ⟨kvy, rfl, opy, nmy, n64y, hky⟩ := ty_open hy
          refine a_one 7 rfl (by kernel_rfl) (o_new tbOk rfl rfl rfl ?_)
          intro b10 w37 qb10 ew37 hb10
          have gS_b10 := Nat.le_trans hS.size (Nat.le_of_eq qb10.symm)
          replace hS := hS.then ew37
          have ne_h9_h10 : b9 ≠ b10 := by have := h9.lt; omega
          have sw37 := Stp.add ew37 hlow hB (Nat.le_of_eq qb10.symm) hb10.lt
          have h10 : MB w.heap.size (Rw.Add (Rw.Add M b9) b10) w37 b10 25 [.int .u8 0, .string ⟨#[]⟩, .int .i64 0, .slice none 0 0] := MB.mk' hb10 qb10 hB
          replace h9 := h9.stp sw37 (ew37.block b9 h9.lt)
          replace hE := hE.trans sw37.below
          replace ht := Rep.stp ht sw37
          replace hk := hk.stp sw37
          replace hb := hb.stp sw37
          replace hc := hc.stp sw37
          replace hd := hd.stp sw37
          replace h4 := h4.stp sw37
          replace hx := Rep.stp hx sw37
          replace hy := Rep.stp hy sw37
          replace hsub := fun b h => sw37.sub b (hsub b h)
          replace hlow := sw37.low
          replace hB := Nat.le_trans hB sw37.upd.1
          refine ⟨hS, ?_⟩
          refine a_barS Ext 8 rfl (by kernel_rfl) (by kernel_rfl) (o_st tbOk h9.box rfl rfl rfl rfl (Rep.one hx) rfl rfl ?_)
          intro w38 hw38 qw38 bew38
          have uw38 : UpdB _ _ _ := ⟨qw38, bew38⟩
          have sw38 := uw38.stp h9.inM hlow h9.ge
          have frw38 := qw38.2
          replace h10 := h10.stp sw38 (frw38 b10 h10.lt ne_h9_h10.symm)
          replace hE := hE.trans sw38.below
          replace ht := Rep.stp ht sw38
          replace hk := hk.stp sw38
          replace hb := hb.stp sw38
          replace hc := hc.stp sw38
          replace hd := hd.stp sw38
          replace h4 := h4.stp sw38
          replace hx := Rep.stp hx sw38
          replace hy := Rep.stp hy sw38
          replace hsub := fun b h => sw38.sub b (hsub b h)
          replace hlow := sw38.low
          replace hB := Nat.le_trans hB sw38.upd.1
          replace hS : Ext w38 w38 := ext_refl _
          replace h9 : MB w.heap.size _ w38 b9 _ [.int .u8 x.op, .string x.name, .int .i64 x.n, kvx] := ⟨hw38, h9.inM, h9.ge⟩
          have D_hk := hk
          have D_hb := hb
          have D_hc := hc
          have D_hd := hd
          have D_h4 := h4
          have D_h9 := h9.box
          have D_h10 := h10.box
          refine a_barS Ext 9 rfl (by kernel_rfl) (by kernel_rfl) (o_st tbOk h10.box rfl rfl rfl rfl (Rep.one hy) rfl rfl ?_)
          intro w39 hw39 qw39 bew39
          have uw39 : UpdB _ _ _ := ⟨qw39, bew39⟩
          have sw39 := uw39.stp h10.inM hlow h10.ge
          have frw39 := qw39.2
          replace h9 := h9.stp sw39 (frw39 b9 h9.lt ne_h9_h10)
          replace hE := hE.trans sw39.below
          replace ht := Rep.stp ht sw39
          replace hk := hk.stp sw39
          replace hb := hb.stp sw39
          replace hc := hc.stp sw39
          replace hd := hd.stp sw39
          replace h4 := h4.stp sw39
          replace hx := Rep.stp hx sw39
          replace hy := Rep.stp hy sw39
          replace hsub := fun b h => sw39.sub b (hsub b h)
          replace hlow := sw39.low
          replace hB := Nat.le_trans hB sw39.upd.1
          replace hS : Ext w39 w39 := ext_refl _
          replace h10 : MB w.heap.size _ w39 b10 _ [.int .u8 y.op, .string y.name, .int .i64 y.n, kvy] := ⟨hw39, h10.inM, h10.ge⟩
          have D_hk := hk
          have D_hb := hb
          have D_hc := hc
          have D_hd := hd
          have D_h4 := h4
          have D_h9 := h9.box
          have D_h10 := h10.box
          refine a_end (by kernel_rfl) ?_
          exact x_cut4 (b9) (b10) (kvx) (kvy) (s3 rfl rfl rfl) ⟨h9.box.at (fun h => absurd (hlow0 _ h) (by have := h9.ge; omega)), h10.box.at (fun h => absurd (hlow0 _ h) (by have := h10.ge; omega)), Rep.wk hx (fun b _ h => hsub b h), Rep.wk hy (fun b _ h => hsub b h), hd.wk (fun b _ h => hsub b h), (fun b h => hlow b (hsub b h)), hE, hB⟩
        refine o_new tbOk rfl rfl rfl ?_
        intro b10 w40 qb10 ew40 hb10
        have gS_b10 := Nat.le_trans hS.size (Nat.le_of_eq qb10.symm)
        replace hS := hS.then ew40
        have ne_h9_h10 : b9 ≠ b10 := by have := h9.lt; omega
        have sw40 := Stp.add ew40 hlow hB (Nat.le_of_eq qb10.symm) hb10.lt
        have h10 : MB w.heap.size (Rw.Add (Rw.Add M b9) b10) w40 b10 25 [.int .u8 0, .string ⟨#[]⟩, .int .i64 0, .slice none 0 0] := MB.mk' hb10 qb10 hB
        replace h9 := h9.stp sw40 (ew40.block b9 h9.lt)
        replace hE := hE.trans sw40.below
        replace ht := Rep.stp ht sw40
        replace hk := hk.stp sw40
        replace hb := hb.stp sw40
        replace hc := hc.stp sw40
        replace hd := hd.stp sw40
        replace h4 := h4.stp sw40
        replace hx := Rep.stp hx sw40
        replace hsub := fun b h => sw40.sub b (hsub b h)
        replace hlow := sw40.low
        replace hB := Nat.le_trans hB sw40.upd.1
        refine ⟨hS, ?_⟩
        refine a_one 5 rfl (by kernel_rfl) (o_call fo54 rfl rfl rfl (Loosen_own t c _ _ _ _ ht hc hlow hpt) ?_)
        rintro vy w41 ⟨hy, ew41⟩
        replace hy := hy.repNew hlow
        replace hS := hS.then ew41
        replace h9 := h9.ext hlow hB ew41
        replace h10 := h10.ext hlow hB ew41
        replace hE := hE.trans (Below.mono ew41 hB)
        replace ht := Rep.ext ht ew41
        replace hk := hk.ext ew41
        replace hb := hb.ext ew41
        replace hc := hc.ext ew41
        replace hd := hd.ext ew41
        replace h4 := h4.ext ew41
        replace hx := Rep.ext hx ew41
        replace hlow := hlow.ext ew41
        replace hB := Nat.le_trans hB ew41.size
        refine ⟨hS, ?_⟩
        rw [hY] at hy
        obtain ⟨kvy, rfl, opy, nmy, n64y, hky⟩ := ty_open hy
        refine a_barS Ext 8 rfl (by kernel_rfl) (by kernel_rfl) (o_st tbOk h9.box rfl rfl rfl rfl (Rep.one hx) rfl rfl ?_)
        intro w42 hw42 qw42 bew42
        have uw42 : UpdB _ _ _ := ⟨qw42, bew42⟩
        have sw42 := uw42.stp h9.inM hlow h9.ge
        have frw42 := qw42.2
        replace h10 := h10.stp sw42 (frw42 b10 h10.lt ne_h9_h10.symm)
        replace hE := hE.trans sw42.below
        replace ht := Rep.stp ht sw42
        replace hk := hk.stp sw42
        replace hb := hb.stp sw42
        replace hc := hc.stp sw42
        replace hd := hd.stp sw42
        replace h4 := h4.stp sw42
        replace hx := Rep.stp hx sw42
        replace hy := Rep.stp hy sw42
        replace hsub := fun b h => sw42.sub b (hsub b h)
        replace hlow := sw42.low
        replace hB := Nat.le_trans hB sw42.upd.1
        replace hS : Ext w42 w42 := ext_refl _
        replace h9 : MB w.heap.size _ w42 b9 _ [.int .u8 x.op, .string x.name, .int .i64 x.n, kvx] := ⟨hw42, h9.inM, h9.ge⟩
        have D_hk := hk
        have D_hb := hb
        have D_hc := hc
        have D_hd := hd
        have D_h4 := h4
        have D_h9 := h9.box
        have D_h10 := h10.box
        refine a_barS Ext 9 rfl (by kernel_rfl) (by kernel_rfl) (o_st tbOk h10.box rfl rfl rfl rfl (Rep.one hy) rfl rfl ?_)
        intro w43 hw43 qw43 bew43
        have uw43 : UpdB _ _ _ := ⟨qw43, bew43⟩
        have sw43 := uw43.stp h10.inM hlow h10.ge
        have frw43 := qw43.2
        replace h9 := h9.stp sw43 (frw43 b9 h9.lt ne_h9_h10)
        replace hE := hE.trans sw43.below
        replace ht := Rep.stp ht sw43
        replace hk := hk.stp sw43
        replace hb := hb.stp sw43
        replace hc := hc.stp sw43
        replace hd := hd.stp sw43
        replace h4 := h4.stp sw43
        replace hx := Rep.stp hx sw43
        replace hy := Rep.stp hy sw43
        replace hsub := fun b h => sw43.sub b (hsub b h)
        replace hlow := sw43.low
        replace hB := Nat.le_trans hB sw43.upd.1
        replace hS : Ext w43 w43 := ext_refl _
        replace h10 : MB w.heap.size _ w43 b10 _ [.int .u8 y.op, .string y.name, .int .i64 y.n, kvy] := ⟨hw43, h10.inM, h10.ge⟩
        have D_hk := hk
        have D_hb := hb
        have D_hc := hc
        have D_hd := hd
        have D_h4 := h4
        have D_h9 := h9.box
        have D_h10 := h10.box
        refine a_end (by kernel_rfl) ?_
        exact x_cut4 (b9) (b10) (kvx) (kvy) (s3 rfl rfl rfl) ⟨h9.box.at (fun h => absurd (hlow0 _ h) (by have := h9.ge; omega)), h10.box.at (fun h => absurd (hlow0 _ h) (by have := h10.ge; omega)), Rep.wk hx (fun b _ h => hsub b h), Rep.wk hy (fun b _ h => hsub b h), hd.wk (fun b _ h => hsub b h), (fun b h => hlow b (hsub b h)), hE, hB⟩
      refine o_new tbOk rfl rfl rfl ?_
      intro b10 w44 qb10 ew44 hb10
      have gS_b10 := Nat.le_trans hS.size (Nat.le_of_eq qb10.symm)
      replace hS := hS.then ew44
      have ne_h9_h10 : b9 ≠ b10 := by have := h9.lt; omega
      have sw44 := Stp.add ew44 hlow hB (Nat.le_of_eq qb10.symm) hb10.lt
      have h10 : MB w.heap.size (Rw.Add (Rw.Add M b9) b10) w44 b10 25 [.int .u8 0, .string ⟨#[]⟩, .int .i64 0, .slice none 0 0] := MB.mk' hb10 qb10 hB
      replace h9 := h9.stp sw44 (ew44.block b9 h9.lt)
      replace hE := hE.trans sw44.below
      replace ht := Rep.stp ht sw44
      replace hk := hk.stp sw44
      replace hb := hb.stp sw44
      replace hc := hc.stp sw44
      replace hd := hd.stp sw44
      replace h4 := h4.stp sw44
      replace hsub := fun b h => sw44.sub b (hsub b h)
      replace hlow := sw44.low
      replace hB := Nat.le_trans hB sw44.upd.1
      refine ⟨hS, ?_⟩
      refine a_one 2 rfl (by kernel_rfl) (o_call fo54 rfl rfl rfl (Loosen_own t b _ _ _ _ ht hb hlow hpt) ?_)
      rintro vx w45 ⟨hx, ew45⟩
      replace hx := hx.repNew hlow
      replace hS := hS.then ew45
      replace h9 := h9.ext hlow hB ew45
      replace h10 := h10.ext hlow hB ew45
      replace hE := hE.trans (Below.mono ew45 hB)
      replace ht := Rep.ext ht ew45
      replace hk := hk.ext ew45
      replace hb := hb.ext ew45
      replace hc := hc.ext ew45
      replace hd := hd.ext ew45
      replace h4 := h4.ext ew45
      replace hlow := hlow.ext ew45
      replace hB := Nat.le_trans hB ew45.size
      refine ⟨hS, ?_⟩
      rw [hX] at hx
      obtain ⟨kvx, rfl, opx, nmx, n64x, hkx⟩ := ty_open hx
      refine a_one 5 rfl (by kernel_rfl) (o_call fo54 rfl rfl rfl (Loosen_own t c _ _ _ _ ht hc hlow hpt) ?_)
      rintro vy w46 ⟨hy, ew46⟩
      replace hy := hy.repNew hlow
      replace hS := hS.then ew46
      replace h9 := h9.ext hlow hB ew46
      replace h10 := h10.ext hlow hB ew46
      replace hE := hE.trans (Below.mono ew46 hB)
      replace ht := Rep.ext ht ew46
      replace hk := hk.ext ew46
      replace hb := hb.ext ew46
      replace hc := hc.ext ew46
      replace hd := hd.ext ew46
      replace h4 := h4.ext ew46
      replace hx := Rep.ext hx ew46
      replace hlow := hlow.ext ew46
      replace hB := Nat.le_trans hB ew46.size
      refine ⟨hS, ?_⟩
      rw [hY] at hy
      obtain ⟨kvy, rfl, opy, nmy, n64y, hky⟩ := ty_open hy
      refine a_barS Ext 8 rfl (by kernel_rfl) (by kernel_rfl) (o_st tbOk h9.box rfl rfl rfl rfl (Rep.one hx) rfl rfl ?_)
      intro w47 hw47 qw47 bew47
      have uw47 : UpdB _ _ _ := ⟨qw47, bew47⟩
      have sw47 := uw47.stp h9.inM hlow h9.ge
      have frw47 := qw47.2
      replace h10 := h10.stp sw47 (frw47 b10 h10.lt ne_h9_h10.symm)
      replace hE := hE.trans sw47.below
      replace ht := Rep.stp ht sw47
      replace hk := hk.stp sw47
      replace hb := hb.stp sw47
      replace hc := hc.stp sw47
      replace hd := hd.stp sw47
      replace h4 := h4.stp sw47
      replace hx := Rep.stp hx sw47
      replace hy := Rep.stp hy sw47
      replace hsub := fun b h => sw47.sub b (hsub b h)
      replace hlow := sw47.low
      replace hB := Nat.le_trans hB sw47.upd.1
      replace hS : Ext w47 w47 := ext_refl _
      replace h9 : MB w.heap.size _ w47 b9 _ [.int .u8 x.op, .string x.name, .int .i64 x.n, kvx] := ⟨hw47, h9.inM, h9.ge⟩
      have D_hk := hk
      have D_hb := hb
      have D_hc := hc
      have D_hd := hd
      have D_h4 := h4
      have D_h9 := h9.box
      have D_h10 := h10.box
      refine a_barS Ext 9 rfl (by kernel_rfl) (by kernel_rfl) (o_st tbOk h10.box rfl rfl rfl rfl (Rep.one hy) rfl rfl ?_)
      intro w48 hw48 qw48 bew48
      have uw48 : UpdB _ _ _ := ⟨qw48, bew48⟩
      have sw48 := uw48.stp h10.inM hlow h10.ge
      have frw48 := qw48.2
      replace h9 := h9.stp sw48 (frw48 b9 h9.lt ne_h9_h10)
      replace hE := hE.trans sw48.below
      replace ht := Rep.stp ht sw48
      replace hk := hk.stp sw48
      replace hb := hb.stp sw48
      replace hc := hc.stp sw48
      replace hd := hd.stp sw48
      replace h4 := h4.stp sw48
      replace hx := Rep.stp hx sw48
      replace hy := Rep.stp hy sw48
      replace hsub := fun b h => sw48.sub b (hsub b h)
      replace hlow := sw48.low
      replace hB := Nat.le_trans hB sw48.upd.1
      replace hS : Ext w48 w48 := ext_refl _
      replace h10 : MB w.heap.size _ w48 b10 _ [.int .u8 y.op, .string y.name, .int .i64 y.n, kvy] := ⟨hw48, h10.inM, h10.ge⟩
      have D_hk := hk
      have D_hb := hb
      have D_hc := hc
      have D_hd := hd
      have D_h4 := h4
      have D_h9 := h9.box
      have D_h10 := h10.box
      refine a_end (by kernel_rfl) ?_
      exact x_cut4 (b9) (b10) (kvx) (kvy) (s3 rfl rfl rfl) ⟨h9.box.at (fun h => absurd (hlow0 _ h) (by have := h9.ge; omega)), h10.box.at (fun h => absurd (hlow0 _ h) (by have := h10.ge; omega)), Rep.wk hx (fun b _ h => hsub b h), Rep.wk hy (fun b _ h => hsub b h), hd.wk (fun b _ h => hsub b h), (fun b h => hlow b (hsub b h)), hE, hB⟩
    refine o_new tbOk rfl rfl rfl ?_
    intro b10 w49 qb10 ew49 hb10
    have gS_b10 := Nat.le_trans hS.size (Nat.le_of_eq qb10.symm)
    replace hS := hS.then ew49
    have sw49 := Stp.add ew49 hlow hB (Nat.le_of_eq qb10.symm) hb10.lt
    have h10 : MB w.heap.size (Rw.Add M b10) w49 b10 25 [.int .u8 0, .string ⟨#[]⟩, .int .i64 0, .slice none 0 0] := MB.mk' hb10 qb10 hB
    replace hE := hE.trans sw49.below
    replace ht := Rep.stp ht sw49
    replace hk := hk.stp sw49
    replace hb := hb.stp sw49
    replace hc := hc.stp sw49
    replace hd := hd.stp sw49
    replace h4 := h4.stp sw49
    replace hsub := fun b h => sw49.sub b (hsub b h)
    replace hlow := sw49.low
    replace hB := Nat.le_trans hB sw49.upd.1
    refine ⟨hS, ?_⟩
    refine a_all [2, 6] (by kernel_rfl) rfl (all_cons (i := 2) rfl ?_ (all_cons (i := 6) rfl ?_ all_nil))
    · refine o_call fo54 rfl rfl rfl (Loosen_own t b _ _ _ _ ht hb hlow hpt) ?_
      rintro vx w50 ⟨hx, ew50⟩
      replace hx := hx.repNew hlow
      replace hS := hS.then ew50
      replace h10 := h10.ext hlow hB ew50
      replace hE := hE.trans (Below.mono ew50 hB)
      replace ht := Rep.ext ht ew50
      replace hk := hk.ext ew50
      replace hb := hb.ext ew50
      replace hc := hc.ext ew50
      replace hd := hd.ext ew50
      replace h4 := h4.ext ew50
      replace hlow := hlow.ext ew50
      replace hB := Nat.le_trans hB ew50.size
      refine ⟨hS, ?_⟩
      rw [hX] at hx
      obtain ⟨kvx, rfl, opx, nmx, n64x, hkx⟩ := ty_open hx
      refine a_all [5, 6] (by kernel_rfl) rfl (all_cons (i := 5) rfl ?_ (all_cons (i := 6) rfl ?_ all_nil))
      · refine o_call fo54 rfl rfl rfl (Loosen_own t c _ _ _ _ ht hc hlow hpt) ?_
        rintro vy w51 ⟨hy, ew51⟩
        replace hy := hy.repNew hlow
        replace hS := hS.then ew51
        replace h10 := h10.ext hlow hB ew51
        replace hE := hE.trans (Below.mono ew51 hB)
        replace ht := Rep.ext ht ew51
        replace hk := hk.ext ew51
        replace hb := hb.ext ew51
        replace hc := hc.ext ew51
        replace hd := hd.ext ew51
        replace h4 := h4.ext ew51
        replace hx := Rep.ext hx ew51
        replace hlow := hlow.ext ew51
        replace hB := Nat.le_trans hB ew51.size
        refine ⟨hS, ?_⟩
        rw [hY] at hy
        obtain ⟨kvy, rfl, opy, nmy, n64y, hky⟩ := ty_open hy
        refine a_one 6 rfl (by kernel_rfl) (o_new tbOk rfl rfl rfl ?_)
        intro b9 w52 qb9 ew52 hb9
        have gS_b9 := Nat.le_trans hS.size (Nat.le_of_eq qb9.symm)
        replace hS := hS.then ew52
        have ne_h10_h9 : b10 ≠ b9 := by have := h10.lt; omega
        have sw52 := Stp.add ew52 hlow hB (Nat.le_of_eq qb9.symm) hb9.lt
        have h9 : MB w.heap.size (Rw.Add (Rw.Add M b10) b9) w52 b9 25 [.int .u8 0, .string ⟨#[]⟩, .int .i64 0, .slice none 0 0] := MB.mk' hb9 qb9 hB
        replace h10 := h10.stp sw52 (ew52.block b10 h10.lt)
        replace hE := hE.trans sw52.below
        replace ht := Rep.stp ht sw52
        replace hk := hk.stp sw52
        replace hb := hb.stp sw52
        replace hc := hc.stp sw52
        replace hd := hd.stp sw52
        replace h4 := h4.stp sw52
        replace hx := Rep.stp hx sw52
        replace hy := Rep.stp hy sw52
        replace hsub := fun b h => sw52.sub b (hsub b h)
        replace hlow := sw52.low
        replace hB := Nat.le_trans hB sw52.upd.1
        refine ⟨hS, ?_⟩
        refine a_barS Ext 8 rfl (by kernel_rfl) (by kernel_rfl) (o_st tbOk h9.box rfl rfl rfl rfl (Rep.one hx) rfl rfl ?_)
        intro w53 hw53 qw53 bew53
        have uw53 : UpdB _ _ _ := ⟨qw53, bew53⟩
        have sw53 := uw53.stp h9.inM hlow h9.ge
        have frw53 := qw53.2
        replace h10 := h10.stp sw53 (frw53 b10 h10.lt ne_h10_h9)
        replace hE := hE.trans sw53.below
        replace ht := Rep.stp ht sw53
        replace hk := hk.stp sw53
        replace hb := hb.stp sw53
        replace hc := hc.stp sw53
        replace hd := hd.stp sw53
        replace h4 := h4.stp sw53
        replace hx := Rep.stp hx sw53
        replace hy := Rep.stp hy sw53
        replace hsub := fun b h => sw53.sub b (hsub b h)
        replace hlow := sw53.low
        replace hB := Nat.le_trans hB sw53.upd.1
        replace hS : Ext w53 w53 := ext_refl _
        replace h9 : MB w.heap.size _ w53 b9 _ [.int .u8 x.op, .string x.name, .int .i64 x.n, kvx] := ⟨hw53, h9.inM, h9.ge⟩
        have D_hk := hk
        have D_hb := hb
        have D_hc := hc
        have D_hd := hd
        have D_h4 := h4
        have D_h10 := h10.box
        have D_h9 := h9.box
        refine a_barS Ext 9 rfl (by kernel_rfl) (by kernel_rfl) (o_st tbOk h10.box rfl rfl rfl rfl (Rep.one hy) rfl rfl ?_)
        intro w54 hw54 qw54 bew54
        have uw54 : UpdB _ _ _ := ⟨qw54, bew54⟩
        have sw54 := uw54.stp h10.inM hlow h10.ge
        have frw54 := qw54.2
        replace h9 := h9.stp sw54 (frw54 b9 h9.lt ne_h10_h9.symm)
        replace hE := hE.trans sw54.below
        replace ht := Rep.stp ht sw54
        replace hk := hk.stp sw54
        replace hb := hb.stp sw54
        replace hc := hc.stp sw54
        replace hd := hd.stp sw54
        replace h4 := h4.stp sw54
        replace hx := Rep.stp hx sw54
        replace hy := Rep.stp hy sw54
        replace hsub := fun b h => sw54.sub b (hsub b h)
        replace hlow := sw54.low
        replace hB := Nat.le_trans hB sw54.upd.1
        replace hS : Ext w54 w54 := ext_refl _
        replace h10 : MB w.heap.size _ w54 b10 _ [.int .u8 y.op, .string y.name, .int .i64 y.n, kvy] := ⟨hw54, h10.inM, h10.ge⟩
        have D_hk := hk
        have D_hb := hb
        have D_hc := hc
        have D_hd := hd
        have D_h4 := h4
        have D_h10 := h10.box
        have D_h9 := h9.box
        refine a_end (by kernel_rfl) ?_
        exact x_cut4 (b9) (b10) (kvx) (kvy) (s3 rfl rfl rfl) ⟨h9.box.at (fun h => absurd (hlow0 _ h) (by have := h9.ge; omega)), h10.box.at (fun h => absurd (hlow0 _ h) (by have := h10.ge; omega)), Rep.wk hx (fun b _ h => hsub b h), Rep.wk hy (fun b _ h => hsub b h), hd.wk (fun b _ h => hsub b h), (fun b h => hlow b (hsub b h)), hE, hB⟩
      refine o_new tbOk rfl rfl rfl ?_
      intro b9 w55 qb9 ew55 hb9
      have gS_b9 := Nat.le_trans hS.size (Nat.le_of_eq qb9.symm)
      replace hS := hS.then ew55
      have ne_h10_h9 : b10 ≠ b9 := by have := h10.lt; omega
      have sw55 := Stp.add ew55 hlow hB (Nat.le_of_eq qb9.symm) hb9.lt
      have h9 : MB w.heap.size (Rw.Add (Rw.Add M b10) b9) w55 b9 25 [.int .u8 0, .string ⟨#[]⟩, .int .i64 0, .slice none 0 0] := MB.mk' hb9 qb9 hB
      replace h10 := h10.stp sw55 (ew55.block b10 h10.lt)
      replace hE := hE.trans sw55.below
      replace ht := Rep.stp ht sw55
      replace hk := hk.stp sw55
      replace hb := hb.stp sw55
      replace hc := hc.stp sw55
      replace hd := hd.stp sw55
      replace h4 := h4.stp sw55
      replace hx := Rep.stp hx sw55
      replace hsub := fun b h => sw55.sub b (hsub b h)
      replace hlow := sw55.low
      replace hB := Nat.le_trans hB sw55.upd.1
      refine ⟨hS, ?_⟩
      refine a_one 5 rfl (by kernel_rfl) (o_call fo54 rfl rfl rfl (Loosen_own t c _ _ _ _ ht hc hlow hpt) ?_)
      rintro vy w56 ⟨hy, ew56⟩
      replace hy := hy.repNew hlow
      replace hS := hS.then ew56
      replace h10 := h10.ext hlow hB ew56
      replace h9 := h9.ext hlow hB ew56
      replace hE := hE.trans (Below.mono ew56 hB)
      replace ht := Rep.ext ht ew56
      replace hk := hk.ext ew56
      replace hb := hb.ext ew56
      replace hc := hc.ext ew56
      replace hd := hd.ext ew56
      replace h4 := h4.ext ew56
      replace hx := Rep.ext hx ew56
      replace hlow := hlow.ext ew56
      replace hB := Nat.le_trans hB ew56.size
      refine ⟨hS, ?_⟩
      rw [hY] at hy
      obtain ⟨kvy, rfl, opy, nmy, n64y, hky⟩ := ty_open hy
      refine a_barS Ext 8 rfl (by kernel_rfl) (by kernel_rfl) (o_st tbOk h9.box rfl rfl rfl rfl (Rep.one hx) rfl rfl ?_)
      intro w57 hw57 qw57 bew57
      have uw57 : UpdB _ _ _ := ⟨qw57, bew57⟩
      have sw57 := uw57.stp h9.inM hlow h9.ge
      have frw57 := qw57.2
      replace h10 := h10.stp sw57 (frw57 b10 h10.lt ne_h10_h9)
      replace hE := hE.trans sw57.below
      replace ht := Rep.stp ht sw57
      replace hk := hk.stp sw57
      replace hb := hb.stp sw57
      replace hc := hc.stp sw57
      replace hd := hd.stp sw57
      replace h4 := h4.stp sw57
      replace hx := Rep.stp hx sw57
      replace hy := Rep.stp hy sw57
      replace hsub := fun b h => sw57.sub b (hsub b h)
      replace hlow := sw57.low
      replace hB := Nat.le_trans hB sw57.upd.1
      replace hS : Ext w57 w57 := ext_refl _
      replace h9 : MB w.heap.size _ w57 b9 _ [.int .u8 x.op, .string x.name, .int .i64 x.n, kvx] := ⟨hw57, h9.inM, h9.ge⟩
      have D_hk := hk
      have D_hb := hb
      have D_hc := hc
      have D_hd := hd
      have D_h4 := h4
      have D_h10 := h10.box
      have D_h9 := h9.box
      refine a_barS Ext 9 rfl (by kernel_rfl) (by kernel_rfl) (o_st tbOk h10.box rfl rfl rfl rfl (Rep.one hy) rfl rfl ?_)
      intro w58 hw58 qw58 bew58
      have uw58 : UpdB _ _ _ := ⟨qw58, bew58⟩
      have sw58 := uw58.stp h10.inM hlow h10.ge
      have frw58 := qw58.2
      replace h9 := h9.stp sw58 (frw58 b9 h9.lt ne_h10_h9.symm)
      replace hE := hE.trans sw58.below
      replace ht := Rep.stp ht sw58
      replace hk := hk.stp sw58
      replace hb := hb.stp sw58
      replace hc := hc.stp sw58
      replace hd := hd.stp sw58
      replace h4 := h4.stp sw58
      replace hx := Rep.stp hx sw58
      replace hy := Rep.stp hy sw58
      replace hsub := fun b h => sw58.sub b (hsub b h)
      replace hlow := sw58.low
      replace hB := Nat.le_trans hB sw58.upd.1
      replace hS : Ext w58 w58 := ext_refl _
      replace h10 : MB w.heap.size _ w58 b10 _ [.int .u8 y.op, .string y.name, .int .i64 y.n, kvy] := ⟨hw58, h10.inM, h10.ge⟩
      have D_hk := hk
      have D_hb := hb
      have D_hc := hc
      have D_hd := hd
      have D_h4 := h4
      have D_h10 := h10.box
      have D_h9 := h9.box
      refine a_end (by kernel_rfl) ?_
      exact x_cut4 (b9) (b10) (kvx) (kvy) (s3 rfl rfl rfl) ⟨h9.box.at (fun h => absurd (hlow0 _ h) (by have := h9.ge; omega)), h10.box.at (fun h => absurd (hlow0 _ h) (by have := h10.ge; omega)), Rep.wk hx (fun b _ h => hsub b h), Rep.wk hy (fun b _ h => hsub b h), hd.wk (fun b _ h => hsub b h), (fun b h => hlow b (hsub b h)), hE, hB⟩
    refine o_new tbOk rfl rfl rfl ?_
    intro b9 w59 qb9 ew59 hb9
    have gS_b9 := Nat.le_trans hS.size (Nat.le_of_eq qb9.symm)
    replace hS := hS.then ew59
    have ne_h10_h9 : b10 ≠ b9 := by have := h10.lt; omega
    have sw59 := Stp.add ew59 hlow hB (Nat.le_of_eq qb9.symm) hb9.lt
    have h9 : MB w.heap.size (Rw.Add (Rw.Add M b10) b9) w59 b9 25 [.int .u8 0, .string ⟨#[]⟩, .int .i64 0, .slice none 0 0] := MB.mk' hb9 qb9 hB
    replace h10 := h10.stp sw59 (ew59.block b10 h10.lt)
    replace hE := hE.trans sw59.below
    replace ht := Rep.stp ht sw59
    replace hk := hk.stp sw59
    replace hb := hb.stp sw59
    replace hc := hc.stp sw59
    replace hd := hd.stp sw59
    replace h4 := h4.stp sw59
    replace hsub := fun b h => sw59.sub b (hsub b h)
    replace hlow := sw59.low
    replace hB := Nat.le_trans hB sw59.upd.1
    refine ⟨hS, ?_⟩
    refine a_one 2 rfl (by kernel_rfl) (o_call fo54 rfl rfl rfl (Loosen_own t b _ _ _ _ ht hb hlow hpt) ?_)
    rintro vx w60 ⟨hx, ew60⟩
    replace hx := hx.repNew hlow
    replace hS := hS.then ew60
    replace h10 := h10.ext hlow hB ew60
    replace h9 := h9.ext hlow hB ew60
    replace hE := hE.trans (Below.mono ew60 hB)
    replace ht := Rep.ext ht ew60
    replace hk := hk.ext ew60
    replace hb := hb.ext ew60
    replace hc := hc.ext ew60
    replace hd := hd.ext ew60
    replace h4 := h4.ext ew60
    replace hlow := hlow.ext ew60
    replace hB := Nat.le_trans hB ew60.size
    refine ⟨hS, ?_⟩
    rw [hX] at hx
    obtain ⟨kvx, rfl, opx, nmx, n64x, hkx⟩ := ty_open hx
    refine a_one 5 rfl (by kernel_rfl) (o_call fo54 rfl rfl rfl (Loosen_own t c _ _ _ _ ht hc hlow hpt) ?_)
    rintro vy w61 ⟨hy, ew61⟩
    replace hy := hy.repNew hlow
    replace hS := hS.then ew61
    replace h10 := h10.ext hlow hB ew61
    replace h9 := h9.ext hlow hB ew61
    replace hE := hE.trans (Below.mono ew61 hB)
    replace ht := Rep.ext ht ew61
    replace hk := hk.ext ew61
    replace hb := hb.ext ew61
    replace hc := hc.ext ew61
    replace hd := hd.ext ew61
    replace h4 := h4.ext ew61
    replace hx := Rep.ext hx ew61
    replace hlow := hlow.ext ew61
    replace hB := Nat.le_trans hB ew61.size
    refine ⟨hS, ?_⟩
    rw [hY] at hy
    obtain ⟨kvy, rfl, opy, nmy, n64y, hky⟩ := ty_open hy
    refine a_barS Ext 8 rfl (by kernel_rfl) (by kernel_rfl) (o_st tbOk h9.box rfl rfl rfl rfl (Rep.one hx) rfl rfl ?_)
    intro w62 hw62 qw62 bew62
    have uw62 : UpdB _ _ _ := ⟨qw62, bew62⟩
    have sw62 := uw62.stp h9.inM hlow h9.ge
    have frw62 := qw62.2
    replace h10 := h10.stp sw62 (frw62 b10 h10.lt ne_h10_h9)
    replace hE := hE.trans sw62.below
    replace ht := Rep.stp ht sw62
    replace hk := hk.stp sw62
    replace hb := hb.stp sw62
    replace hc := hc.stp sw62
    replace hd := hd.stp sw62
    replace h4 := h4.stp sw62
    replace hx := Rep.stp hx sw62
    replace hy := Rep.stp hy sw62
    replace hsub := fun b h => sw62.sub b (hsub b h)
    replace hlow := sw62.low
    replace hB := Nat.le_trans hB sw62.upd.1
    replace hS : Ext w62 w62 := ext_refl _
    replace h9 : MB w.heap.size _ w62 b9 _ [.int .u8 x.op, .string x.name, .int .i64 x.n, kvx] := ⟨hw62, h9.inM, h9.ge⟩
    have D_hk := hk
    have D_hb := hb
    have D_hc := hc
    have D_hd := hd
    have D_h4 := h4
    have D_h10 := h10.box
    have D_h9 := h9.box
    refine a_barS Ext 9 rfl (by kernel_rfl) (by kernel_rfl) (o_st tbOk h10.box rfl rfl rfl rfl (Rep.one hy) rfl rfl ?_)
    intro w63 hw63 qw63 bew63
    have uw63 : UpdB _ _ _ := ⟨qw63, bew63⟩
    have sw63 := uw63.stp h10.inM hlow h10.ge
    have frw63 := qw63.2
    replace h9 := h9.stp sw63 (frw63 b9 h9.lt ne_h10_h9.symm)
    replace hE := hE.trans sw63.below
    replace ht := Rep.stp ht sw63
    replace hk := hk.stp sw63
    replace hb := hb.stp sw63
    replace hc := hc.stp sw63
    replace hd := hd.stp sw63
    replace h4 := h4.stp sw63
    replace hx := Rep.stp hx sw63
    replace hy := Rep.stp hy sw63
    replace hsub := fun b h => sw63.sub b (hsub b h)
    replace hlow := sw63.low
    replace hB := Nat.le_trans hB sw63.upd.1
    replace hS : Ext w63 w63 := ext_refl _
    replace h10 : MB w.heap.size _ w63 b10 _ [.int .u8 y.op, .string y.name, .int .i64 y.n, kvy] := ⟨hw63, h10.inM, h10.ge⟩
    have D_hk := hk
    have D_hb := hb
    have D_hc := hc
    have D_hd := hd
    have D_h4 := h4
    have D_h10 := h10.box
    have D_h9 := h9.box
    refine a_end (by kernel_rfl) ?_
    exact x_cut4 (b9) (b10) (kvx) (kvy) (s3 rfl rfl rfl) ⟨h9.box.at (fun h => absurd (hlow0 _ h) (by have := h9.ge; omega)), h10.box.at (fun h => absurd (hlow0 _ h) (by have := h10.ge; omega)), Rep.wk hx (fun b _ h => hsub b h), Rep.wk hy (fun b _ h => hsub b h), hd.wk (fun b _ h => hsub b h), (fun b h => hlow b (hsub b h)), hE, hB⟩
  clear ht hb hc hd h4 hk hlow hE hB hsub
  rintro b9 b10 kvx kvy w6 ⟨h9, h10, hx, hy, hd, hlow, hE, hB⟩
  refine q0 ?_
  refine l_cons (o_lds tbOk (fun j v hv => h10.cell j v hv) rfl rfl rfl rfl rfl rfl ?_)
  refine l_p 1 tbOk rfl ?_
  have hrz := right_LoosF hry d
  have hlz := less_LoosF hry d
  have hpz : psz (LoosF y d) ≤ 2000000 := Nat.le_trans (psz_LoosF hry d) hpy
  generalize hZ : LoosF y d = z at hrz hlz hpz
  refine l_cons (o_call fo54 rfl rfl rfl (Loosen_own y d _ _ _ _ hy hd hlow hpy) ?_)
  rintro vz w64 ⟨hz, ew64⟩
  replace hz := hz.repNew hlow
  replace hE := hE.trans (Below.mono ew64 hB)
  replace h9 := h9.ext ew64
  replace h10 := h10.ext ew64
  replace hx := Rep.ext hx ew64
  replace hy := Rep.ext hy ew64
  replace hd := hd.ext ew64
  replace hlow := hlow.ext ew64
  replace hB := Nat.le_trans hB ew64.size
  rw [hZ] at hz
  have hltz := less_trans _ t y z (Nat.le_refl _) hrt hry hrz hly hlz
  have hxy := cons_mono _ t x y (Nat.le_refl _) hrt hrx hry hlx (less_cons _ t y (Nat.le_refl _) hrt hry hly)
  have hxz := cons_mono _ t x z (Nat.le_refl _) hrt hrx hrz hlx (less_cons _ t z (Nat.le_refl _) hrt hrz hltz)
  obtain ⟨kvz, rfl, opz, nmz, n64z, hkz⟩ := ty_open hz
  refine l_cons (o_new tbOk rfl rfl rfl ?_)
  intro b11 w65 qb11 ew65 hb11
  have nb11 := nM_of hlow qb11
  refine l_cons (o_st tbOk hb11 rfl rfl rfl rfl (Rep.one hz) rfl rfl ?_)
  intro w66 h11 uw66 bew66
  have ew66 : Ext w64 w66 := ew65.trans (bew66 _ (Nat.le_of_eq qb11.symm))
  replace hE := hE.trans (Below.mono ew66 hB)
  replace h9 := h9.ext ew66
  replace h10 := h10.ext ew66
  replace hx := Rep.ext hx ew66
  replace hy := Rep.ext hy ew66
  replace hd := hd.ext ew66
  replace hz := Rep.ext hz ew66
  replace hlow := hlow.ext ew66
  replace hB := Nat.le_trans hB ew66.size
  replace h11 : Box w66 b11 25 [.int .u8 z.op, .string z.name, .int .i64 z.n, kvz] := h11
  replace h11 := h11.at nb11
  refine q1 (q0 ?_)
  refine l_cons (o_lds tbOk (fun j v hv => h9.cell j v hv) rfl rfl rfl rfl rfl rfl ?_)
  refine l_cons (o_lds tbOk (fun j v hv => h10.cell j v hv) rfl rfl rfl rfl rfl rfl ?_)
  have k5 := consistent_spec x y _ _ _ _ hx hy hlow hpx hpy
  rw [asked_right hrx hry] at k5
  rw [show holdsF false x y = true from hxy] at k5
  refine l_cons (o_call fo40 rfl rfl rfl (k5) ?_)
  rintro _ w67 ⟨rfl, ew67⟩
  replace hE := hE.trans (Below.mono ew67 hB)
  replace h9 := h9.ext ew67
  replace h10 := h10.ext ew67
  replace hx := Rep.ext hx ew67
  replace hy := Rep.ext hy ew67
  replace hd := hd.ext ew67
  replace hz := Rep.ext hz ew67
  replace h11 := h11.ext ew67
  replace hlow := hlow.ext ew67
  replace hB := Nat.le_trans hB ew67.size
  refine l_p 1 tbOk rfl ?_
  refine l_cons (o_lds tbOk (fun j v hv => h10.cell j v hv) rfl rfl rfl rfl rfl rfl ?_)
  refine l_cons (o_lds tbOk (fun j v hv => h9.cell j v hv) rfl rfl rfl rfl rfl rfl ?_)
  have k6 := consistent_spec y x _ _ _ _ hy hx hlow hpy hpx
  rw [asked_right hry hrx] at k6
  rw [show holdsF false y x = true from cons_symm _ x y (Nat.le_refl _) hrx hry hxy] at k6
  refine l_cons (o_call fo40 rfl rfl rfl (k6) ?_)
  rintro _ w68 ⟨rfl, ew68⟩
  replace hE := hE.trans (Below.mono ew68 hB)
  replace h9 := h9.ext ew68
  replace h10 := h10.ext ew68
  replace hx := Rep.ext hx ew68
  replace hy := Rep.ext hy ew68
  replace hd := hd.ext ew68
  replace hz := Rep.ext hz ew68
  replace h11 := h11.ext ew68
  replace hlow := hlow.ext ew68
  replace hB := Nat.le_trans hB ew68.size
  refine l_p 2 tbOk rfl ?_
  refine l_cons (o_lds tbOk (fun j v hv => h9.cell j v hv) rfl rfl rfl rfl rfl rfl ?_)
  refine l_cons (o_lds tbOk (fun j v hv => h11.cell j v hv) rfl rfl rfl rfl rfl rfl ?_)
  have k7 := consistent_spec x z _ _ _ _ hx hz hlow hpx hpz
  rw [asked_right hrx hrz] at k7
  rw [show holdsF false x z = true from hxz] at k7
  refine l_cons (o_call fo40 rfl rfl rfl (k7) ?_)
  rintro _ w69 ⟨rfl, ew69⟩
  replace hE := hE.trans (Below.mono ew69 hB)
  replace h9 := h9.ext ew69
  replace h10 := h10.ext ew69
  replace hx := Rep.ext hx ew69
  replace hy := Rep.ext hy ew69
  replace hd := hd.ext ew69
  replace hz := Rep.ext hz ew69
  replace h11 := h11.ext ew69
  replace hlow := hlow.ext ew69
  replace hB := Nat.le_trans hB ew69.size
  refine l_p 2 tbOk rfl ?_
  refine l_cons (o_lds tbOk (fun j v hv => h11.cell j v hv) rfl rfl rfl rfl rfl rfl ?_)
  refine l_cons (o_lds tbOk (fun j v hv => h9.cell j v hv) rfl rfl rfl rfl rfl rfl ?_)
  have k8 := consistent_spec z x _ _ _ _ hz hx hlow hpz hpx
  rw [asked_right hrz hrx] at k8
  rw [show holdsF false z x = true from cons_symm _ x z (Nat.le_refl _) hrx hrz hxz] at k8
  refine l_cons (o_call fo40 rfl rfl rfl (k8) ?_)
  rintro _ w70 ⟨rfl, ew70⟩
  replace hE := hE.trans (Below.mono ew70 hB)
  replace h9 := h9.ext ew70
  replace h10 := h10.ext ew70
  replace hx := Rep.ext hx ew70
  replace hy := Rep.ext hy ew70
  replace hd := hd.ext ew70
  replace hz := Rep.ext hz ew70
  replace h11 := h11.ext ew70
  replace hlow := hlow.ext ew70
  replace hB := Nat.le_trans hB ew70.size
  refine l_p 2 tbOk rfl (q1 (c_ret (x_ret1 rfl rfl ?_)))
  exact ⟨rfl, hE⟩

end Go.Proofs.Ytpoahmeacjggfaa
