/- Walks: the law KindsForms. Printed by wip/walks/kinds19.py. -/
import Derived.Test.YtpoahmeacjggfaaWo
import Derived.Test.YtpoahmeacjggfaaMore
namespace Go.Proofs.Ytpoahmeacjggfaa
open Go Rw Go.RowKit
set_option maxRecDepth 100000
set_option maxHeartbeats 2000000

/-- KindsForms: true. -/
theorem kindsForms_spec (t : Ty) (M : Nat → Prop) (w : World) (v : Value) (ht : Rep.R M w v t) (hz : psz t ≤ 2000000) (hlow : Low M w) :
    Calls Try.prog 8 #[v] w (Ret fun r w' => r = .bool true ∧ Ext w w') := by
  have hlow0 := hlow
  have hlow := hlow
  have hB : w.heap.size ≤ w.heap.size := Nat.le_refl _
  have hE : Below w.heap.size w w := Below.refl _ _
  have hsub : ∀ b, M b → M b := fun _ h => h
  obtain ⟨kv, rfl, op, nm, n64, hk⟩ := ty_open ht
  refine c_enter (n := 86) Try.func8 rfl rfl rfl ?_
  refine q0 ?_
  refine l_cons (o_box rfl rfl rfl ?_)
  intro b1 w1 hb_b1 ew1 h1
  replace h1 : Box _ b1 25 [.int .u8 t.op, .string t.name, .int .i64 t.n, kv] := h1
  replace h1 := h1.at (nM_of hlow hb_b1)
  replace hE := hE.trans (Below.mono ew1 hB)
  replace ht := Rep.ext ht ew1
  replace hk := hk.ext ew1
  replace hlow := hlow.ext ew1
  replace hB := Nat.le_trans hB ew1.size
  generalize hCT : (bif rightB t || rowB t then canonF t else (Ty.mk 0 ⟨#[]⟩ 0 [])) = ct
  generalize hNT : (bif rightB t || rowB t then numberF t else (Ty.mk 0 ⟨#[]⟩ 0 [])) = nt
  generalize hVT : (bif rightB t || rowB t then varsF t else []) = vt
  refine l_p 1 tbOk rfl (q1 (c_seq (q0 ?_)))
  refine l_cons (o_call fo14 rfl rfl rfl (alive_spec _ _ hlow) ?_)
  rintro _ w2 ⟨rfl, ew2⟩
  replace hE := hE.trans (Below.mono ew2 hB)
  replace ht := Rep.ext ht ew2
  replace hk := hk.ext ew2
  replace h1 := h1.ext ew2
  replace hlow := hlow.ext ew2
  replace hB := Nat.le_trans hB ew2.size
  refine l_p 1 tbOk rfl (q1 ?_)
  refine c_ifB _ rfl (fun c1 => ?_) (fun c1 => ?_)
  · exact absurd c1 (by simp)
  refine c_skip (x_seq (c_seq (q0 ?_)))
  refine l_cons (o_lds tbOk (fun j v hv => h1.cell j v hv) rfl rfl rfl rfl rfl rfl ?_)
  refine l_cons (o_call fo15 rfl rfl rfl (many_spec t _ _ _ ht hlow hz) ?_)
  rintro _ w3 ⟨rfl, ew3⟩
  replace hE := hE.trans (Below.mono ew3 hB)
  replace ht := Rep.ext ht ew3
  replace hk := hk.ext ew3
  replace h1 := h1.ext ew3
  replace hlow := hlow.ext ew3
  replace hB := Nat.le_trans hB ew3.size
  refine q1 ?_
  refine c_if _ rfl (fun c2 => ?_) (fun c2 => ?_)
  · refine q0 (l_p 1 tbOk rfl (q1 (c_ret (x_seqR (x_ret1 rfl rfl ?_)))))
    exact ⟨rfl, hE⟩
  refine c_skip (x_seq ?_)
  refine c_cut5 (X := Nat) (Y := Nat) (Z := Value) (U := Value) (V := Value) (fun b3 b4 kvc kvn vv => [(1, .pointer (some ⟨b1, 0, none⟩)), (3, .pointer (some ⟨b3, 0, none⟩)), (4, .pointer (some ⟨b4, 0, none⟩)), (5, vv)]) (fun b3 b4 kvc kvn vv w' => At M w' b3 0 [.int .u8 ct.op, .string ct.name, .int .i64 ct.n, kvc] ∧ At M w' b4 0 [.int .u8 nt.op, .string nt.name, .int .i64 nt.n, kvn] ∧ Rep.R M w' (.agg #[.int .u8 ct.op, .string ct.name, .int .i64 ct.n, kvc]) ct ∧ Rep.R M w' (.agg #[.int .u8 nt.op, .string nt.name, .int .i64 nt.n, kvn]) nt ∧ Sl M w' vv vt ∧ At M w' b1 0 [.int .u8 t.op, .string t.name, .int .i64 t.n, kv] ∧ Rep.R M w' (.agg #[.int .u8 t.op, .string t.name, .int .i64 t.n, kv]) t ∧ Low M w' ∧ Below w.heap.size w w' ∧ w.heap.size ≤ w'.heap.size) ?_ ?_
  · refine a_beg Ext rfl ?_
    intro w4 ew4
    replace hE := hE.trans (Below.mono ew4 hB)
    replace ht := Rep.ext ht ew4
    replace hk := hk.ext ew4
    replace h1 := h1.ext ew4
    replace hlow := hlow.ext ew4
    replace hB := Nat.le_trans hB ew4.size
    have hS : Ext w4 w4 := ext_refl _
    have D_hk := hk
    have D_h1 := h1
    refine a_lds 0 tbOk (fun _ hs j v hv => (D_h1.ext hs).cell j v hv) rfl rfl rfl rfl rfl rfl rfl (by kernel_rfl) (fun _ _ _ h => h) hS ?_
    refine a_lds 2 tbOk (fun _ hs j v hv => (D_h1.ext hs).cell j v hv) rfl rfl rfl rfl rfl rfl rfl (by kernel_rfl) (fun _ _ _ h => h) hS ?_
    refine a_lds 4 tbOk (fun _ hs j v hv => (D_h1.ext hs).cell j v hv) rfl rfl rfl rfl rfl rfl rfl (by kernel_rfl) (fun _ _ _ h => h) hS ?_
    refine a_all [1, 6, 7] (by kernel_rfl) rfl (all_cons (i := 1) rfl ?_ (all_cons (i := 6) rfl ?_ (all_cons (i := 7) rfl ?_ all_nil)))
    · refine o_call fo43 rfl rfl rfl (Canon_own t _ _ _ ht hlow hz) ?_
      rintro vhc w5 ⟨hc, ew5⟩
      replace hc := hc.repNew hlow
      rw [hCT] at hc
      replace hS := hS.then ew5
      replace hE := hE.trans (Below.mono ew5 hB)
      replace ht := Rep.ext ht ew5
      replace hk := hk.ext ew5
      replace h1 := h1.ext ew5
      replace hlow := hlow.ext ew5
      replace hB := Nat.le_trans hB ew5.size
      refine ⟨hS, ?_⟩
      obtain ⟨kvct, rfl, opct, nmct, n64ct, hkct⟩ := ty_open hc
      refine a_all [3, 6, 7] (by kernel_rfl) rfl (all_cons (i := 3) rfl ?_ (all_cons (i := 6) rfl ?_ (all_cons (i := 7) rfl ?_ all_nil)))
      · refine o_call fo44 rfl rfl rfl (Number_own t _ _ _ ht hlow hz) ?_
        rintro vhn w6 ⟨hn, ew6⟩
        replace hn := hn.repNew hlow
        rw [hNT] at hn
        replace hS := hS.then ew6
        replace hE := hE.trans (Below.mono ew6 hB)
        replace ht := Rep.ext ht ew6
        replace hk := hk.ext ew6
        replace h1 := h1.ext ew6
        replace hc := Rep.ext hc ew6
        replace hlow := hlow.ext ew6
        replace hB := Nat.le_trans hB ew6.size
        refine ⟨hS, ?_⟩
        obtain ⟨kvnt, rfl, opnt, nmnt, n64nt, hknt⟩ := ty_open hn
        refine a_all [5, 6, 7] (by kernel_rfl) rfl (all_cons (i := 5) rfl ?_ (all_cons (i := 6) rfl ?_ (all_cons (i := 7) rfl ?_ all_nil)))
        · refine o_call fo45 rfl rfl rfl (kVars_spec t _ _ _ ht hlow hz) ?_
          rintro vhv w7 ⟨hv, ew7⟩
          replace hS := hS.then ew7
          replace hE := hE.trans (Below.mono ew7 hB)
          replace ht := Rep.ext ht ew7
          replace hk := hk.ext ew7
          replace h1 := h1.ext ew7
          replace hc := Rep.ext hc ew7
          replace hn := Rep.ext hn ew7
          replace hlow := hlow.ext ew7
          replace hB := Nat.le_trans hB ew7.size
          refine ⟨hS, ?_⟩
          rw [hVT] at hv
          refine a_all [6, 7] (by kernel_rfl) rfl (all_cons (i := 6) rfl ?_ (all_cons (i := 7) rfl ?_ all_nil))
          · refine o_new tbOk rfl rfl rfl ?_
            intro b3 w8 qb3 ew8 hb3
            have gS_b3 := Nat.le_trans hS.size (Nat.le_of_eq qb3.symm)
            replace hS := hS.then ew8
            have sw8 := Stp.add ew8 hlow hB (Nat.le_of_eq qb3.symm) hb3.lt
            have h3 : MB w.heap.size (Rw.Add M b3) w8 b3 25 [.int .u8 0, .string ⟨#[]⟩, .int .i64 0, .slice none 0 0] := MB.mk' hb3 qb3 hB
            replace hE := hE.trans sw8.below
            replace ht := Rep.stp ht sw8
            replace hk := hk.stp sw8
            replace h1 := h1.stp sw8
            replace hc := Rep.stp hc sw8
            replace hn := Rep.stp hn sw8
            replace hv := hv.stp sw8
            replace hsub := fun b h => sw8.sub b (hsub b h)
            replace hlow := sw8.low
            replace hB := Nat.le_trans hB sw8.upd.1
            refine ⟨hS, ?_⟩
            refine a_one 7 rfl (by kernel_rfl) (o_new tbOk rfl rfl rfl ?_)
            intro b4 w9 qb4 ew9 hb4
            have gS_b4 := Nat.le_trans hS.size (Nat.le_of_eq qb4.symm)
            replace hS := hS.then ew9
            have ne_h3_h4 : b3 ≠ b4 := by have := h3.lt; omega
            have sw9 := Stp.add ew9 hlow hB (Nat.le_of_eq qb4.symm) hb4.lt
            have h4 : MB w.heap.size (Rw.Add (Rw.Add M b3) b4) w9 b4 25 [.int .u8 0, .string ⟨#[]⟩, .int .i64 0, .slice none 0 0] := MB.mk' hb4 qb4 hB
            replace h3 := h3.stp sw9 (ew9.block b3 h3.lt)
            replace hE := hE.trans sw9.below
            replace ht := Rep.stp ht sw9
            replace hk := hk.stp sw9
            replace h1 := h1.stp sw9
            replace hc := Rep.stp hc sw9
            replace hn := Rep.stp hn sw9
            replace hv := hv.stp sw9
            replace hsub := fun b h => sw9.sub b (hsub b h)
            replace hlow := sw9.low
            replace hB := Nat.le_trans hB sw9.upd.1
            refine ⟨hS, ?_⟩
            refine a_barS Ext 8 rfl (by kernel_rfl) (by kernel_rfl) (o_st tbOk h3.box rfl rfl rfl rfl (Rep.one hc) rfl rfl ?_)
            intro w10 hw10 qw10 bew10
            have uw10 : UpdB _ _ _ := ⟨qw10, bew10⟩
            have sw10 := uw10.stp h3.inM hlow h3.ge
            have frw10 := qw10.2
            replace h4 := h4.stp sw10 (frw10 b4 h4.lt ne_h3_h4.symm)
            replace hE := hE.trans sw10.below
            replace ht := Rep.stp ht sw10
            replace hk := hk.stp sw10
            replace h1 := h1.stp sw10
            replace hc := Rep.stp hc sw10
            replace hn := Rep.stp hn sw10
            replace hv := hv.stp sw10
            replace hsub := fun b h => sw10.sub b (hsub b h)
            replace hlow := sw10.low
            replace hB := Nat.le_trans hB sw10.upd.1
            replace hS : Ext w10 w10 := ext_refl _
            replace h3 : MB w.heap.size _ w10 b3 _ [.int .u8 ct.op, .string ct.name, .int .i64 ct.n, kvct] := ⟨hw10, h3.inM, h3.ge⟩
            have D_hk := hk
            have D_h1 := h1
            have D_hv := hv
            have D_h3 := h3.box
            have D_h4 := h4.box
            refine a_barS Ext 9 rfl (by kernel_rfl) (by kernel_rfl) (o_st tbOk h4.box rfl rfl rfl rfl (Rep.one hn) rfl rfl ?_)
            intro w11 hw11 qw11 bew11
            have uw11 : UpdB _ _ _ := ⟨qw11, bew11⟩
            have sw11 := uw11.stp h4.inM hlow h4.ge
            have frw11 := qw11.2
            replace h3 := h3.stp sw11 (frw11 b3 h3.lt ne_h3_h4)
            replace hE := hE.trans sw11.below
            replace ht := Rep.stp ht sw11
            replace hk := hk.stp sw11
            replace h1 := h1.stp sw11
            replace hc := Rep.stp hc sw11
            replace hn := Rep.stp hn sw11
            replace hv := hv.stp sw11
            replace hsub := fun b h => sw11.sub b (hsub b h)
            replace hlow := sw11.low
            replace hB := Nat.le_trans hB sw11.upd.1
            replace hS : Ext w11 w11 := ext_refl _
            replace h4 : MB w.heap.size _ w11 b4 _ [.int .u8 nt.op, .string nt.name, .int .i64 nt.n, kvnt] := ⟨hw11, h4.inM, h4.ge⟩
            have D_hk := hk
            have D_h1 := h1
            have D_hv := hv
            have D_h3 := h3.box
            have D_h4 := h4.box
            refine a_p 10 tbOk rfl rfl rfl rfl (by kernel_rfl) (fun _ _ _ h => h) hS ?_
            refine a_end (by kernel_rfl) ?_
            exact x_cut5 (b3) (b4) (kvct) (kvnt) (vhv) (s4 rfl rfl rfl rfl) ⟨h3.box.at (fun h => absurd (hlow0 _ h) (by have := h3.ge; omega)), h4.box.at (fun h => absurd (hlow0 _ h) (by have := h4.ge; omega)), Rep.wk hc (fun b _ h => hsub b h), Rep.wk hn (fun b _ h => hsub b h), hv.wk (fun b _ h => hsub b h), h1.wk (fun b _ h => hsub b h), Rep.wk ht (fun b _ h => hsub b h), (fun b h => hlow b (hsub b h)), hE, hB⟩
          refine o_new tbOk rfl rfl rfl ?_
          intro b4 w12 qb4 ew12 hb4
          have gS_b4 := Nat.le_trans hS.size (Nat.le_of_eq qb4.symm)
          replace hS := hS.then ew12
          have sw12 := Stp.add ew12 hlow hB (Nat.le_of_eq qb4.symm) hb4.lt
          have h4 : MB w.heap.size (Rw.Add M b4) w12 b4 25 [.int .u8 0, .string ⟨#[]⟩, .int .i64 0, .slice none 0 0] := MB.mk' hb4 qb4 hB
          replace hE := hE.trans sw12.below
          replace ht := Rep.stp ht sw12
          replace hk := hk.stp sw12
          replace h1 := h1.stp sw12
          replace hc := Rep.stp hc sw12
          replace hn := Rep.stp hn sw12
          replace hv := hv.stp sw12
          replace hsub := fun b h => sw12.sub b (hsub b h)
          replace hlow := sw12.low
          replace hB := Nat.le_trans hB sw12.upd.1
          refine ⟨hS, ?_⟩
          refine a_one 6 rfl (by kernel_rfl) (o_new tbOk rfl rfl rfl ?_)
          intro b3 w13 qb3 ew13 hb3
          have gS_b3 := Nat.le_trans hS.size (Nat.le_of_eq qb3.symm)
          replace hS := hS.then ew13
          have ne_h4_h3 : b4 ≠ b3 := by have := h4.lt; omega
          have sw13 := Stp.add ew13 hlow hB (Nat.le_of_eq qb3.symm) hb3.lt
          have h3 : MB w.heap.size (Rw.Add (Rw.Add M b4) b3) w13 b3 25 [.int .u8 0, .string ⟨#[]⟩, .int .i64 0, .slice none 0 0] := MB.mk' hb3 qb3 hB
          replace h4 := h4.stp sw13 (ew13.block b4 h4.lt)
          replace hE := hE.trans sw13.below
          replace ht := Rep.stp ht sw13
          replace hk := hk.stp sw13
          replace h1 := h1.stp sw13
          replace hc := Rep.stp hc sw13
          replace hn := Rep.stp hn sw13
          replace hv := hv.stp sw13
          replace hsub := fun b h => sw13.sub b (hsub b h)
          replace hlow := sw13.low
          replace hB := Nat.le_trans hB sw13.upd.1
          refine ⟨hS, ?_⟩
          refine a_barS Ext 8 rfl (by kernel_rfl) (by kernel_rfl) (o_st tbOk h3.box rfl rfl rfl rfl (Rep.one hc) rfl rfl ?_)
          intro w14 hw14 qw14 bew14
          have uw14 : UpdB _ _ _ := ⟨qw14, bew14⟩
          have sw14 := uw14.stp h3.inM hlow h3.ge
          have frw14 := qw14.2
          replace h4 := h4.stp sw14 (frw14 b4 h4.lt ne_h4_h3)
          replace hE := hE.trans sw14.below
          replace ht := Rep.stp ht sw14
          replace hk := hk.stp sw14
          replace h1 := h1.stp sw14
          replace hc := Rep.stp hc sw14
          replace hn := Rep.stp hn sw14
          replace hv := hv.stp sw14
          replace hsub := fun b h => sw14.sub b (hsub b h)
          replace hlow := sw14.low
          replace hB := Nat.le_trans hB sw14.upd.1
          replace hS : Ext w14 w14 := ext_refl _
          replace h3 : MB w.heap.size _ w14 b3 _ [.int .u8 ct.op, .string ct.name, .int .i64 ct.n, kvct] := ⟨hw14, h3.inM, h3.ge⟩
          have D_hk := hk
          have D_h1 := h1
          have D_hv := hv
          have D_h4 := h4.box
          have D_h3 := h3.box
          refine a_barS Ext 9 rfl (by kernel_rfl) (by kernel_rfl) (o_st tbOk h4.box rfl rfl rfl rfl (Rep.one hn) rfl rfl ?_)
          intro w15 hw15 qw15 bew15
          have uw15 : UpdB _ _ _ := ⟨qw15, bew15⟩
          have sw15 := uw15.stp h4.inM hlow h4.ge
          have frw15 := qw15.2
          replace h3 := h3.stp sw15 (frw15 b3 h3.lt ne_h4_h3.symm)
          replace hE := hE.trans sw15.below
          replace ht := Rep.stp ht sw15
          replace hk := hk.stp sw15
          replace h1 := h1.stp sw15
          replace hc := Rep.stp hc sw15
          replace hn := Rep.stp hn sw15
          replace hv := hv.stp sw15
          replace hsub := fun b h => sw15.sub b (hsub b h)
          replace hlow := sw15.low
          replace hB := Nat.le_trans hB sw15.upd.1
          replace hS : Ext w15 w15 := ext_refl _
          replace h4 : MB w.heap.size _ w15 b4 _ [.int .u8 nt.op, .string nt.name, .int .i64 nt.n, kvnt] := ⟨hw15, h4.inM, h4.ge⟩
          have D_hk := hk
          have D_h1 := h1
          have D_hv := hv
          have D_h4 := h4.box
          have D_h3 := h3.box
          refine a_p 10 tbOk rfl rfl rfl rfl (by kernel_rfl) (fun _ _ _ h => h) hS ?_
          refine a_end (by kernel_rfl) ?_
          exact x_cut5 (b3) (b4) (kvct) (kvnt) (vhv) (s4 rfl rfl rfl rfl) ⟨h3.box.at (fun h => absurd (hlow0 _ h) (by have := h3.ge; omega)), h4.box.at (fun h => absurd (hlow0 _ h) (by have := h4.ge; omega)), Rep.wk hc (fun b _ h => hsub b h), Rep.wk hn (fun b _ h => hsub b h), hv.wk (fun b _ h => hsub b h), h1.wk (fun b _ h => hsub b h), Rep.wk ht (fun b _ h => hsub b h), (fun b h => hlow b (hsub b h)), hE, hB⟩
        · refine o_new tbOk rfl rfl rfl ?_
          intro b3 w16 qb3 ew16 hb3
          have gS_b3 := Nat.le_trans hS.size (Nat.le_of_eq qb3.symm)
          replace hS := hS.then ew16
          have sw16 := Stp.add ew16 hlow hB (Nat.le_of_eq qb3.symm) hb3.lt
          have h3 : MB w.heap.size (Rw.Add M b3) w16 b3 25 [.int .u8 0, .string ⟨#[]⟩, .int .i64 0, .slice none 0 0] := MB.mk' hb3 qb3 hB
          replace hE := hE.trans sw16.below
          replace ht := Rep.stp ht sw16
          replace hk := hk.stp sw16
          replace h1 := h1.stp sw16
          replace hc := Rep.stp hc sw16
          replace hn := Rep.stp hn sw16
          replace hsub := fun b h => sw16.sub b (hsub b h)
          replace hlow := sw16.low
          replace hB := Nat.le_trans hB sw16.upd.1
          refine ⟨hS, ?_⟩
          refine a_all [5, 7] (by kernel_rfl) rfl (all_cons (i := 5) rfl ?_ (all_cons (i := 7) rfl ?_ all_nil))
          · refine o_call fo45 rfl rfl rfl (kVars_spec t _ _ _ ht hlow hz) ?_
            rintro vhv w17 ⟨hv, ew17⟩
            replace hS := hS.then ew17
            replace h3 := h3.ext hlow hB ew17
            replace hE := hE.trans (Below.mono ew17 hB)
            replace ht := Rep.ext ht ew17
            replace hk := hk.ext ew17
            replace h1 := h1.ext ew17
            replace hc := Rep.ext hc ew17
            replace hn := Rep.ext hn ew17
            replace hlow := hlow.ext ew17
            replace hB := Nat.le_trans hB ew17.size
            refine ⟨hS, ?_⟩
            rw [hVT] at hv
            refine a_one 7 rfl (by kernel_rfl) (o_new tbOk rfl rfl rfl ?_)
            intro b4 w18 qb4 ew18 hb4
            have gS_b4 := Nat.le_trans hS.size (Nat.le_of_eq qb4.symm)
            replace hS := hS.then ew18
            have ne_h3_h4 : b3 ≠ b4 := by have := h3.lt; omega
            have sw18 := Stp.add ew18 hlow hB (Nat.le_of_eq qb4.symm) hb4.lt
            have h4 : MB w.heap.size (Rw.Add (Rw.Add M b3) b4) w18 b4 25 [.int .u8 0, .string ⟨#[]⟩, .int .i64 0, .slice none 0 0] := MB.mk' hb4 qb4 hB
            replace h3 := h3.stp sw18 (ew18.block b3 h3.lt)
            replace hE := hE.trans sw18.below
            replace ht := Rep.stp ht sw18
            replace hk := hk.stp sw18
            replace h1 := h1.stp sw18
            replace hc := Rep.stp hc sw18
            replace hn := Rep.stp hn sw18
            replace hv := hv.stp sw18
            replace hsub := fun b h => sw18.sub b (hsub b h)
            replace hlow := sw18.low
            replace hB := Nat.le_trans hB sw18.upd.1
            refine ⟨hS, ?_⟩
            refine a_barS Ext 8 rfl (by kernel_rfl) (by kernel_rfl) (o_st tbOk h3.box rfl rfl rfl rfl (Rep.one hc) rfl rfl ?_)
            intro w19 hw19 qw19 bew19
            have uw19 : UpdB _ _ _ := ⟨qw19, bew19⟩
            have sw19 := uw19.stp h3.inM hlow h3.ge
            have frw19 := qw19.2
            replace h4 := h4.stp sw19 (frw19 b4 h4.lt ne_h3_h4.symm)
            replace hE := hE.trans sw19.below
            replace ht := Rep.stp ht sw19
            replace hk := hk.stp sw19
            replace h1 := h1.stp sw19
            replace hc := Rep.stp hc sw19
            replace hn := Rep.stp hn sw19
            replace hv := hv.stp sw19
            replace hsub := fun b h => sw19.sub b (hsub b h)
            replace hlow := sw19.low
            replace hB := Nat.le_trans hB sw19.upd.1
            replace hS : Ext w19 w19 := ext_refl _
            replace h3 : MB w.heap.size _ w19 b3 _ [.int .u8 ct.op, .string ct.name, .int .i64 ct.n, kvct] := ⟨hw19, h3.inM, h3.ge⟩
            have D_hk := hk
            have D_h1 := h1
            have D_h3 := h3.box
            have D_hv := hv
            have D_h4 := h4.box
            refine a_barS Ext 9 rfl (by kernel_rfl) (by kernel_rfl) (o_st tbOk h4.box rfl rfl rfl rfl (Rep.one hn) rfl rfl ?_)
            intro w20 hw20 qw20 bew20
            have uw20 : UpdB _ _ _ := ⟨qw20, bew20⟩
            have sw20 := uw20.stp h4.inM hlow h4.ge
            have frw20 := qw20.2
            replace h3 := h3.stp sw20 (frw20 b3 h3.lt ne_h3_h4)
            replace hE := hE.trans sw20.below
            replace ht := Rep.stp ht sw20
            replace hk := hk.stp sw20
            replace h1 := h1.stp sw20
            replace hc := Rep.stp hc sw20
            replace hn := Rep.stp hn sw20
            replace hv := hv.stp sw20
            replace hsub := fun b h => sw20.sub b (hsub b h)
            replace hlow := sw20.low
            replace hB := Nat.le_trans hB sw20.upd.1
            replace hS : Ext w20 w20 := ext_refl _
            replace h4 : MB w.heap.size _ w20 b4 _ [.int .u8 nt.op, .string nt.name, .int .i64 nt.n, kvnt] := ⟨hw20, h4.inM, h4.ge⟩
            have D_hk := hk
            have D_h1 := h1
            have D_h3 := h3.box
            have D_hv := hv
            have D_h4 := h4.box
            refine a_p 10 tbOk rfl rfl rfl rfl (by kernel_rfl) (fun _ _ _ h => h) hS ?_
            refine a_end (by kernel_rfl) ?_
            exact x_cut5 (b3) (b4) (kvct) (kvnt) (vhv) (s4 rfl rfl rfl rfl) ⟨h3.box.at (fun h => absurd (hlow0 _ h) (by have := h3.ge; omega)), h4.box.at (fun h => absurd (hlow0 _ h) (by have := h4.ge; omega)), Rep.wk hc (fun b _ h => hsub b h), Rep.wk hn (fun b _ h => hsub b h), hv.wk (fun b _ h => hsub b h), h1.wk (fun b _ h => hsub b h), Rep.wk ht (fun b _ h => hsub b h), (fun b h => hlow b (hsub b h)), hE, hB⟩
          refine o_new tbOk rfl rfl rfl ?_
          intro b4 w21 qb4 ew21 hb4
          have gS_b4 := Nat.le_trans hS.size (Nat.le_of_eq qb4.symm)
          replace hS := hS.then ew21
          have ne_h3_h4 : b3 ≠ b4 := by have := h3.lt; omega
          have sw21 := Stp.add ew21 hlow hB (Nat.le_of_eq qb4.symm) hb4.lt
          have h4 : MB w.heap.size (Rw.Add (Rw.Add M b3) b4) w21 b4 25 [.int .u8 0, .string ⟨#[]⟩, .int .i64 0, .slice none 0 0] := MB.mk' hb4 qb4 hB
          replace h3 := h3.stp sw21 (ew21.block b3 h3.lt)
          replace hE := hE.trans sw21.below
          replace ht := Rep.stp ht sw21
          replace hk := hk.stp sw21
          replace h1 := h1.stp sw21
          replace hc := Rep.stp hc sw21
          replace hn := Rep.stp hn sw21
          replace hsub := fun b h => sw21.sub b (hsub b h)
          replace hlow := sw21.low
          replace hB := Nat.le_trans hB sw21.upd.1
          refine ⟨hS, ?_⟩
          refine a_one 5 rfl (by kernel_rfl) (o_call fo45 rfl rfl rfl (kVars_spec t _ _ _ ht hlow hz) ?_)
          rintro vhv w22 ⟨hv, ew22⟩
          replace hS := hS.then ew22
          replace h3 := h3.ext hlow hB ew22
          replace h4 := h4.ext hlow hB ew22
          replace hE := hE.trans (Below.mono ew22 hB)
          replace ht := Rep.ext ht ew22
          replace hk := hk.ext ew22
          replace h1 := h1.ext ew22
          replace hc := Rep.ext hc ew22
          replace hn := Rep.ext hn ew22
          replace hlow := hlow.ext ew22
          replace hB := Nat.le_trans hB ew22.size
          refine ⟨hS, ?_⟩
          rw [hVT] at hv
          refine a_barS Ext 8 rfl (by kernel_rfl) (by kernel_rfl) (o_st tbOk h3.box rfl rfl rfl rfl (Rep.one hc) rfl rfl ?_)
          intro w23 hw23 qw23 bew23
          have uw23 : UpdB _ _ _ := ⟨qw23, bew23⟩
          have sw23 := uw23.stp h3.inM hlow h3.ge
          have frw23 := qw23.2
          replace h4 := h4.stp sw23 (frw23 b4 h4.lt ne_h3_h4.symm)
          replace hE := hE.trans sw23.below
          replace ht := Rep.stp ht sw23
          replace hk := hk.stp sw23
          replace h1 := h1.stp sw23
          replace hc := Rep.stp hc sw23
          replace hn := Rep.stp hn sw23
          replace hv := hv.stp sw23
          replace hsub := fun b h => sw23.sub b (hsub b h)
          replace hlow := sw23.low
          replace hB := Nat.le_trans hB sw23.upd.1
          replace hS : Ext w23 w23 := ext_refl _
          replace h3 : MB w.heap.size _ w23 b3 _ [.int .u8 ct.op, .string ct.name, .int .i64 ct.n, kvct] := ⟨hw23, h3.inM, h3.ge⟩
          have D_hk := hk
          have D_h1 := h1
          have D_h3 := h3.box
          have D_h4 := h4.box
          have D_hv := hv
          refine a_barS Ext 9 rfl (by kernel_rfl) (by kernel_rfl) (o_st tbOk h4.box rfl rfl rfl rfl (Rep.one hn) rfl rfl ?_)
          intro w24 hw24 qw24 bew24
          have uw24 : UpdB _ _ _ := ⟨qw24, bew24⟩
          have sw24 := uw24.stp h4.inM hlow h4.ge
          have frw24 := qw24.2
          replace h3 := h3.stp sw24 (frw24 b3 h3.lt ne_h3_h4)
          replace hE := hE.trans sw24.below
          replace ht := Rep.stp ht sw24
          replace hk := hk.stp sw24
          replace h1 := h1.stp sw24
          replace hc := Rep.stp hc sw24
          replace hn := Rep.stp hn sw24
          replace hv := hv.stp sw24
          replace hsub := fun b h => sw24.sub b (hsub b h)
          replace hlow := sw24.low
          replace hB := Nat.le_trans hB sw24.upd.1
          replace hS : Ext w24 w24 := ext_refl _
          replace h4 : MB w.heap.size _ w24 b4 _ [.int .u8 nt.op, .string nt.name, .int .i64 nt.n, kvnt] := ⟨hw24, h4.inM, h4.ge⟩
          have D_hk := hk
          have D_h1 := h1
          have D_h3 := h3.box
          have D_h4 := h4.box
          have D_hv := hv
          refine a_p 10 tbOk rfl rfl rfl rfl (by kernel_rfl) (fun _ _ _ h => h) hS ?_
          refine a_end (by kernel_rfl) ?_
          exact x_cut5 (b3) (b4) (kvct) (kvnt) (vhv) (s4 rfl rfl rfl rfl) ⟨h3.box.at (fun h => absurd (hlow0 _ h) (by have := h3.ge; omega)), h4.box.at (fun h => absurd (hlow0 _ h) (by have := h4.ge; omega)), Rep.wk hc (fun b _ h => hsub b h), Rep.wk hn (fun b _ h => hsub b h), hv.wk (fun b _ h => hsub b h), h1.wk (fun b _ h => hsub b h), Rep.wk ht (fun b _ h => hsub b h), (fun b h => hlow b (hsub b h)), hE, hB⟩
        refine o_new tbOk rfl rfl rfl ?_
        intro b4 w25 qb4 ew25 hb4
        have gS_b4 := Nat.le_trans hS.size (Nat.le_of_eq qb4.symm)
        replace hS := hS.then ew25
        have sw25 := Stp.add ew25 hlow hB (Nat.le_of_eq qb4.symm) hb4.lt
        have h4 : MB w.heap.size (Rw.Add M b4) w25 b4 25 [.int .u8 0, .string ⟨#[]⟩, .int .i64 0, .slice none 0 0] := MB.mk' hb4 qb4 hB
        replace hE := hE.trans sw25.below
        replace ht := Rep.stp ht sw25
        replace hk := hk.stp sw25
        replace h1 := h1.stp sw25
        replace hc := Rep.stp hc sw25
        replace hn := Rep.stp hn sw25
        replace hsub := fun b h => sw25.sub b (hsub b h)
        replace hlow := sw25.low
        replace hB := Nat.le_trans hB sw25.upd.1
        refine ⟨hS, ?_⟩
        refine a_all [5, 6] (by kernel_rfl) rfl (all_cons (i := 5) rfl ?_ (all_cons (i := 6) rfl ?_ all_nil))
        · refine o_call fo45 rfl rfl rfl (kVars_spec t _ _ _ ht hlow hz) ?_
          rintro vhv w26 ⟨hv, ew26⟩
          replace hS := hS.then ew26
          replace h4 := h4.ext hlow hB ew26
          replace hE := hE.trans (Below.mono ew26 hB)
          replace ht := Rep.ext ht ew26
          replace hk := hk.ext ew26
          replace h1 := h1.ext ew26
          replace hc := Rep.ext hc ew26
          replace hn := Rep.ext hn ew26
          replace hlow := hlow.ext ew26
          replace hB := Nat.le_trans hB ew26.size
          refine ⟨hS, ?_⟩
          rw [hVT] at hv
          refine a_one 6 rfl (by kernel_rfl) (o_new tbOk rfl rfl rfl ?_)
          intro b3 w27 qb3 ew27 hb3
          have gS_b3 := Nat.le_trans hS.size (Nat.le_of_eq qb3.symm)
          replace hS := hS.then ew27
          have ne_h4_h3 : b4 ≠ b3 := by have := h4.lt; omega
          have sw27 := Stp.add ew27 hlow hB (Nat.le_of_eq qb3.symm) hb3.lt
          have h3 : MB w.heap.size (Rw.Add (Rw.Add M b4) b3) w27 b3 25 [.int .u8 0, .string ⟨#[]⟩, .int .i64 0, .slice none 0 0] := MB.mk' hb3 qb3 hB
          replace h4 := h4.stp sw27 (ew27.block b4 h4.lt)
          replace hE := hE.trans sw27.below
          replace ht := Rep.stp ht sw27
          replace hk := hk.stp sw27
          replace h1 := h1.stp sw27
          replace hc := Rep.stp hc sw27
          replace hn := Rep.stp hn sw27
          replace hv := hv.stp sw27
          replace hsub := fun b h => sw27.sub b (hsub b h)
          replace hlow := sw27.low
          replace hB := Nat.le_trans hB sw27.upd.1
          refine ⟨hS, ?_⟩
          refine a_barS Ext 8 rfl (by kernel_rfl) (by kernel_rfl) (o_st tbOk h3.box rfl rfl rfl rfl (Rep.one hc) rfl rfl ?_)
          intro w28 hw28 qw28 bew28
          have uw28 : UpdB _ _ _ := ⟨qw28, bew28⟩
          have sw28 := uw28.stp h3.inM hlow h3.ge
          have frw28 := qw28.2
          replace h4 := h4.stp sw28 (frw28 b4 h4.lt ne_h4_h3)
          replace hE := hE.trans sw28.below
          replace ht := Rep.stp ht sw28
          replace hk := hk.stp sw28
          replace h1 := h1.stp sw28
          replace hc := Rep.stp hc sw28
          replace hn := Rep.stp hn sw28
          replace hv := hv.stp sw28
          replace hsub := fun b h => sw28.sub b (hsub b h)
          replace hlow := sw28.low
          replace hB := Nat.le_trans hB sw28.upd.1
          replace hS : Ext w28 w28 := ext_refl _
          replace h3 : MB w.heap.size _ w28 b3 _ [.int .u8 ct.op, .string ct.name, .int .i64 ct.n, kvct] := ⟨hw28, h3.inM, h3.ge⟩
          have D_hk := hk
          have D_h1 := h1
          have D_h4 := h4.box
          have D_hv := hv
          have D_h3 := h3.box
          refine a_barS Ext 9 rfl (by kernel_rfl) (by kernel_rfl) (o_st tbOk h4.box rfl rfl rfl rfl (Rep.one hn) rfl rfl ?_)
          intro w29 hw29 qw29 bew29
          have uw29 : UpdB _ _ _ := ⟨qw29, bew29⟩
          have sw29 := uw29.stp h4.inM hlow h4.ge
          have frw29 := qw29.2
          replace h3 := h3.stp sw29 (frw29 b3 h3.lt ne_h4_h3.symm)
          replace hE := hE.trans sw29.below
          replace ht := Rep.stp ht sw29
          replace hk := hk.stp sw29
          replace h1 := h1.stp sw29
          replace hc := Rep.stp hc sw29
          replace hn := Rep.stp hn sw29
          replace hv := hv.stp sw29
          replace hsub := fun b h => sw29.sub b (hsub b h)
          replace hlow := sw29.low
          replace hB := Nat.le_trans hB sw29.upd.1
          replace hS : Ext w29 w29 := ext_refl _
          replace h4 : MB w.heap.size _ w29 b4 _ [.int .u8 nt.op, .string nt.name, .int .i64 nt.n, kvnt] := ⟨hw29, h4.inM, h4.ge⟩
          have D_hk := hk
          have D_h1 := h1
          have D_h4 := h4.box
          have D_hv := hv
          have D_h3 := h3.box
          refine a_p 10 tbOk rfl rfl rfl rfl (by kernel_rfl) (fun _ _ _ h => h) hS ?_
          refine a_end (by kernel_rfl) ?_
          exact x_cut5 (b3) (b4) (kvct) (kvnt) (vhv) (s4 rfl rfl rfl rfl) ⟨h3.box.at (fun h => absurd (hlow0 _ h) (by have := h3.ge; omega)), h4.box.at (fun h => absurd (hlow0 _ h) (by have := h4.ge; omega)), Rep.wk hc (fun b _ h => hsub b h), Rep.wk hn (fun b _ h => hsub b h), hv.wk (fun b _ h => hsub b h), h1.wk (fun b _ h => hsub b h), Rep.wk ht (fun b _ h => hsub b h), (fun b h => hlow b (hsub b h)), hE, hB⟩
        refine o_new tbOk rfl rfl rfl ?_
        intro b3 w30 qb3 ew30 hb3
        have gS_b3 := Nat.le_trans hS.size (Nat.le_of_eq qb3.symm)
        replace hS := hS.then ew30
        have ne_h4_h3 : b4 ≠ b3 := by have := h4.lt; omega
        have sw30 := Stp.add ew30 hlow hB (Nat.le_of_eq qb3.symm) hb3.lt
        have h3 : MB w.heap.size (Rw.Add (Rw.Add M b4) b3) w30 b3 25 [.int .u8 0, .string ⟨#[]⟩, .int .i64 0, .slice none 0 0] := MB.mk' hb3 qb3 hB
        replace h4 := h4.stp sw30 (ew30.block b4 h4.lt)
        replace hE := hE.trans sw30.below
        replace ht := Rep.stp ht sw30
        replace hk := hk.stp sw30
        replace h1 := h1.stp sw30
        replace hc := Rep.stp hc sw30
        replace hn := Rep.stp hn sw30
        replace hsub := fun b h => sw30.sub b (hsub b h)
        replace hlow := sw30.low
        replace hB := Nat.le_trans hB sw30.upd.1
        refine ⟨hS, ?_⟩
        refine a_one 5 rfl (by kernel_rfl) (o_call fo45 rfl rfl rfl (kVars_spec t _ _ _ ht hlow hz) ?_)
        rintro vhv w31 ⟨hv, ew31⟩
        replace hS := hS.then ew31
        replace h4 := h4.ext hlow hB ew31
        replace h3 := h3.ext hlow hB ew31
        replace hE := hE.trans (Below.mono ew31 hB)
        replace ht := Rep.ext ht ew31
        replace hk := hk.ext ew31
        replace h1 := h1.ext ew31
        replace hc := Rep.ext hc ew31
        replace hn := Rep.ext hn ew31
        replace hlow := hlow.ext ew31
        replace hB := Nat.le_trans hB ew31.size
        refine ⟨hS, ?_⟩
        rw [hVT] at hv
        refine a_barS Ext 8 rfl (by kernel_rfl) (by kernel_rfl) (o_st tbOk h3.box rfl rfl rfl rfl (Rep.one hc) rfl rfl ?_)
        intro w32 hw32 qw32 bew32
        have uw32 : UpdB _ _ _ := ⟨qw32, bew32⟩
        have sw32 := uw32.stp h3.inM hlow h3.ge
        have frw32 := qw32.2
        replace h4 := h4.stp sw32 (frw32 b4 h4.lt ne_h4_h3)
        replace hE := hE.trans sw32.below
        replace ht := Rep.stp ht sw32
        replace hk := hk.stp sw32
        replace h1 := h1.stp sw32
        replace hc := Rep.stp hc sw32
        replace hn := Rep.stp hn sw32
        replace hv := hv.stp sw32
        replace hsub := fun b h => sw32.sub b (hsub b h)
        replace hlow := sw32.low
        replace hB := Nat.le_trans hB sw32.upd.1
        replace hS : Ext w32 w32 := ext_refl _
        replace h3 : MB w.heap.size _ w32 b3 _ [.int .u8 ct.op, .string ct.name, .int .i64 ct.n, kvct] := ⟨hw32, h3.inM, h3.ge⟩
        have D_hk := hk
        have D_h1 := h1
        have D_h4 := h4.box
        have D_h3 := h3.box
        have D_hv := hv
        refine a_barS Ext 9 rfl (by kernel_rfl) (by kernel_rfl) (o_st tbOk h4.box rfl rfl rfl rfl (Rep.one hn) rfl rfl ?_)
        intro w33 hw33 qw33 bew33
        have uw33 : UpdB _ _ _ := ⟨qw33, bew33⟩
        have sw33 := uw33.stp h4.inM hlow h4.ge
        have frw33 := qw33.2
        replace h3 := h3.stp sw33 (frw33 b3 h3.lt ne_h4_h3.symm)
        replace hE := hE.trans sw33.below
        replace ht := Rep.stp ht sw33
        replace hk := hk.stp sw33
        replace h1 := h1.stp sw33
        replace hc := Rep.stp hc sw33
        replace hn := Rep.stp hn sw33
        replace hv := hv.stp sw33
        replace hsub := fun b h => sw33.sub b (hsub b h)
        replace hlow := sw33.low
        replace hB := Nat.le_trans hB sw33.upd.1
        replace hS : Ext w33 w33 := ext_refl _
        replace h4 : MB w.heap.size _ w33 b4 _ [.int .u8 nt.op, .string nt.name, .int .i64 nt.n, kvnt] := ⟨hw33, h4.inM, h4.ge⟩
        have D_hk := hk
        have D_h1 := h1
        have D_h4 := h4.box
        have D_h3 := h3.box
        have D_hv := hv
        refine a_p 10 tbOk rfl rfl rfl rfl (by kernel_rfl) (fun _ _ _ h => h) hS ?_
        refine a_end (by kernel_rfl) ?_
        exact x_cut5 (b3) (b4) (kvct) (kvnt) (vhv) (s4 rfl rfl rfl rfl) ⟨h3.box.at (fun h => absurd (hlow0 _ h) (by have := h3.ge; omega)), h4.box.at (fun h => absurd (hlow0 _ h) (by have := h4.ge; omega)), Rep.wk hc (fun b _ h => hsub b h), Rep.wk hn (fun b _ h => hsub b h), hv.wk (fun b _ h => hsub b h), h1.wk (fun b _ h => hsub b h), Rep.wk ht (fun b _ h => hsub b h), (fun b h => hlow b (hsub b h)), hE, hB⟩
      · refine o_new tbOk rfl rfl rfl ?_
        intro b3 w34 qb3 ew34 hb3
        have gS_b3 := Nat.le_trans hS.size (Nat.le_of_eq qb3.symm)
        replace hS := hS.then ew34
        have sw34 := Stp.add ew34 hlow hB (Nat.le_of_eq qb3.symm) hb3.lt
        have h3 : MB w.heap.size (Rw.Add M b3) w34 b3 25 [.int .u8 0, .string ⟨#[]⟩, .int .i64 0, .slice none 0 0] := MB.mk' hb3 qb3 hB
        replace hE := hE.trans sw34.below
        replace ht := Rep.stp ht sw34
        replace hk := hk.stp sw34
        replace h1 := h1.stp sw34
        replace hc := Rep.stp hc sw34
        replace hsub := fun b h => sw34.sub b (hsub b h)
        replace hlow := sw34.low
        replace hB := Nat.le_trans hB sw34.upd.1
        refine ⟨hS, ?_⟩
        refine a_all [3, 7] (by kernel_rfl) rfl (all_cons (i := 3) rfl ?_ (all_cons (i := 7) rfl ?_ all_nil))
        · refine o_call fo44 rfl rfl rfl (Number_own t _ _ _ ht hlow hz) ?_
          rintro vhn w35 ⟨hn, ew35⟩
          replace hn := hn.repNew hlow
          rw [hNT] at hn
          replace hS := hS.then ew35
          replace h3 := h3.ext hlow hB ew35
          replace hE := hE.trans (Below.mono ew35 hB)
          replace ht := Rep.ext ht ew35
          replace hk := hk.ext ew35
          replace h1 := h1.ext ew35
          replace hc := Rep.ext hc ew35
          replace hlow := hlow.ext ew35
          replace hB := Nat.le_trans hB ew35.size
          refine ⟨hS, ?_⟩
          obtain ⟨kvnt, rfl, opnt, nmnt, n64nt, hknt⟩ := ty_open hn
          refine a_all [5, 7] (by kernel_rfl) rfl (all_cons (i := 5) rfl ?_ (all_cons (i := 7) rfl ?_ all_nil))
          · refine o_call fo45 rfl rfl rfl (kVars_spec t _ _ _ ht hlow hz) ?_
            rintro vhv w36 ⟨hv, ew36⟩
            replace hS := hS.then ew36
            replace h3 := h3.ext hlow hB ew36
            replace hE := hE.trans (Below.mono ew36 hB)
            replace ht := Rep.ext ht ew36
            replace hk := hk.ext ew36
            replace h1 := h1.ext ew36
            replace hc := Rep.ext hc ew36
            replace hn := Rep.ext hn ew36
            replace hlow := hlow.ext ew36
            replace hB := Nat.le_trans hB ew36.size
            refine ⟨hS, ?_⟩
            rw [hVT] at hv
            refine a_one 7 rfl (by kernel_rfl) (o_new tbOk rfl rfl rfl ?_)
            intro b4 w37 qb4 ew37 hb4
            have gS_b4 := Nat.le_trans hS.size (Nat.le_of_eq qb4.symm)
            replace hS := hS.then ew37
            have ne_h3_h4 : b3 ≠ b4 := by have := h3.lt; omega
            have sw37 := Stp.add ew37 hlow hB (Nat.le_of_eq qb4.symm) hb4.lt
            have h4 : MB w.heap.size (Rw.Add (Rw.Add M b3) b4) w37 b4 25 [.int .u8 0, .string ⟨#[]⟩, .int .i64 0, .slice none 0 0] := MB.mk' hb4 qb4 hB
            replace h3 := h3.stp sw37 (ew37.block b3 h3.lt)
            replace hE := hE.trans sw37.below
            replace ht := Rep.stp ht sw37
            replace hk := hk.stp sw37
            replace h1 := h1.stp sw37
            replace hc := Rep.stp hc sw37
            replace hn := Rep.stp hn sw37
            replace hv := hv.stp sw37
            replace hsub := fun b h => sw37.sub b (hsub b h)
            replace hlow := sw37.low
            replace hB := Nat.le_trans hB sw37.upd.1
            refine ⟨hS, ?_⟩
            refine a_barS Ext 8 rfl (by kernel_rfl) (by kernel_rfl) (o_st tbOk h3.box rfl rfl rfl rfl (Rep.one hc) rfl rfl ?_)
            intro w38 hw38 qw38 bew38
            have uw38 : UpdB _ _ _ := ⟨qw38, bew38⟩
            have sw38 := uw38.stp h3.inM hlow h3.ge
            have frw38 := qw38.2
            replace h4 := h4.stp sw38 (frw38 b4 h4.lt ne_h3_h4.symm)
            replace hE := hE.trans sw38.below
            replace ht := Rep.stp ht sw38
            replace hk := hk.stp sw38
            replace h1 := h1.stp sw38
            replace hc := Rep.stp hc sw38
            replace hn := Rep.stp hn sw38
            replace hv := hv.stp sw38
            replace hsub := fun b h => sw38.sub b (hsub b h)
            replace hlow := sw38.low
            replace hB := Nat.le_trans hB sw38.upd.1
            replace hS : Ext w38 w38 := ext_refl _
            replace h3 : MB w.heap.size _ w38 b3 _ [.int .u8 ct.op, .string ct.name, .int .i64 ct.n, kvct] := ⟨hw38, h3.inM, h3.ge⟩
            have D_hk := hk
            have D_h1 := h1
            have D_h3 := h3.box
            have D_hv := hv
            have D_h4 := h4.box
            refine a_barS Ext 9 rfl (by kernel_rfl) (by kernel_rfl) (o_st tbOk h4.box rfl rfl rfl rfl (Rep.one hn) rfl rfl ?_)
            intro w39 hw39 qw39 bew39
            have uw39 : UpdB _ _ _ := ⟨qw39, bew39⟩
            have sw39 := uw39.stp h4.inM hlow h4.ge
            have frw39 := qw39.2
            replace h3 := h3.stp sw39 (frw39 b3 h3.lt ne_h3_h4)
            replace hE := hE.trans sw39.below
            replace ht := Rep.stp ht sw39
            replace hk := hk.stp sw39
            replace h1 := h1.stp sw39
            replace hc := Rep.stp hc sw39
            replace hn := Rep.stp hn sw39
            replace hv := hv.stp sw39
            replace hsub := fun b h => sw39.sub b (hsub b h)
            replace hlow := sw39.low
            replace hB := Nat.le_trans hB sw39.upd.1
            replace hS : Ext w39 w39 := ext_refl _
            replace h4 : MB w.heap.size _ w39 b4 _ [.int .u8 nt.op, .string nt.name, .int .i64 nt.n, kvnt] := ⟨hw39, h4.inM, h4.ge⟩
            have D_hk := hk
            have D_h1 := h1
            have D_h3 := h3.box
            have D_hv := hv
            have D_h4 := h4.box
            refine a_p 10 tbOk rfl rfl rfl rfl (by kernel_rfl) (fun _ _ _ h => h) hS ?_
            refine a_end (by kernel_rfl) ?_
            exact x_cut5 (b3) (b4) (kvct) (kvnt) (vhv) (s4 rfl rfl rfl rfl) ⟨h3.box.at (fun h => absurd (hlow0 _ h) (by have := h3.ge; omega)), h4.box.at (fun h => absurd (hlow0 _ h) (by have := h4.ge; omega)), Rep.wk hc (fun b _ h => hsub b h), Rep.wk hn (fun b _ h => hsub b h), hv.wk (fun b _ h => hsub b h), h1.wk (fun b _ h => hsub b h), Rep.wk ht (fun b _ h => hsub b h), (fun b h => hlow b (hsub b h)), hE, hB⟩
          refine o_new tbOk rfl rfl rfl ?_
          intro b4 w40 qb4 ew40 hb4
          have gS_b4 := Nat.le_trans hS.size (Nat.le_of_eq qb4.symm)
          replace hS := hS.then ew40
          have ne_h3_h4 : b3 ≠ b4 := by have := h3.lt; omega
          have sw40 := Stp.add ew40 hlow hB (Nat.le_of_eq qb4.symm) hb4.lt
          have h4 : MB w.heap.size (Rw.Add (Rw.Add M b3) b4) w40 b4 25 [.int .u8 0, .string ⟨#[]⟩, .int .i64 0, .slice none 0 0] := MB.mk' hb4 qb4 hB
          replace h3 := h3.stp sw40 (ew40.block b3 h3.lt)
          replace hE := hE.trans sw40.below
          replace ht := Rep.stp ht sw40
          replace hk := hk.stp sw40
          replace h1 := h1.stp sw40
          replace hc := Rep.stp hc sw40
          replace hn := Rep.stp hn sw40
          replace hsub := fun b h => sw40.sub b (hsub b h)
          replace hlow := sw40.low
          replace hB := Nat.le_trans hB sw40.upd.1
          refine ⟨hS, ?_⟩
          refine a_one 5 rfl (by kernel_rfl) (o_call fo45 rfl rfl rfl (kVars_spec t _ _ _ ht hlow hz) ?_)
          rintro vhv w41 ⟨hv, ew41⟩
          replace hS := hS.then ew41
          replace h3 := h3.ext hlow hB ew41
          replace h4 := h4.ext hlow hB ew41
          replace hE := hE.trans (Below.mono ew41 hB)
          replace ht := Rep.ext ht ew41
          replace hk := hk.ext ew41
          replace h1 := h1.ext ew41
          replace hc := Rep.ext hc ew41
          replace hn := Rep.ext hn ew41
          replace hlow := hlow.ext ew41
          replace hB := Nat.le_trans hB ew41.size
          refine ⟨hS, ?_⟩
          rw [hVT] at hv
          refine a_barS Ext 8 rfl (by kernel_rfl) (by kernel_rfl) (o_st tbOk h3.box rfl rfl rfl rfl (Rep.one hc) rfl rfl ?_)
          intro w42 hw42 qw42 bew42
          have uw42 : UpdB _ _ _ := ⟨qw42, bew42⟩
          have sw42 := uw42.stp h3.inM hlow h3.ge
          have frw42 := qw42.2
          replace h4 := h4.stp sw42 (frw42 b4 h4.lt ne_h3_h4.symm)
          replace hE := hE.trans sw42.below
          replace ht := Rep.stp ht sw42
          replace hk := hk.stp sw42
          replace h1 := h1.stp sw42
          replace hc := Rep.stp hc sw42
          replace hn := Rep.stp hn sw42
          replace hv := hv.stp sw42
          replace hsub := fun b h => sw42.sub b (hsub b h)
          replace hlow := sw42.low
          replace hB := Nat.le_trans hB sw42.upd.1
          replace hS : Ext w42 w42 := ext_refl _
          replace h3 : MB w.heap.size _ w42 b3 _ [.int .u8 ct.op, .string ct.name, .int .i64 ct.n, kvct] := ⟨hw42, h3.inM, h3.ge⟩
          have D_hk := hk
          have D_h1 := h1
          have D_h3 := h3.box
          have D_h4 := h4.box
          have D_hv := hv
          refine a_barS Ext 9 rfl (by kernel_rfl) (by kernel_rfl) (o_st tbOk h4.box rfl rfl rfl rfl (Rep.one hn) rfl rfl ?_)
          intro w43 hw43 qw43 bew43
          have uw43 : UpdB _ _ _ := ⟨qw43, bew43⟩
          have sw43 := uw43.stp h4.inM hlow h4.ge
          have frw43 := qw43.2
          replace h3 := h3.stp sw43 (frw43 b3 h3.lt ne_h3_h4)
          replace hE := hE.trans sw43.below
          replace ht := Rep.stp ht sw43
          replace hk := hk.stp sw43
          replace h1 := h1.stp sw43
          replace hc := Rep.stp hc sw43
          replace hn := Rep.stp hn sw43
          replace hv := hv.stp sw43
          replace hsub := fun b h => sw43.sub b (hsub b h)
          replace hlow := sw43.low
          replace hB := Nat.le_trans hB sw43.upd.1
          replace hS : Ext w43 w43 := ext_refl _
          replace h4 : MB w.heap.size _ w43 b4 _ [.int .u8 nt.op, .string nt.name, .int .i64 nt.n, kvnt] := ⟨hw43, h4.inM, h4.ge⟩
          have D_hk := hk
          have D_h1 := h1
          have D_h3 := h3.box
          have D_h4 := h4.box
          have D_hv := hv
          refine a_p 10 tbOk rfl rfl rfl rfl (by kernel_rfl) (fun _ _ _ h => h) hS ?_
          refine a_end (by kernel_rfl) ?_
          exact x_cut5 (b3) (b4) (kvct) (kvnt) (vhv) (s4 rfl rfl rfl rfl) ⟨h3.box.at (fun h => absurd (hlow0 _ h) (by have := h3.ge; omega)), h4.box.at (fun h => absurd (hlow0 _ h) (by have := h4.ge; omega)), Rep.wk hc (fun b _ h => hsub b h), Rep.wk hn (fun b _ h => hsub b h), hv.wk (fun b _ h => hsub b h), h1.wk (fun b _ h => hsub b h), Rep.wk ht (fun b _ h => hsub b h), (fun b h => hlow b (hsub b h)), hE, hB⟩
        refine o_new tbOk rfl rfl rfl ?_
        intro b4 w44 qb4 ew44 hb4
        have gS_b4 := Nat.le_trans hS.size (Nat.le_of_eq qb4.symm)
        replace hS := hS.then ew44
        have ne_h3_h4 : b3 ≠ b4 := by have := h3.lt; omega
        have sw44 := Stp.add ew44 hlow hB (Nat.le_of_eq qb4.symm) hb4.lt
        have h4 : MB w.heap.size (Rw.Add (Rw.Add M b3) b4) w44 b4 25 [.int .u8 0, .string ⟨#[]⟩, .int .i64 0, .slice none 0 0] := MB.mk' hb4 qb4 hB
        replace h3 := h3.stp sw44 (ew44.block b3 h3.lt)
        replace hE := hE.trans sw44.below
        replace ht := Rep.stp ht sw44
        replace hk := hk.stp sw44
        replace h1 := h1.stp sw44
        replace hc := Rep.stp hc sw44
        replace hsub := fun b h => sw44.sub b (hsub b h)
        replace hlow := sw44.low
        replace hB := Nat.le_trans hB sw44.upd.1
        refine ⟨hS, ?_⟩
        refine a_one 3 rfl (by kernel_rfl) (o_call fo44 rfl rfl rfl (Number_own t _ _ _ ht hlow hz) ?_)
        rintro vhn w45 ⟨hn, ew45⟩
        replace hn := hn.repNew hlow
        rw [hNT] at hn
        replace hS := hS.then ew45
        replace h3 := h3.ext hlow hB ew45
        replace h4 := h4.ext hlow hB ew45
        replace hE := hE.trans (Below.mono ew45 hB)
        replace ht := Rep.ext ht ew45
        replace hk := hk.ext ew45
        replace h1 := h1.ext ew45
        replace hc := Rep.ext hc ew45
        replace hlow := hlow.ext ew45
        replace hB := Nat.le_trans hB ew45.size
        refine ⟨hS, ?_⟩
        obtain ⟨kvnt, rfl, opnt, nmnt, n64nt, hknt⟩ := ty_open hn
        refine a_one 5 rfl (by kernel_rfl) (o_call fo45 rfl rfl rfl (kVars_spec t _ _ _ ht hlow hz) ?_)
        rintro vhv w46 ⟨hv, ew46⟩
        replace hS := hS.then ew46
        replace h3 := h3.ext hlow hB ew46
        replace h4 := h4.ext hlow hB ew46
        replace hE := hE.trans (Below.mono ew46 hB)
        replace ht := Rep.ext ht ew46
        replace hk := hk.ext ew46
        replace h1 := h1.ext ew46
        replace hc := Rep.ext hc ew46
        replace hn := Rep.ext hn ew46
        replace hlow := hlow.ext ew46
        replace hB := Nat.le_trans hB ew46.size
        refine ⟨hS, ?_⟩
        rw [hVT] at hv
        refine a_barS Ext 8 rfl (by kernel_rfl) (by kernel_rfl) (o_st tbOk h3.box rfl rfl rfl rfl (Rep.one hc) rfl rfl ?_)
        intro w47 hw47 qw47 bew47
        have uw47 : UpdB _ _ _ := ⟨qw47, bew47⟩
        have sw47 := uw47.stp h3.inM hlow h3.ge
        have frw47 := qw47.2
        replace h4 := h4.stp sw47 (frw47 b4 h4.lt ne_h3_h4.symm)
        replace hE := hE.trans sw47.below
        replace ht := Rep.stp ht sw47
        replace hk := hk.stp sw47
        replace h1 := h1.stp sw47
        replace hc := Rep.stp hc sw47
        replace hn := Rep.stp hn sw47
        replace hv := hv.stp sw47
        replace hsub := fun b h => sw47.sub b (hsub b h)
        replace hlow := sw47.low
        replace hB := Nat.le_trans hB sw47.upd.1
        replace hS : Ext w47 w47 := ext_refl _
        replace h3 : MB w.heap.size _ w47 b3 _ [.int .u8 ct.op, .string ct.name, .int .i64 ct.n, kvct] := ⟨hw47, h3.inM, h3.ge⟩
        have D_hk := hk
        have D_h1 := h1
        have D_h3 := h3.box
        have D_h4 := h4.box
        have D_hv := hv
        refine a_barS Ext 9 rfl (by kernel_rfl) (by kernel_rfl) (o_st tbOk h4.box rfl rfl rfl rfl (Rep.one hn) rfl rfl ?_)
        intro w48 hw48 qw48 bew48
        have uw48 : UpdB _ _ _ := ⟨qw48, bew48⟩
        have sw48 := uw48.stp h4.inM hlow h4.ge
        have frw48 := qw48.2
        replace h3 := h3.stp sw48 (frw48 b3 h3.lt ne_h3_h4)
        replace hE := hE.trans sw48.below
        replace ht := Rep.stp ht sw48
        replace hk := hk.stp sw48
        replace h1 := h1.stp sw48
        replace hc := Rep.stp hc sw48
        replace hn := Rep.stp hn sw48
        replace hv := hv.stp sw48
        replace hsub := fun b h => sw48.sub b (hsub b h)
        replace hlow := sw48.low
        replace hB := Nat.le_trans hB sw48.upd.1
        replace hS : Ext w48 w48 := ext_refl _
        replace h4 : MB w.heap.size _ w48 b4 _ [.int .u8 nt.op, .string nt.name, .int .i64 nt.n, kvnt] := ⟨hw48, h4.inM, h4.ge⟩
        have D_hk := hk
        have D_h1 := h1
        have D_h3 := h3.box
        have D_h4 := h4.box
        have D_hv := hv
        refine a_p 10 tbOk rfl rfl rfl rfl (by kernel_rfl) (fun _ _ _ h => h) hS ?_
        refine a_end (by kernel_rfl) ?_
        exact x_cut5 (b3) (b4) (kvct) (kvnt) (vhv) (s4 rfl rfl rfl rfl) ⟨h3.box.at (fun h => absurd (hlow0 _ h) (by have := h3.ge; omega)), h4.box.at (fun h => absurd (hlow0 _ h) (by have := h4.ge; omega)), Rep.wk hc (fun b _ h => hsub b h), Rep.wk hn (fun b _ h => hsub b h), hv.wk (fun b _ h => hsub b h), h1.wk (fun b _ h => hsub b h), Rep.wk ht (fun b _ h => hsub b h), (fun b h => hlow b (hsub b h)), hE, hB⟩
      refine o_new tbOk rfl rfl rfl ?_
      intro b4 w49 qb4 ew49 hb4
      have gS_b4 := Nat.le_trans hS.size (Nat.le_of_eq qb4.symm)
      replace hS := hS.then ew49
      have sw49 := Stp.add ew49 hlow hB (Nat.le_of_eq qb4.symm) hb4.lt
      have h4 : MB w.heap.size (Rw.Add M b4) w49 b4 25 [.int .u8 0, .string ⟨#[]⟩, .int .i64 0, .slice none 0 0] := MB.mk' hb4 qb4 hB
      replace hE := hE.trans sw49.below
      replace ht := Rep.stp ht sw49
      replace hk := hk.stp sw49
      replace h1 := h1.stp sw49
      replace hc := Rep.stp hc sw49
      replace hsub := fun b h => sw49.sub b (hsub b h)
      replace hlow := sw49.low
      replace hB := Nat.le_trans hB sw49.upd.1
      refine ⟨hS, ?_⟩
      refine a_all [3, 6] (by kernel_rfl) rfl (all_cons (i := 3) rfl ?_ (all_cons (i := 6) rfl ?_ all_nil))
      · refine o_call fo44 rfl rfl rfl (Number_own t _ _ _ ht hlow hz) ?_
        rintro vhn w50 ⟨hn, ew50⟩
        replace hn := hn.repNew hlow
        rw [hNT] at hn
        replace hS := hS.then ew50
        replace h4 := h4.ext hlow hB ew50
        replace hE := hE.trans (Below.mono ew50 hB)
        replace ht := Rep.ext ht ew50
        replace hk := hk.ext ew50
        replace h1 := h1.ext ew50
        replace hc := Rep.ext hc ew50
        replace hlow := hlow.ext ew50
        replace hB := Nat.le_trans hB ew50.size
        refine ⟨hS, ?_⟩
        obtain ⟨kvnt, rfl, opnt, nmnt, n64nt, hknt⟩ := ty_open hn
        refine a_all [5, 6] (by kernel_rfl) rfl (all_cons (i := 5) rfl ?_ (all_cons (i := 6) rfl ?_ all_nil))
        · refine o_call fo45 rfl rfl rfl (kVars_spec t _ _ _ ht hlow hz) ?_
          rintro vhv w51 ⟨hv, ew51⟩
          replace hS := hS.then ew51
          replace h4 := h4.ext hlow hB ew51
          replace hE := hE.trans (Below.mono ew51 hB)
          replace ht := Rep.ext ht ew51
          replace hk := hk.ext ew51
          replace h1 := h1.ext ew51
          replace hc := Rep.ext hc ew51
          replace hn := Rep.ext hn ew51
          replace hlow := hlow.ext ew51
          replace hB := Nat.le_trans hB ew51.size
          refine ⟨hS, ?_⟩
          rw [hVT] at hv
          refine a_one 6 rfl (by kernel_rfl) (o_new tbOk rfl rfl rfl ?_)
          intro b3 w52 qb3 ew52 hb3
          have gS_b3 := Nat.le_trans hS.size (Nat.le_of_eq qb3.symm)
          replace hS := hS.then ew52
          have ne_h4_h3 : b4 ≠ b3 := by have := h4.lt; omega
          have sw52 := Stp.add ew52 hlow hB (Nat.le_of_eq qb3.symm) hb3.lt
          have h3 : MB w.heap.size (Rw.Add (Rw.Add M b4) b3) w52 b3 25 [.int .u8 0, .string ⟨#[]⟩, .int .i64 0, .slice none 0 0] := MB.mk' hb3 qb3 hB
          replace h4 := h4.stp sw52 (ew52.block b4 h4.lt)
          replace hE := hE.trans sw52.below
          replace ht := Rep.stp ht sw52
          replace hk := hk.stp sw52
          replace h1 := h1.stp sw52
          replace hc := Rep.stp hc sw52
          replace hn := Rep.stp hn sw52
          replace hv := hv.stp sw52
          replace hsub := fun b h => sw52.sub b (hsub b h)
          replace hlow := sw52.low
          replace hB := Nat.le_trans hB sw52.upd.1
          refine ⟨hS, ?_⟩
          refine a_barS Ext 8 rfl (by kernel_rfl) (by kernel_rfl) (o_st tbOk h3.box rfl rfl rfl rfl (Rep.one hc) rfl rfl ?_)
          intro w53 hw53 qw53 bew53
          have uw53 : UpdB _ _ _ := ⟨qw53, bew53⟩
          have sw53 := uw53.stp h3.inM hlow h3.ge
          have frw53 := qw53.2
          replace h4 := h4.stp sw53 (frw53 b4 h4.lt ne_h4_h3)
          replace hE := hE.trans sw53.below
          replace ht := Rep.stp ht sw53
          replace hk := hk.stp sw53
          replace h1 := h1.stp sw53
          replace hc := Rep.stp hc sw53
          replace hn := Rep.stp hn sw53
          replace hv := hv.stp sw53
          replace hsub := fun b h => sw53.sub b (hsub b h)
          replace hlow := sw53.low
          replace hB := Nat.le_trans hB sw53.upd.1
          replace hS : Ext w53 w53 := ext_refl _
          replace h3 : MB w.heap.size _ w53 b3 _ [.int .u8 ct.op, .string ct.name, .int .i64 ct.n, kvct] := ⟨hw53, h3.inM, h3.ge⟩
          have D_hk := hk
          have D_h1 := h1
          have D_h4 := h4.box
          have D_hv := hv
          have D_h3 := h3.box
          refine a_barS Ext 9 rfl (by kernel_rfl) (by kernel_rfl) (o_st tbOk h4.box rfl rfl rfl rfl (Rep.one hn) rfl rfl ?_)
          intro w54 hw54 qw54 bew54
          have uw54 : UpdB _ _ _ := ⟨qw54, bew54⟩
          have sw54 := uw54.stp h4.inM hlow h4.ge
          have frw54 := qw54.2
          replace h3 := h3.stp sw54 (frw54 b3 h3.lt ne_h4_h3.symm)
          replace hE := hE.trans sw54.below
          replace ht := Rep.stp ht sw54
          replace hk := hk.stp sw54
          replace h1 := h1.stp sw54
          replace hc := Rep.stp hc sw54
          replace hn := Rep.stp hn sw54
          replace hv := hv.stp sw54
          replace hsub := fun b h => sw54.sub b (hsub b h)
          replace hlow := sw54.low
          replace hB := Nat.le_trans hB sw54.upd.1
          replace hS : Ext w54 w54 := ext_refl _
          replace h4 : MB w.heap.size _ w54 b4 _ [.int .u8 nt.op, .string nt.name, .int .i64 nt.n, kvnt] := ⟨hw54, h4.inM, h4.ge⟩
          have D_hk := hk
          have D_h1 := h1
          have D_h4 := h4.box
          have D_hv := hv
          have D_h3 := h3.box
          refine a_p 10 tbOk rfl rfl rfl rfl (by kernel_rfl) (fun _ _ _ h => h) hS ?_
          refine a_end (by kernel_rfl) ?_
          exact x_cut5 (b3) (b4) (kvct) (kvnt) (vhv) (s4 rfl rfl rfl rfl) ⟨h3.box.at (fun h => absurd (hlow0 _ h) (by have := h3.ge; omega)), h4.box.at (fun h => absurd (hlow0 _ h) (by have := h4.ge; omega)), Rep.wk hc (fun b _ h => hsub b h), Rep.wk hn (fun b _ h => hsub b h), hv.wk (fun b _ h => hsub b h), h1.wk (fun b _ h => hsub b h), Rep.wk ht (fun b _ h => hsub b h), (fun b h => hlow b (hsub b h)), hE, hB⟩
        refine o_new tbOk rfl rfl rfl ?_
        intro b3 w55 qb3 ew55 hb3
        have gS_b3 := Nat.le_trans hS.size (Nat.le_of_eq qb3.symm)
        replace hS := hS.then ew55
        have ne_h4_h3 : b4 ≠ b3 := by have := h4.lt; omega
        have sw55 := Stp.add ew55 hlow hB (Nat.le_of_eq qb3.symm) hb3.lt
        have h3 : MB w.heap.size (Rw.Add (Rw.Add M b4) b3) w55 b3 25 [.int .u8 0, .string ⟨#[]⟩, .int .i64 0, .slice none 0 0] := MB.mk' hb3 qb3 hB
        replace h4 := h4.stp sw55 (ew55.block b4 h4.lt)
        replace hE := hE.trans sw55.below
        replace ht := Rep.stp ht sw55
        replace hk := hk.stp sw55
        replace h1 := h1.stp sw55
        replace hc := Rep.stp hc sw55
        replace hn := Rep.stp hn sw55
        replace hsub := fun b h => sw55.sub b (hsub b h)
        replace hlow := sw55.low
        replace hB := Nat.le_trans hB sw55.upd.1
        refine ⟨hS, ?_⟩
        refine a_one 5 rfl (by kernel_rfl) (o_call fo45 rfl rfl rfl (kVars_spec t _ _ _ ht hlow hz) ?_)
        rintro vhv w56 ⟨hv, ew56⟩
        replace hS := hS.then ew56
        replace h4 := h4.ext hlow hB ew56
        replace h3 := h3.ext hlow hB ew56
        replace hE := hE.trans (Below.mono ew56 hB)
        replace ht := Rep.ext ht ew56
        replace hk := hk.ext ew56
        replace h1 := h1.ext ew56
        replace hc := Rep.ext hc ew56
        replace hn := Rep.ext hn ew56
        replace hlow := hlow.ext ew56
        replace hB := Nat.le_trans hB ew56.size
        refine ⟨hS, ?_⟩
        rw [hVT] at hv
        refine a_barS Ext 8 rfl (by kernel_rfl) (by kernel_rfl) (o_st tbOk h3.box rfl rfl rfl rfl (Rep.one hc) rfl rfl ?_)
        intro w57 hw57 qw57 bew57
        have uw57 : UpdB _ _ _ := ⟨qw57, bew57⟩
        have sw57 := uw57.stp h3.inM hlow h3.ge
        have frw57 := qw57.2
        replace h4 := h4.stp sw57 (frw57 b4 h4.lt ne_h4_h3)
        replace hE := hE.trans sw57.below
        replace ht := Rep.stp ht sw57
        replace hk := hk.stp sw57
        replace h1 := h1.stp sw57
        replace hc := Rep.stp hc sw57
        replace hn := Rep.stp hn sw57
        replace hv := hv.stp sw57
        replace hsub := fun b h => sw57.sub b (hsub b h)
        replace hlow := sw57.low
        replace hB := Nat.le_trans hB sw57.upd.1
        replace hS : Ext w57 w57 := ext_refl _
        replace h3 : MB w.heap.size _ w57 b3 _ [.int .u8 ct.op, .string ct.name, .int .i64 ct.n, kvct] := ⟨hw57, h3.inM, h3.ge⟩
        have D_hk := hk
        have D_h1 := h1
        have D_h4 := h4.box
        have D_h3 := h3.box
        have D_hv := hv
        refine a_barS Ext 9 rfl (by kernel_rfl) (by kernel_rfl) (o_st tbOk h4.box rfl rfl rfl rfl (Rep.one hn) rfl rfl ?_)
        intro w58 hw58 qw58 bew58
        have uw58 : UpdB _ _ _ := ⟨qw58, bew58⟩
        have sw58 := uw58.stp h4.inM hlow h4.ge
        have frw58 := qw58.2
        replace h3 := h3.stp sw58 (frw58 b3 h3.lt ne_h4_h3.symm)
        replace hE := hE.trans sw58.below
        replace ht := Rep.stp ht sw58
        replace hk := hk.stp sw58
        replace h1 := h1.stp sw58
        replace hc := Rep.stp hc sw58
        replace hn := Rep.stp hn sw58
        replace hv := hv.stp sw58
        replace hsub := fun b h => sw58.sub b (hsub b h)
        replace hlow := sw58.low
        replace hB := Nat.le_trans hB sw58.upd.1
        replace hS : Ext w58 w58 := ext_refl _
        replace h4 : MB w.heap.size _ w58 b4 _ [.int .u8 nt.op, .string nt.name, .int .i64 nt.n, kvnt] := ⟨hw58, h4.inM, h4.ge⟩
        have D_hk := hk
        have D_h1 := h1
        have D_h4 := h4.box
        have D_h3 := h3.box
        have D_hv := hv
        refine a_p 10 tbOk rfl rfl rfl rfl (by kernel_rfl) (fun _ _ _ h => h) hS ?_
        refine a_end (by kernel_rfl) ?_
        exact x_cut5 (b3) (b4) (kvct) (kvnt) (vhv) (s4 rfl rfl rfl rfl) ⟨h3.box.at (fun h => absurd (hlow0 _ h) (by have := h3.ge; omega)), h4.box.at (fun h => absurd (hlow0 _ h) (by have := h4.ge; omega)), Rep.wk hc (fun b _ h => hsub b h), Rep.wk hn (fun b _ h => hsub b h), hv.wk (fun b _ h => hsub b h), h1.wk (fun b _ h => hsub b h), Rep.wk ht (fun b _ h => hsub b h), (fun b h => hlow b (hsub b h)), hE, hB⟩
      refine o_new tbOk rfl rfl rfl ?_
      intro b3 w59 qb3 ew59 hb3
      have gS_b3 := Nat.le_trans hS.size (Nat.le_of_eq qb3.symm)
      replace hS := hS.then ew59
      have ne_h4_h3 : b4 ≠ b3 := by have := h4.lt; omega
      have sw59 := Stp.add ew59 hlow hB (Nat.le_of_eq qb3.symm) hb3.lt
      have h3 : MB w.heap.size (Rw.Add (Rw.Add M b4) b3) w59 b3 25 [.int .u8 0, .string ⟨#[]⟩, .int .i64 0, .slice none 0 0] := MB.mk' hb3 qb3 hB
      replace h4 := h4.stp sw59 (ew59.block b4 h4.lt)
      replace hE := hE.trans sw59.below
      replace ht := Rep.stp ht sw59
      replace hk := hk.stp sw59
      replace h1 := h1.stp sw59
      replace hc := Rep.stp hc sw59
      replace hsub := fun b h => sw59.sub b (hsub b h)
      replace hlow := sw59.low
      replace hB := Nat.le_trans hB sw59.upd.1
      refine ⟨hS, ?_⟩
      refine a_one 3 rfl (by kernel_rfl) (o_call fo44 rfl rfl rfl (Number_own t _ _ _ ht hlow hz) ?_)
      rintro vhn w60 ⟨hn, ew60⟩
      replace hn := hn.repNew hlow
      rw [hNT] at hn
      replace hS := hS.then ew60
      replace h4 := h4.ext hlow hB ew60
      replace h3 := h3.ext hlow hB ew60
      replace hE := hE.trans (Below.mono ew60 hB)
      replace ht := Rep.ext ht ew60
      replace hk := hk.ext ew60
      replace h1 := h1.ext ew60
      replace hc := Rep.ext hc ew60
      replace hlow := hlow.ext ew60
      replace hB := Nat.le_trans hB ew60.size
      refine ⟨hS, ?_⟩
      obtain ⟨kvnt, rfl, opnt, nmnt, n64nt, hknt⟩ := ty_open hn
      refine a_one 5 rfl (by kernel_rfl) (o_call fo45 rfl rfl rfl (kVars_spec t _ _ _ ht hlow hz) ?_)
      rintro vhv w61 ⟨hv, ew61⟩
      replace hS := hS.then ew61
      replace h4 := h4.ext hlow hB ew61
      replace h3 := h3.ext hlow hB ew61
      replace hE := hE.trans (Below.mono ew61 hB)
      replace ht := Rep.ext ht ew61
      replace hk := hk.ext ew61
      replace h1 := h1.ext ew61
      replace hc := Rep.ext hc ew61
      replace hn := Rep.ext hn ew61
      replace hlow := hlow.ext ew61
      replace hB := Nat.le_trans hB ew61.size
      refine ⟨hS, ?_⟩
      rw [hVT] at hv
      refine a_barS Ext 8 rfl (by kernel_rfl) (by kernel_rfl) (o_st tbOk h3.box rfl rfl rfl rfl (Rep.one hc) rfl rfl ?_)
      intro w62 hw62 qw62 bew62
      have uw62 : UpdB _ _ _ := ⟨qw62, bew62⟩
      have sw62 := uw62.stp h3.inM hlow h3.ge
      have frw62 := qw62.2
      replace h4 := h4.stp sw62 (frw62 b4 h4.lt ne_h4_h3)
      replace hE := hE.trans sw62.below
      replace ht := Rep.stp ht sw62
      replace hk := hk.stp sw62
      replace h1 := h1.stp sw62
      replace hc := Rep.stp hc sw62
      replace hn := Rep.stp hn sw62
      replace hv := hv.stp sw62
      replace hsub := fun b h => sw62.sub b (hsub b h)
      replace hlow := sw62.low
      replace hB := Nat.le_trans hB sw62.upd.1
      replace hS : Ext w62 w62 := ext_refl _
      replace h3 : MB w.heap.size _ w62 b3 _ [.int .u8 ct.op, .string ct.name, .int .i64 ct.n, kvct] := ⟨hw62, h3.inM, h3.ge⟩
      have D_hk := hk
      have D_h1 := h1
      have D_h4 := h4.box
      have D_h3 := h3.box
      have D_hv := hv
      refine a_barS Ext 9 rfl (by kernel_rfl) (by kernel_rfl) (o_st tbOk h4.box rfl rfl rfl rfl (Rep.one hn) rfl rfl ?_)
      intro w63 hw63 qw63 bew63
      have uw63 : UpdB _ _ _ := ⟨qw63, bew63⟩
      have sw63 := uw63.stp h4.inM hlow h4.ge
      have frw63 := qw63.2
      replace h3 := h3.stp sw63 (frw63 b3 h3.lt ne_h4_h3.symm)
      replace hE := hE.trans sw63.below
      replace ht := Rep.stp ht sw63
      replace hk := hk.stp sw63
      replace h1 := h1.stp sw63
      replace hc := Rep.stp hc sw63
      replace hn := Rep.stp hn sw63
      replace hv := hv.stp sw63
      replace hsub := fun b h => sw63.sub b (hsub b h)
      replace hlow := sw63.low
      replace hB := Nat.le_trans hB sw63.upd.1
      replace hS : Ext w63 w63 := ext_refl _
      replace h4 : MB w.heap.size _ w63 b4 _ [.int .u8 nt.op, .string nt.name, .int .i64 nt.n, kvnt] := ⟨hw63, h4.inM, h4.ge⟩
      have D_hk := hk
      have D_h1 := h1
      have D_h4 := h4.box
      have D_h3 := h3.box
      have D_hv := hv
      refine a_p 10 tbOk rfl rfl rfl rfl (by kernel_rfl) (fun _ _ _ h => h) hS ?_
      refine a_end (by kernel_rfl) ?_
      exact x_cut5 (b3) (b4) (kvct) (kvnt) (vhv) (s4 rfl rfl rfl rfl) ⟨h3.box.at (fun h => absurd (hlow0 _ h) (by have := h3.ge; omega)), h4.box.at (fun h => absurd (hlow0 _ h) (by have := h4.ge; omega)), Rep.wk hc (fun b _ h => hsub b h), Rep.wk hn (fun b _ h => hsub b h), hv.wk (fun b _ h => hsub b h), h1.wk (fun b _ h => hsub b h), Rep.wk ht (fun b _ h => hsub b h), (fun b h => hlow b (hsub b h)), hE, hB⟩
    · refine o_new tbOk rfl rfl rfl ?_
      intro b3 w64 qb3 ew64 hb3
      have gS_b3 := Nat.le_trans hS.size (Nat.le_of_eq qb3.symm)
      replace hS := hS.then ew64
      have sw64 := Stp.add ew64 hlow hB (Nat.le_of_eq qb3.symm) hb3.lt
      have h3 : MB w.heap.size (Rw.Add M b3) w64 b3 25 [.int .u8 0, .string ⟨#[]⟩, .int .i64 0, .slice none 0 0] := MB.mk' hb3 qb3 hB
      replace hE := hE.trans sw64.below
      replace ht := Rep.stp ht sw64
      replace hk := hk.stp sw64
      replace h1 := h1.stp sw64
      replace hsub := fun b h => sw64.sub b (hsub b h)
      replace hlow := sw64.low
      replace hB := Nat.le_trans hB sw64.upd.1
      refine ⟨hS, ?_⟩
      refine a_all [1, 7] (by kernel_rfl) rfl (all_cons (i := 1) rfl ?_ (all_cons (i := 7) rfl ?_ all_nil))
      · refine o_call fo43 rfl rfl rfl (Canon_own t _ _ _ ht hlow hz) ?_
        rintro vhc w65 ⟨hc, ew65⟩
        replace hc := hc.repNew hlow
        rw [hCT] at hc
        replace hS := hS.then ew65
        replace h3 := h3.ext hlow hB ew65
        replace hE := hE.trans (Below.mono ew65 hB)
        replace ht := Rep.ext ht ew65
        replace hk := hk.ext ew65
        replace h1 := h1.ext ew65
        replace hlow := hlow.ext ew65
        replace hB := Nat.le_trans hB ew65.size
        refine ⟨hS, ?_⟩
        obtain ⟨kvct, rfl, opct, nmct, n64ct, hkct⟩ := ty_open hc
        refine a_all [3, 7] (by kernel_rfl) rfl (all_cons (i := 3) rfl ?_ (all_cons (i := 7) rfl ?_ all_nil))
        · refine o_call fo44 rfl rfl rfl (Number_own t _ _ _ ht hlow hz) ?_
          rintro vhn w66 ⟨hn, ew66⟩
          replace hn := hn.repNew hlow
          rw [hNT] at hn
          replace hS := hS.then ew66
          replace h3 := h3.ext hlow hB ew66
          replace hE := hE.trans (Below.mono ew66 hB)
          replace ht := Rep.ext ht ew66
          replace hk := hk.ext ew66
          replace h1 := h1.ext ew66
          replace hc := Rep.ext hc ew66
          replace hlow := hlow.ext ew66
          replace hB := Nat.le_trans hB ew66.size
          refine ⟨hS, ?_⟩
          obtain ⟨kvnt, rfl, opnt, nmnt, n64nt, hknt⟩ := ty_open hn
          refine a_all [5, 7] (by kernel_rfl) rfl (all_cons (i := 5) rfl ?_ (all_cons (i := 7) rfl ?_ all_nil))
          · refine o_call fo45 rfl rfl rfl (kVars_spec t _ _ _ ht hlow hz) ?_
            rintro vhv w67 ⟨hv, ew67⟩
            replace hS := hS.then ew67
            replace h3 := h3.ext hlow hB ew67
            replace hE := hE.trans (Below.mono ew67 hB)
            replace ht := Rep.ext ht ew67
            replace hk := hk.ext ew67
            replace h1 := h1.ext ew67
            replace hc := Rep.ext hc ew67
            replace hn := Rep.ext hn ew67
            replace hlow := hlow.ext ew67
            replace hB := Nat.le_trans hB ew67.size
            refine ⟨hS, ?_⟩
            rw [hVT] at hv
            refine a_one 7 rfl (by kernel_rfl) (o_new tbOk rfl rfl rfl ?_)
            intro b4 w68 qb4 ew68 hb4
            have gS_b4 := Nat.le_trans hS.size (Nat.le_of_eq qb4.symm)
            replace hS := hS.then ew68
            have ne_h3_h4 : b3 ≠ b4 := by have := h3.lt; omega
            have sw68 := Stp.add ew68 hlow hB (Nat.le_of_eq qb4.symm) hb4.lt
            have h4 : MB w.heap.size (Rw.Add (Rw.Add M b3) b4) w68 b4 25 [.int .u8 0, .string ⟨#[]⟩, .int .i64 0, .slice none 0 0] := MB.mk' hb4 qb4 hB
            replace h3 := h3.stp sw68 (ew68.block b3 h3.lt)
            replace hE := hE.trans sw68.below
            replace ht := Rep.stp ht sw68
            replace hk := hk.stp sw68
            replace h1 := h1.stp sw68
            replace hc := Rep.stp hc sw68
            replace hn := Rep.stp hn sw68
            replace hv := hv.stp sw68
            replace hsub := fun b h => sw68.sub b (hsub b h)
            replace hlow := sw68.low
            replace hB := Nat.le_trans hB sw68.upd.1
            refine ⟨hS, ?_⟩
            refine a_barS Ext 8 rfl (by kernel_rfl) (by kernel_rfl) (o_st tbOk h3.box rfl rfl rfl rfl (Rep.one hc) rfl rfl ?_)
            intro w69 hw69 qw69 bew69
            have uw69 : UpdB _ _ _ := ⟨qw69, bew69⟩
            have sw69 := uw69.stp h3.inM hlow h3.ge
            have frw69 := qw69.2
            replace h4 := h4.stp sw69 (frw69 b4 h4.lt ne_h3_h4.symm)
            replace hE := hE.trans sw69.below
            replace ht := Rep.stp ht sw69
            replace hk := hk.stp sw69
            replace h1 := h1.stp sw69
            replace hc := Rep.stp hc sw69
            replace hn := Rep.stp hn sw69
            replace hv := hv.stp sw69
            replace hsub := fun b h => sw69.sub b (hsub b h)
            replace hlow := sw69.low
            replace hB := Nat.le_trans hB sw69.upd.1
            replace hS : Ext w69 w69 := ext_refl _
            replace h3 : MB w.heap.size _ w69 b3 _ [.int .u8 ct.op, .string ct.name, .int .i64 ct.n, kvct] := ⟨hw69, h3.inM, h3.ge⟩
            have D_hk := hk
            have D_h1 := h1
            have D_h3 := h3.box
            have D_hv := hv
            have D_h4 := h4.box
            refine a_barS Ext 9 rfl (by kernel_rfl) (by kernel_rfl) (o_st tbOk h4.box rfl rfl rfl rfl (Rep.one hn) rfl rfl ?_)
            intro w70 hw70 qw70 bew70
            have uw70 : UpdB _ _ _ := ⟨qw70, bew70⟩
            have sw70 := uw70.stp h4.inM hlow h4.ge
            have frw70 := qw70.2
            replace h3 := h3.stp sw70 (frw70 b3 h3.lt ne_h3_h4)
            replace hE := hE.trans sw70.below
            replace ht := Rep.stp ht sw70
            replace hk := hk.stp sw70
            replace h1 := h1.stp sw70
            replace hc := Rep.stp hc sw70
            replace hn := Rep.stp hn sw70
            replace hv := hv.stp sw70
            replace hsub := fun b h => sw70.sub b (hsub b h)
            replace hlow := sw70.low
            replace hB := Nat.le_trans hB sw70.upd.1
            replace hS : Ext w70 w70 := ext_refl _
            replace h4 : MB w.heap.size _ w70 b4 _ [.int .u8 nt.op, .string nt.name, .int .i64 nt.n, kvnt] := ⟨hw70, h4.inM, h4.ge⟩
            have D_hk := hk
            have D_h1 := h1
            have D_h3 := h3.box
            have D_hv := hv
            have D_h4 := h4.box
            refine a_p 10 tbOk rfl rfl rfl rfl (by kernel_rfl) (fun _ _ _ h => h) hS ?_
            refine a_end (by kernel_rfl) ?_
            exact x_cut5 (b3) (b4) (kvct) (kvnt) (vhv) (s4 rfl rfl rfl rfl) ⟨h3.box.at (fun h => absurd (hlow0 _ h) (by have := h3.ge; omega)), h4.box.at (fun h => absurd (hlow0 _ h) (by have := h4.ge; omega)), Rep.wk hc (fun b _ h => hsub b h), Rep.wk hn (fun b _ h => hsub b h), hv.wk (fun b _ h => hsub b h), h1.wk (fun b _ h => hsub b h), Rep.wk ht (fun b _ h => hsub b h), (fun b h => hlow b (hsub b h)), hE, hB⟩
          refine o_new tbOk rfl rfl rfl ?_
          intro b4 w71 qb4 ew71 hb4
          have gS_b4 := Nat.le_trans hS.size (Nat.le_of_eq qb4.symm)
          replace hS := hS.then ew71
          have ne_h3_h4 : b3 ≠ b4 := by have := h3.lt; omega
          have sw71 := Stp.add ew71 hlow hB (Nat.le_of_eq qb4.symm) hb4.lt
          have h4 : MB w.heap.size (Rw.Add (Rw.Add M b3) b4) w71 b4 25 [.int .u8 0, .string ⟨#[]⟩, .int .i64 0, .slice none 0 0] := MB.mk' hb4 qb4 hB
          replace h3 := h3.stp sw71 (ew71.block b3 h3.lt)
          replace hE := hE.trans sw71.below
          replace ht := Rep.stp ht sw71
          replace hk := hk.stp sw71
          replace h1 := h1.stp sw71
          replace hc := Rep.stp hc sw71
          replace hn := Rep.stp hn sw71
          replace hsub := fun b h => sw71.sub b (hsub b h)
          replace hlow := sw71.low
          replace hB := Nat.le_trans hB sw71.upd.1
          refine ⟨hS, ?_⟩
          refine a_one 5 rfl (by kernel_rfl) (o_call fo45 rfl rfl rfl (kVars_spec t _ _ _ ht hlow hz) ?_)
          rintro vhv w72 ⟨hv, ew72⟩
          replace hS := hS.then ew72
          replace h3 := h3.ext hlow hB ew72
          replace h4 := h4.ext hlow hB ew72
          replace hE := hE.trans (Below.mono ew72 hB)
          replace ht := Rep.ext ht ew72
          replace hk := hk.ext ew72
          replace h1 := h1.ext ew72
          replace hc := Rep.ext hc ew72
          replace hn := Rep.ext hn ew72
          replace hlow := hlow.ext ew72
          replace hB := Nat.le_trans hB ew72.size
          refine ⟨hS, ?_⟩
          rw [hVT] at hv
          refine a_barS Ext 8 rfl (by kernel_rfl) (by kernel_rfl) (o_st tbOk h3.box rfl rfl rfl rfl (Rep.one hc) rfl rfl ?_)
          intro w73 hw73 qw73 bew73
          have uw73 : UpdB _ _ _ := ⟨qw73, bew73⟩
          have sw73 := uw73.stp h3.inM hlow h3.ge
          have frw73 := qw73.2
          replace h4 := h4.stp sw73 (frw73 b4 h4.lt ne_h3_h4.symm)
          replace hE := hE.trans sw73.below
          replace ht := Rep.stp ht sw73
          replace hk := hk.stp sw73
          replace h1 := h1.stp sw73
          replace hc := Rep.stp hc sw73
          replace hn := Rep.stp hn sw73
          replace hv := hv.stp sw73
          replace hsub := fun b h => sw73.sub b (hsub b h)
          replace hlow := sw73.low
          replace hB := Nat.le_trans hB sw73.upd.1
          replace hS : Ext w73 w73 := ext_refl _
          replace h3 : MB w.heap.size _ w73 b3 _ [.int .u8 ct.op, .string ct.name, .int .i64 ct.n, kvct] := ⟨hw73, h3.inM, h3.ge⟩
          have D_hk := hk
          have D_h1 := h1
          have D_h3 := h3.box
          have D_h4 := h4.box
          have D_hv := hv
          refine a_barS Ext 9 rfl (by kernel_rfl) (by kernel_rfl) (o_st tbOk h4.box rfl rfl rfl rfl (Rep.one hn) rfl rfl ?_)
          intro w74 hw74 qw74 bew74
          have uw74 : UpdB _ _ _ := ⟨qw74, bew74⟩
          have sw74 := uw74.stp h4.inM hlow h4.ge
          have frw74 := qw74.2
          replace h3 := h3.stp sw74 (frw74 b3 h3.lt ne_h3_h4)
          replace hE := hE.trans sw74.below
          replace ht := Rep.stp ht sw74
          replace hk := hk.stp sw74
          replace h1 := h1.stp sw74
          replace hc := Rep.stp hc sw74
          replace hn := Rep.stp hn sw74
          replace hv := hv.stp sw74
          replace hsub := fun b h => sw74.sub b (hsub b h)
          replace hlow := sw74.low
          replace hB := Nat.le_trans hB sw74.upd.1
          replace hS : Ext w74 w74 := ext_refl _
          replace h4 : MB w.heap.size _ w74 b4 _ [.int .u8 nt.op, .string nt.name, .int .i64 nt.n, kvnt] := ⟨hw74, h4.inM, h4.ge⟩
          have D_hk := hk
          have D_h1 := h1
          have D_h3 := h3.box
          have D_h4 := h4.box
          have D_hv := hv
          refine a_p 10 tbOk rfl rfl rfl rfl (by kernel_rfl) (fun _ _ _ h => h) hS ?_
          refine a_end (by kernel_rfl) ?_
          exact x_cut5 (b3) (b4) (kvct) (kvnt) (vhv) (s4 rfl rfl rfl rfl) ⟨h3.box.at (fun h => absurd (hlow0 _ h) (by have := h3.ge; omega)), h4.box.at (fun h => absurd (hlow0 _ h) (by have := h4.ge; omega)), Rep.wk hc (fun b _ h => hsub b h), Rep.wk hn (fun b _ h => hsub b h), hv.wk (fun b _ h => hsub b h), h1.wk (fun b _ h => hsub b h), Rep.wk ht (fun b _ h => hsub b h), (fun b h => hlow b (hsub b h)), hE, hB⟩
        refine o_new tbOk rfl rfl rfl ?_
        intro b4 w75 qb4 ew75 hb4
        have gS_b4 := Nat.le_trans hS.size (Nat.le_of_eq qb4.symm)
        replace hS := hS.then ew75
        have ne_h3_h4 : b3 ≠ b4 := by have := h3.lt; omega
        have sw75 := Stp.add ew75 hlow hB (Nat.le_of_eq qb4.symm) hb4.lt
        have h4 : MB w.heap.size (Rw.Add (Rw.Add M b3) b4) w75 b4 25 [.int .u8 0, .string ⟨#[]⟩, .int .i64 0, .slice none 0 0] := MB.mk' hb4 qb4 hB
        replace h3 := h3.stp sw75 (ew75.block b3 h3.lt)
        replace hE := hE.trans sw75.below
        replace ht := Rep.stp ht sw75
        replace hk := hk.stp sw75
        replace h1 := h1.stp sw75
        replace hc := Rep.stp hc sw75
        replace hsub := fun b h => sw75.sub b (hsub b h)
        replace hlow := sw75.low
        replace hB := Nat.le_trans hB sw75.upd.1
        refine ⟨hS, ?_⟩
        refine a_one 3 rfl (by kernel_rfl) (o_call fo44 rfl rfl rfl (Number_own t _ _ _ ht hlow hz) ?_)
        rintro vhn w76 ⟨hn, ew76⟩
        replace hn := hn.repNew hlow
        rw [hNT] at hn
        replace hS := hS.then ew76
        replace h3 := h3.ext hlow hB ew76
        replace h4 := h4.ext hlow hB ew76
        replace hE := hE.trans (Below.mono ew76 hB)
        replace ht := Rep.ext ht ew76
        replace hk := hk.ext ew76
        replace h1 := h1.ext ew76
        replace hc := Rep.ext hc ew76
        replace hlow := hlow.ext ew76
        replace hB := Nat.le_trans hB ew76.size
        refine ⟨hS, ?_⟩
        obtain ⟨kvnt, rfl, opnt, nmnt, n64nt, hknt⟩ := ty_open hn
        refine a_one 5 rfl (by kernel_rfl) (o_call fo45 rfl rfl rfl (kVars_spec t _ _ _ ht hlow hz) ?_)
        rintro vhv w77 ⟨hv, ew77⟩
        replace hS := hS.then ew77
        replace h3 := h3.ext hlow hB ew77
        replace h4 := h4.ext hlow hB ew77
        replace hE := hE.trans (Below.mono ew77 hB)
        replace ht := Rep.ext ht ew77
        replace hk := hk.ext ew77
        replace h1 := h1.ext ew77
        replace hc := Rep.ext hc ew77
        replace hn := Rep.ext hn ew77
        replace hlow := hlow.ext ew77
        replace hB := Nat.le_trans hB ew77.size
        refine ⟨hS, ?_⟩
        rw [hVT] at hv
        refine a_barS Ext 8 rfl (by kernel_rfl) (by kernel_rfl) (o_st tbOk h3.box rfl rfl rfl rfl (Rep.one hc) rfl rfl ?_)
        intro w78 hw78 qw78 bew78
        have uw78 : UpdB _ _ _ := ⟨qw78, bew78⟩
        have sw78 := uw78.stp h3.inM hlow h3.ge
        have frw78 := qw78.2
        replace h4 := h4.stp sw78 (frw78 b4 h4.lt ne_h3_h4.symm)
        replace hE := hE.trans sw78.below
        replace ht := Rep.stp ht sw78
        replace hk := hk.stp sw78
        replace h1 := h1.stp sw78
        replace hc := Rep.stp hc sw78
        replace hn := Rep.stp hn sw78
        replace hv := hv.stp sw78
        replace hsub := fun b h => sw78.sub b (hsub b h)
        replace hlow := sw78.low
        replace hB := Nat.le_trans hB sw78.upd.1
        replace hS : Ext w78 w78 := ext_refl _
        replace h3 : MB w.heap.size _ w78 b3 _ [.int .u8 ct.op, .string ct.name, .int .i64 ct.n, kvct] := ⟨hw78, h3.inM, h3.ge⟩
        have D_hk := hk
        have D_h1 := h1
        have D_h3 := h3.box
        have D_h4 := h4.box
        have D_hv := hv
        refine a_barS Ext 9 rfl (by kernel_rfl) (by kernel_rfl) (o_st tbOk h4.box rfl rfl rfl rfl (Rep.one hn) rfl rfl ?_)
        intro w79 hw79 qw79 bew79
        have uw79 : UpdB _ _ _ := ⟨qw79, bew79⟩
        have sw79 := uw79.stp h4.inM hlow h4.ge
        have frw79 := qw79.2
        replace h3 := h3.stp sw79 (frw79 b3 h3.lt ne_h3_h4)
        replace hE := hE.trans sw79.below
        replace ht := Rep.stp ht sw79
        replace hk := hk.stp sw79
        replace h1 := h1.stp sw79
        replace hc := Rep.stp hc sw79
        replace hn := Rep.stp hn sw79
        replace hv := hv.stp sw79
        replace hsub := fun b h => sw79.sub b (hsub b h)
        replace hlow := sw79.low
        replace hB := Nat.le_trans hB sw79.upd.1
        replace hS : Ext w79 w79 := ext_refl _
        replace h4 : MB w.heap.size _ w79 b4 _ [.int .u8 nt.op, .string nt.name, .int .i64 nt.n, kvnt] := ⟨hw79, h4.inM, h4.ge⟩
        have D_hk := hk
        have D_h1 := h1
        have D_h3 := h3.box
        have D_h4 := h4.box
        have D_hv := hv
        refine a_p 10 tbOk rfl rfl rfl rfl (by kernel_rfl) (fun _ _ _ h => h) hS ?_
        refine a_end (by kernel_rfl) ?_
        exact x_cut5 (b3) (b4) (kvct) (kvnt) (vhv) (s4 rfl rfl rfl rfl) ⟨h3.box.at (fun h => absurd (hlow0 _ h) (by have := h3.ge; omega)), h4.box.at (fun h => absurd (hlow0 _ h) (by have := h4.ge; omega)), Rep.wk hc (fun b _ h => hsub b h), Rep.wk hn (fun b _ h => hsub b h), hv.wk (fun b _ h => hsub b h), h1.wk (fun b _ h => hsub b h), Rep.wk ht (fun b _ h => hsub b h), (fun b h => hlow b (hsub b h)), hE, hB⟩
      refine o_new tbOk rfl rfl rfl ?_
      intro b4 w80 qb4 ew80 hb4
      have gS_b4 := Nat.le_trans hS.size (Nat.le_of_eq qb4.symm)
      replace hS := hS.then ew80
      have ne_h3_h4 : b3 ≠ b4 := by have := h3.lt; omega
      have sw80 := Stp.add ew80 hlow hB (Nat.le_of_eq qb4.symm) hb4.lt
      have h4 : MB w.heap.size (Rw.Add (Rw.Add M b3) b4) w80 b4 25 [.int .u8 0, .string ⟨#[]⟩, .int .i64 0, .slice none 0 0] := MB.mk' hb4 qb4 hB
      replace h3 := h3.stp sw80 (ew80.block b3 h3.lt)
      replace hE := hE.trans sw80.below
      replace ht := Rep.stp ht sw80
      replace hk := hk.stp sw80
      replace h1 := h1.stp sw80
      replace hsub := fun b h => sw80.sub b (hsub b h)
      replace hlow := sw80.low
      replace hB := Nat.le_trans hB sw80.upd.1
      refine ⟨hS, ?_⟩
      refine a_one 1 rfl (by kernel_rfl) (o_call fo43 rfl rfl rfl (Canon_own t _ _ _ ht hlow hz) ?_)
      rintro vhc w81 ⟨hc, ew81⟩
      replace hc := hc.repNew hlow
      rw [hCT] at hc
      replace hS := hS.then ew81
      replace h3 := h3.ext hlow hB ew81
      replace h4 := h4.ext hlow hB ew81
      replace hE := hE.trans (Below.mono ew81 hB)
      replace ht := Rep.ext ht ew81
      replace hk := hk.ext ew81
      replace h1 := h1.ext ew81
      replace hlow := hlow.ext ew81
      replace hB := Nat.le_trans hB ew81.size
      refine ⟨hS, ?_⟩
      obtain ⟨kvct, rfl, opct, nmct, n64ct, hkct⟩ := ty_open hc
      refine a_one 3 rfl (by kernel_rfl) (o_call fo44 rfl rfl rfl (Number_own t _ _ _ ht hlow hz) ?_)
      rintro vhn w82 ⟨hn, ew82⟩
      replace hn := hn.repNew hlow
      rw [hNT] at hn
      replace hS := hS.then ew82
      replace h3 := h3.ext hlow hB ew82
      replace h4 := h4.ext hlow hB ew82
      replace hE := hE.trans (Below.mono ew82 hB)
      replace ht := Rep.ext ht ew82
      replace hk := hk.ext ew82
      replace h1 := h1.ext ew82
      replace hc := Rep.ext hc ew82
      replace hlow := hlow.ext ew82
      replace hB := Nat.le_trans hB ew82.size
      refine ⟨hS, ?_⟩
      obtain ⟨kvnt, rfl, opnt, nmnt, n64nt, hknt⟩ := ty_open hn
      refine a_one 5 rfl (by kernel_rfl) (o_call fo45 rfl rfl rfl (kVars_spec t _ _ _ ht hlow hz) ?_)
      rintro vhv w83 ⟨hv, ew83⟩
      replace hS := hS.then ew83
      replace h3 := h3.ext hlow hB ew83
      replace h4 := h4.ext hlow hB ew83
      replace hE := hE.trans (Below.mono ew83 hB)
      replace ht := Rep.ext ht ew83
      replace hk := hk.ext ew83
      replace h1 := h1.ext ew83
      replace hc := Rep.ext hc ew83
      replace hn := Rep.ext hn ew83
      replace hlow := hlow.ext ew83
      replace hB := Nat.le_trans hB ew83.size
      refine ⟨hS, ?_⟩
      rw [hVT] at hv
      refine a_barS Ext 8 rfl (by kernel_rfl) (by kernel_rfl) (o_st tbOk h3.box rfl rfl rfl rfl (Rep.one hc) rfl rfl ?_)
      intro w84 hw84 qw84 bew84
      have uw84 : UpdB _ _ _ := ⟨qw84, bew84⟩
      have sw84 := uw84.stp h3.inM hlow h3.ge
      have frw84 := qw84.2
      replace h4 := h4.stp sw84 (frw84 b4 h4.lt ne_h3_h4.symm)
      replace hE := hE.trans sw84.below
      replace ht := Rep.stp ht sw84
      replace hk := hk.stp sw84
      replace h1 := h1.stp sw84
      replace hc := Rep.stp hc sw84
      replace hn := Rep.stp hn sw84
      replace hv := hv.stp sw84
      replace hsub := fun b h => sw84.sub b (hsub b h)
      replace hlow := sw84.low
      replace hB := Nat.le_trans hB sw84.upd.1
      replace hS : Ext w84 w84 := ext_refl _
      replace h3 : MB w.heap.size _ w84 b3 _ [.int .u8 ct.op, .string ct.name, .int .i64 ct.n, kvct] := ⟨hw84, h3.inM, h3.ge⟩
      have D_hk := hk
      have D_h1 := h1
      have D_h3 := h3.box
      have D_h4 := h4.box
      have D_hv := hv
      refine a_barS Ext 9 rfl (by kernel_rfl) (by kernel_rfl) (o_st tbOk h4.box rfl rfl rfl rfl (Rep.one hn) rfl rfl ?_)
      intro w85 hw85 qw85 bew85
      have uw85 : UpdB _ _ _ := ⟨qw85, bew85⟩
      have sw85 := uw85.stp h4.inM hlow h4.ge
      have frw85 := qw85.2
      replace h3 := h3.stp sw85 (frw85 b3 h3.lt ne_h3_h4)
      replace hE := hE.trans sw85.below
      replace ht := Rep.stp ht sw85
      replace hk := hk.stp sw85
      replace h1 := h1.stp sw85
      replace hc := Rep.stp hc sw85
      replace hn := Rep.stp hn sw85
      replace hv := hv.stp sw85
      replace hsub := fun b h => sw85.sub b (hsub b h)
      replace hlow := sw85.low
      replace hB := Nat.le_trans hB sw85.upd.1
      replace hS : Ext w85 w85 := ext_refl _
      replace h4 : MB w.heap.size _ w85 b4 _ [.int .u8 nt.op, .string nt.name, .int .i64 nt.n, kvnt] := ⟨hw85, h4.inM, h4.ge⟩
      have D_hk := hk
      have D_h1 := h1
      have D_h3 := h3.box
      have D_h4 := h4.box
      have D_hv := hv
      refine a_p 10 tbOk rfl rfl rfl rfl (by kernel_rfl) (fun _ _ _ h => h) hS ?_
      refine a_end (by kernel_rfl) ?_
      exact x_cut5 (b3) (b4) (kvct) (kvnt) (vhv) (s4 rfl rfl rfl rfl) ⟨h3.box.at (fun h => absurd (hlow0 _ h) (by have := h3.ge; omega)), h4.box.at (fun h => absurd (hlow0 _ h) (by have := h4.ge; omega)), Rep.wk hc (fun b _ h => hsub b h), Rep.wk hn (fun b _ h => hsub b h), hv.wk (fun b _ h => hsub b h), h1.wk (fun b _ h => hsub b h), Rep.wk ht (fun b _ h => hsub b h), (fun b h => hlow b (hsub b h)), hE, hB⟩
    refine o_new tbOk rfl rfl rfl ?_
    intro b4 w86 qb4 ew86 hb4
    have gS_b4 := Nat.le_trans hS.size (Nat.le_of_eq qb4.symm)
    replace hS := hS.then ew86
    have sw86 := Stp.add ew86 hlow hB (Nat.le_of_eq qb4.symm) hb4.lt
    have h4 : MB w.heap.size (Rw.Add M b4) w86 b4 25 [.int .u8 0, .string ⟨#[]⟩, .int .i64 0, .slice none 0 0] := MB.mk' hb4 qb4 hB
    replace hE := hE.trans sw86.below
    replace ht := Rep.stp ht sw86
    replace hk := hk.stp sw86
    replace h1 := h1.stp sw86
    replace hsub := fun b h => sw86.sub b (hsub b h)
    replace hlow := sw86.low
    replace hB := Nat.le_trans hB sw86.upd.1
    refine ⟨hS, ?_⟩
    refine a_all [1, 6] (by kernel_rfl) rfl (all_cons (i := 1) rfl ?_ (all_cons (i := 6) rfl ?_ all_nil))
    · refine o_call fo43 rfl rfl rfl (Canon_own t _ _ _ ht hlow hz) ?_
      rintro vhc w87 ⟨hc, ew87⟩
      replace hc := hc.repNew hlow
      rw [hCT] at hc
      replace hS := hS.then ew87
      replace h4 := h4.ext hlow hB ew87
      replace hE := hE.trans (Below.mono ew87 hB)
      replace ht := Rep.ext ht ew87
      replace hk := hk.ext ew87
      replace h1 := h1.ext ew87
      replace hlow := hlow.ext ew87
      replace hB := Nat.le_trans hB ew87.size
      refine ⟨hS, ?_⟩
      obtain ⟨kvct, rfl, opct, nmct, n64ct, hkct⟩ := ty_open hc
      refine a_all [3, 6] (by kernel_rfl) rfl (all_cons (i := 3) rfl ?_ (all_cons (i := 6) rfl ?_ all_nil))
      · refine o_call fo44 rfl rfl rfl (Number_own t _ _ _ ht hlow hz) ?_
        rintro vhn w88 ⟨hn, ew88⟩
        replace hn := hn.repNew hlow
        rw [hNT] at hn
        replace hS := hS.then ew88
        replace h4 := h4.ext hlow hB ew88
        replace hE := hE.trans (Below.mono ew88 hB)
        replace ht := Rep.ext ht ew88
        replace hk := hk.ext ew88
        replace h1 := h1.ext ew88
        replace hc := Rep.ext hc ew88
        replace hlow := hlow.ext ew88
        replace hB := Nat.le_trans hB ew88.size
        refine ⟨hS, ?_⟩
        obtain ⟨kvnt, rfl, opnt, nmnt, n64nt, hknt⟩ := ty_open hn
        refine a_all [5, 6] (by kernel_rfl) rfl (all_cons (i := 5) rfl ?_ (all_cons (i := 6) rfl ?_ all_nil))
        · refine o_call fo45 rfl rfl rfl (kVars_spec t _ _ _ ht hlow hz) ?_
          rintro vhv w89 ⟨hv, ew89⟩
          replace hS := hS.then ew89
          replace h4 := h4.ext hlow hB ew89
          replace hE := hE.trans (Below.mono ew89 hB)
          replace ht := Rep.ext ht ew89
          replace hk := hk.ext ew89
          replace h1 := h1.ext ew89
          replace hc := Rep.ext hc ew89
          replace hn := Rep.ext hn ew89
          replace hlow := hlow.ext ew89
          replace hB := Nat.le_trans hB ew89.size
          refine ⟨hS, ?_⟩
          rw [hVT] at hv
          refine a_one 6 rfl (by kernel_rfl) (o_new tbOk rfl rfl rfl ?_)
          intro b3 w90 qb3 ew90 hb3
          have gS_b3 := Nat.le_trans hS.size (Nat.le_of_eq qb3.symm)
          replace hS := hS.then ew90
          have ne_h4_h3 : b4 ≠ b3 := by have := h4.lt; omega
          have sw90 := Stp.add ew90 hlow hB (Nat.le_of_eq qb3.symm) hb3.lt
          have h3 : MB w.heap.size (Rw.Add (Rw.Add M b4) b3) w90 b3 25 [.int .u8 0, .string ⟨#[]⟩, .int .i64 0, .slice none 0 0] := MB.mk' hb3 qb3 hB
          replace h4 := h4.stp sw90 (ew90.block b4 h4.lt)
          replace hE := hE.trans sw90.below
          replace ht := Rep.stp ht sw90
          replace hk := hk.stp sw90
          replace h1 := h1.stp sw90
          replace hc := Rep.stp hc sw90
          replace hn := Rep.stp hn sw90
          replace hv := hv.stp sw90
          replace hsub := fun b h => sw90.sub b (hsub b h)
          replace hlow := sw90.low
          replace hB := Nat.le_trans hB sw90.upd.1
          refine ⟨hS, ?_⟩
          refine a_barS Ext 8 rfl (by kernel_rfl) (by kernel_rfl) (o_st tbOk h3.box rfl rfl rfl rfl (Rep.one hc) rfl rfl ?_)
          intro w91 hw91 qw91 bew91
          have uw91 : UpdB _ _ _ := ⟨qw91, bew91⟩
          have sw91 := uw91.stp h3.inM hlow h3.ge
          have frw91 := qw91.2
          replace h4 := h4.stp sw91 (frw91 b4 h4.lt ne_h4_h3)
          replace hE := hE.trans sw91.below
          replace ht := Rep.stp ht sw91
          replace hk := hk.stp sw91
          replace h1 := h1.stp sw91
          replace hc := Rep.stp hc sw91
          replace hn := Rep.stp hn sw91
          replace hv := hv.stp sw91
          replace hsub := fun b h => sw91.sub b (hsub b h)
          replace hlow := sw91.low
          replace hB := Nat.le_trans hB sw91.upd.1
          replace hS : Ext w91 w91 := ext_refl _
          replace h3 : MB w.heap.size _ w91 b3 _ [.int .u8 ct.op, .string ct.name, .int .i64 ct.n, kvct] := ⟨hw91, h3.inM, h3.ge⟩
          have D_hk := hk
          have D_h1 := h1
          have D_h4 := h4.box
          have D_hv := hv
          have D_h3 := h3.box
          refine a_barS Ext 9 rfl (by kernel_rfl) (by kernel_rfl) (o_st tbOk h4.box rfl rfl rfl rfl (Rep.one hn) rfl rfl ?_)
          intro w92 hw92 qw92 bew92
          have uw92 : UpdB _ _ _ := ⟨qw92, bew92⟩
          have sw92 := uw92.stp h4.inM hlow h4.ge
          have frw92 := qw92.2
          replace h3 := h3.stp sw92 (frw92 b3 h3.lt ne_h4_h3.symm)
          replace hE := hE.trans sw92.below
          replace ht := Rep.stp ht sw92
          replace hk := hk.stp sw92
          replace h1 := h1.stp sw92
          replace hc := Rep.stp hc sw92
          replace hn := Rep.stp hn sw92
          replace hv := hv.stp sw92
          replace hsub := fun b h => sw92.sub b (hsub b h)
          replace hlow := sw92.low
          replace hB := Nat.le_trans hB sw92.upd.1
          replace hS : Ext w92 w92 := ext_refl _
          replace h4 : MB w.heap.size _ w92 b4 _ [.int .u8 nt.op, .string nt.name, .int .i64 nt.n, kvnt] := ⟨hw92, h4.inM, h4.ge⟩
          have D_hk := hk
          have D_h1 := h1
          have D_h4 := h4.box
          have D_hv := hv
          have D_h3 := h3.box
          refine a_p 10 tbOk rfl rfl rfl rfl (by kernel_rfl) (fun _ _ _ h => h) hS ?_
          refine a_end (by kernel_rfl) ?_
          exact x_cut5 (b3) (b4) (kvct) (kvnt) (vhv) (s4 rfl rfl rfl rfl) ⟨h3.box.at (fun h => absurd (hlow0 _ h) (by have := h3.ge; omega)), h4.box.at (fun h => absurd (hlow0 _ h) (by have := h4.ge; omega)), Rep.wk hc (fun b _ h => hsub b h), Rep.wk hn (fun b _ h => hsub b h), hv.wk (fun b _ h => hsub b h), h1.wk (fun b _ h => hsub b h), Rep.wk ht (fun b _ h => hsub b h), (fun b h => hlow b (hsub b h)), hE, hB⟩
        refine o_new tbOk rfl rfl rfl ?_
        intro b3 w93 qb3 ew93 hb3
        have gS_b3 := Nat.le_trans hS.size (Nat.le_of_eq qb3.symm)
        replace hS := hS.then ew93
        have ne_h4_h3 : b4 ≠ b3 := by have := h4.lt; omega
        have sw93 := Stp.add ew93 hlow hB (Nat.le_of_eq qb3.symm) hb3.lt
        have h3 : MB w.heap.size (Rw.Add (Rw.Add M b4) b3) w93 b3 25 [.int .u8 0, .string ⟨#[]⟩, .int .i64 0, .slice none 0 0] := MB.mk' hb3 qb3 hB
        replace h4 := h4.stp sw93 (ew93.block b4 h4.lt)
        replace hE := hE.trans sw93.below
        replace ht := Rep.stp ht sw93
        replace hk := hk.stp sw93
        replace h1 := h1.stp sw93
        replace hc := Rep.stp hc sw93
        replace hn := Rep.stp hn sw93
        replace hsub := fun b h => sw93.sub b (hsub b h)
        replace hlow := sw93.low
        replace hB := Nat.le_trans hB sw93.upd.1
        refine ⟨hS, ?_⟩
        refine a_one 5 rfl (by kernel_rfl) (o_call fo45 rfl rfl rfl (kVars_spec t _ _ _ ht hlow hz) ?_)
        rintro vhv w94 ⟨hv, ew94⟩
        replace hS := hS.then ew94
        replace h4 := h4.ext hlow hB ew94
        replace h3 := h3.ext hlow hB ew94
        replace hE := hE.trans (Below.mono ew94 hB)
        replace ht := Rep.ext ht ew94
        replace hk := hk.ext ew94
        replace h1 := h1.ext ew94
        replace hc := Rep.ext hc ew94
        replace hn := Rep.ext hn ew94
        replace hlow := hlow.ext ew94
        replace hB := Nat.le_trans hB ew94.size
        refine ⟨hS, ?_⟩
        rw [hVT] at hv
        refine a_barS Ext 8 rfl (by kernel_rfl) (by kernel_rfl) (o_st tbOk h3.box rfl rfl rfl rfl (Rep.one hc) rfl rfl ?_)
        intro w95 hw95 qw95 bew95
        have uw95 : UpdB _ _ _ := ⟨qw95, bew95⟩
        have sw95 := uw95.stp h3.inM hlow h3.ge
        have frw95 := qw95.2
        replace h4 := h4.stp sw95 (frw95 b4 h4.lt ne_h4_h3)
        replace hE := hE.trans sw95.below
        replace ht := Rep.stp ht sw95
        replace hk := hk.stp sw95
        replace h1 := h1.stp sw95
        replace hc := Rep.stp hc sw95
        replace hn := Rep.stp hn sw95
        replace hv := hv.stp sw95
        replace hsub := fun b h => sw95.sub b (hsub b h)
        replace hlow := sw95.low
        replace hB := Nat.le_trans hB sw95.upd.1
        replace hS : Ext w95 w95 := ext_refl _
        replace h3 : MB w.heap.size _ w95 b3 _ [.int .u8 ct.op, .string ct.name, .int .i64 ct.n, kvct] := ⟨hw95, h3.inM, h3.ge⟩
        have D_hk := hk
        have D_h1 := h1
        have D_h4 := h4.box
        have D_h3 := h3.box
        have D_hv := hv
        refine a_barS Ext 9 rfl (by kernel_rfl) (by kernel_rfl) (o_st tbOk h4.box rfl rfl rfl rfl (Rep.one hn) rfl rfl ?_)
        intro w96 hw96 qw96 bew96
        have uw96 : UpdB _ _ _ := ⟨qw96, bew96⟩
        have sw96 := uw96.stp h4.inM hlow h4.ge
        have frw96 := qw96.2
        replace h3 := h3.stp sw96 (frw96 b3 h3.lt ne_h4_h3.symm)
        replace hE := hE.trans sw96.below
        replace ht := Rep.stp ht sw96
        replace hk := hk.stp sw96
        replace h1 := h1.stp sw96
        replace hc := Rep.stp hc sw96
        replace hn := Rep.stp hn sw96
        replace hv := hv.stp sw96
        replace hsub := fun b h => sw96.sub b (hsub b h)
        replace hlow := sw96.low
        replace hB := Nat.le_trans hB sw96.upd.1
        replace hS : Ext w96 w96 := ext_refl _
        replace h4 : MB w.heap.size _ w96 b4 _ [.int .u8 nt.op, .string nt.name, .int .i64 nt.n, kvnt] := ⟨hw96, h4.inM, h4.ge⟩
        have D_hk := hk
        have D_h1 := h1
        have D_h4 := h4.box
        have D_h3 := h3.box
        have D_hv := hv
        refine a_p 10 tbOk rfl rfl rfl rfl (by kernel_rfl) (fun _ _ _ h => h) hS ?_
        refine a_end (by kernel_rfl) ?_
        exact x_cut5 (b3) (b4) (kvct) (kvnt) (vhv) (s4 rfl rfl rfl rfl) ⟨h3.box.at (fun h => absurd (hlow0 _ h) (by have := h3.ge; omega)), h4.box.at (fun h => absurd (hlow0 _ h) (by have := h4.ge; omega)), Rep.wk hc (fun b _ h => hsub b h), Rep.wk hn (fun b _ h => hsub b h), hv.wk (fun b _ h => hsub b h), h1.wk (fun b _ h => hsub b h), Rep.wk ht (fun b _ h => hsub b h), (fun b h => hlow b (hsub b h)), hE, hB⟩
      refine o_new tbOk rfl rfl rfl ?_
      intro b3 w97 qb3 ew97 hb3
      have gS_b3 := Nat.le_trans hS.size (Nat.le_of_eq qb3.symm)
      replace hS := hS.then ew97
      have ne_h4_h3 : b4 ≠ b3 := by have := h4.lt; omega
      have sw97 := Stp.add ew97 hlow hB (Nat.le_of_eq qb3.symm) hb3.lt
      have h3 : MB w.heap.size (Rw.Add (Rw.Add M b4) b3) w97 b3 25 [.int .u8 0, .string ⟨#[]⟩, .int .i64 0, .slice none 0 0] := MB.mk' hb3 qb3 hB
      replace h4 := h4.stp sw97 (ew97.block b4 h4.lt)
      replace hE := hE.trans sw97.below
      replace ht := Rep.stp ht sw97
      replace hk := hk.stp sw97
      replace h1 := h1.stp sw97
      replace hc := Rep.stp hc sw97
      replace hsub := fun b h => sw97.sub b (hsub b h)
      replace hlow := sw97.low
      replace hB := Nat.le_trans hB sw97.upd.1
      refine ⟨hS, ?_⟩
      refine a_one 3 rfl (by kernel_rfl) (o_call fo44 rfl rfl rfl (Number_own t _ _ _ ht hlow hz) ?_)
      rintro vhn w98 ⟨hn, ew98⟩
      replace hn := hn.repNew hlow
      rw [hNT] at hn
      replace hS := hS.then ew98
      replace h4 := h4.ext hlow hB ew98
      replace h3 := h3.ext hlow hB ew98
      replace hE := hE.trans (Below.mono ew98 hB)
      replace ht := Rep.ext ht ew98
      replace hk := hk.ext ew98
      replace h1 := h1.ext ew98
      replace hc := Rep.ext hc ew98
      replace hlow := hlow.ext ew98
      replace hB := Nat.le_trans hB ew98.size
      refine ⟨hS, ?_⟩
      obtain ⟨kvnt, rfl, opnt, nmnt, n64nt, hknt⟩ := ty_open hn
      refine a_one 5 rfl (by kernel_rfl) (o_call fo45 rfl rfl rfl (kVars_spec t _ _ _ ht hlow hz) ?_)
      rintro vhv w99 ⟨hv, ew99⟩
      replace hS := hS.then ew99
      replace h4 := h4.ext hlow hB ew99
      replace h3 := h3.ext hlow hB ew99
      replace hE := hE.trans (Below.mono ew99 hB)
      replace ht := Rep.ext ht ew99
      replace hk := hk.ext ew99
      replace h1 := h1.ext ew99
      replace hc := Rep.ext hc ew99
      replace hn := Rep.ext hn ew99
      replace hlow := hlow.ext ew99
      replace hB := Nat.le_trans hB ew99.size
      refine ⟨hS, ?_⟩
      rw [hVT] at hv
      refine a_barS Ext 8 rfl (by kernel_rfl) (by kernel_rfl) (o_st tbOk h3.box rfl rfl rfl rfl (Rep.one hc) rfl rfl ?_)
      intro w100 hw100 qw100 bew100
      have uw100 : UpdB _ _ _ := ⟨qw100, bew100⟩
      have sw100 := uw100.stp h3.inM hlow h3.ge
      have frw100 := qw100.2
      replace h4 := h4.stp sw100 (frw100 b4 h4.lt ne_h4_h3)
      replace hE := hE.trans sw100.below
      replace ht := Rep.stp ht sw100
      replace hk := hk.stp sw100
      replace h1 := h1.stp sw100
      replace hc := Rep.stp hc sw100
      replace hn := Rep.stp hn sw100
      replace hv := hv.stp sw100
      replace hsub := fun b h => sw100.sub b (hsub b h)
      replace hlow := sw100.low
      replace hB := Nat.le_trans hB sw100.upd.1
      replace hS : Ext w100 w100 := ext_refl _
      replace h3 : MB w.heap.size _ w100 b3 _ [.int .u8 ct.op, .string ct.name, .int .i64 ct.n, kvct] := ⟨hw100, h3.inM, h3.ge⟩
      have D_hk := hk
      have D_h1 := h1
      have D_h4 := h4.box
      have D_h3 := h3.box
      have D_hv := hv
      refine a_barS Ext 9 rfl (by kernel_rfl) (by kernel_rfl) (o_st tbOk h4.box rfl rfl rfl rfl (Rep.one hn) rfl rfl ?_)
      intro w101 hw101 qw101 bew101
      have uw101 : UpdB _ _ _ := ⟨qw101, bew101⟩
      have sw101 := uw101.stp h4.inM hlow h4.ge
      have frw101 := qw101.2
      replace h3 := h3.stp sw101 (frw101 b3 h3.lt ne_h4_h3.symm)
      replace hE := hE.trans sw101.below
      replace ht := Rep.stp ht sw101
      replace hk := hk.stp sw101
      replace h1 := h1.stp sw101
      replace hc := Rep.stp hc sw101
      replace hn := Rep.stp hn sw101
      replace hv := hv.stp sw101
      replace hsub := fun b h => sw101.sub b (hsub b h)
      replace hlow := sw101.low
      replace hB := Nat.le_trans hB sw101.upd.1
      replace hS : Ext w101 w101 := ext_refl _
      replace h4 : MB w.heap.size _ w101 b4 _ [.int .u8 nt.op, .string nt.name, .int .i64 nt.n, kvnt] := ⟨hw101, h4.inM, h4.ge⟩
      have D_hk := hk
      have D_h1 := h1
      have D_h4 := h4.box
      have D_h3 := h3.box
      have D_hv := hv
      refine a_p 10 tbOk rfl rfl rfl rfl (by kernel_rfl) (fun _ _ _ h => h) hS ?_
      refine a_end (by kernel_rfl) ?_
      exact x_cut5 (b3) (b4) (kvct) (kvnt) (vhv) (s4 rfl rfl rfl rfl) ⟨h3.box.at (fun h => absurd (hlow0 _ h) (by have := h3.ge; omega)), h4.box.at (fun h => absurd (hlow0 _ h) (by have := h4.ge; omega)), Rep.wk hc (fun b _ h => hsub b h), Rep.wk hn (fun b _ h => hsub b h), hv.wk (fun b _ h => hsub b h), h1.wk (fun b _ h => hsub b h), Rep.wk ht (fun b _ h => hsub b h), (fun b h => hlow b (hsub b h)), hE, hB⟩
    refine o_new tbOk rfl rfl rfl ?_
    intro b3 w102 qb3 ew102 hb3
    have gS_b3 := Nat.le_trans hS.size (Nat.le_of_eq qb3.symm)
    replace hS := hS.then ew102
    have ne_h4_h3 : b4 ≠ b3 := by have := h4.lt; omega
    have sw102 := Stp.add ew102 hlow hB (Nat.le_of_eq qb3.symm) hb3.lt
    have h3 : MB w.heap.size (Rw.Add (Rw.Add M b4) b3) w102 b3 25 [.int .u8 0, .string ⟨#[]⟩, .int .i64 0, .slice none 0 0] := MB.mk' hb3 qb3 hB
    replace h4 := h4.stp sw102 (ew102.block b4 h4.lt)
    replace hE := hE.trans sw102.below
    replace ht := Rep.stp ht sw102
    replace hk := hk.stp sw102
    replace h1 := h1.stp sw102
    replace hsub := fun b h => sw102.sub b (hsub b h)
    replace hlow := sw102.low
    replace hB := Nat.le_trans hB sw102.upd.1
    refine ⟨hS, ?_⟩
    refine a_one 1 rfl (by kernel_rfl) (o_call fo43 rfl rfl rfl (Canon_own t _ _ _ ht hlow hz) ?_)
    rintro vhc w103 ⟨hc, ew103⟩
    replace hc := hc.repNew hlow
    rw [hCT] at hc
    replace hS := hS.then ew103
    replace h4 := h4.ext hlow hB ew103
    replace h3 := h3.ext hlow hB ew103
    replace hE := hE.trans (Below.mono ew103 hB)
    replace ht := Rep.ext ht ew103
    replace hk := hk.ext ew103
    replace h1 := h1.ext ew103
    replace hlow := hlow.ext ew103
    replace hB := Nat.le_trans hB ew103.size
    refine ⟨hS, ?_⟩
    obtain ⟨kvct, rfl, opct, nmct, n64ct, hkct⟩ := ty_open hc
    refine a_one 3 rfl (by kernel_rfl) (o_call fo44 rfl rfl rfl (Number_own t _ _ _ ht hlow hz) ?_)
    rintro vhn w104 ⟨hn, ew104⟩
    replace hn := hn.repNew hlow
    rw [hNT] at hn
    replace hS := hS.then ew104
    replace h4 := h4.ext hlow hB ew104
    replace h3 := h3.ext hlow hB ew104
    replace hE := hE.trans (Below.mono ew104 hB)
    replace ht := Rep.ext ht ew104
    replace hk := hk.ext ew104
    replace h1 := h1.ext ew104
    replace hc := Rep.ext hc ew104
    replace hlow := hlow.ext ew104
    replace hB := Nat.le_trans hB ew104.size
    refine ⟨hS, ?_⟩
    obtain ⟨kvnt, rfl, opnt, nmnt, n64nt, hknt⟩ := ty_open hn
    refine a_one 5 rfl (by kernel_rfl) (o_call fo45 rfl rfl rfl (kVars_spec t _ _ _ ht hlow hz) ?_)
    rintro vhv w105 ⟨hv, ew105⟩
    replace hS := hS.then ew105
    replace h4 := h4.ext hlow hB ew105
    replace h3 := h3.ext hlow hB ew105
    replace hE := hE.trans (Below.mono ew105 hB)
    replace ht := Rep.ext ht ew105
    replace hk := hk.ext ew105
    replace h1 := h1.ext ew105
    replace hc := Rep.ext hc ew105
    replace hn := Rep.ext hn ew105
    replace hlow := hlow.ext ew105
    replace hB := Nat.le_trans hB ew105.size
    refine ⟨hS, ?_⟩
    rw [hVT] at hv
    refine a_barS Ext 8 rfl (by kernel_rfl) (by kernel_rfl) (o_st tbOk h3.box rfl rfl rfl rfl (Rep.one hc) rfl rfl ?_)
    intro w106 hw106 qw106 bew106
    have uw106 : UpdB _ _ _ := ⟨qw106, bew106⟩
    have sw106 := uw106.stp h3.inM hlow h3.ge
    have frw106 := qw106.2
    replace h4 := h4.stp sw106 (frw106 b4 h4.lt ne_h4_h3)
    replace hE := hE.trans sw106.below
    replace ht := Rep.stp ht sw106
    replace hk := hk.stp sw106
    replace h1 := h1.stp sw106
    replace hc := Rep.stp hc sw106
    replace hn := Rep.stp hn sw106
    replace hv := hv.stp sw106
    replace hsub := fun b h => sw106.sub b (hsub b h)
    replace hlow := sw106.low
    replace hB := Nat.le_trans hB sw106.upd.1
    replace hS : Ext w106 w106 := ext_refl _
    replace h3 : MB w.heap.size _ w106 b3 _ [.int .u8 ct.op, .string ct.name, .int .i64 ct.n, kvct] := ⟨hw106, h3.inM, h3.ge⟩
    have D_hk := hk
    have D_h1 := h1
    have D_h4 := h4.box
    have D_h3 := h3.box
    have D_hv := hv
    refine a_barS Ext 9 rfl (by kernel_rfl) (by kernel_rfl) (o_st tbOk h4.box rfl rfl rfl rfl (Rep.one hn) rfl rfl ?_)
    intro w107 hw107 qw107 bew107
    have uw107 : UpdB _ _ _ := ⟨qw107, bew107⟩
    have sw107 := uw107.stp h4.inM hlow h4.ge
    have frw107 := qw107.2
    replace h3 := h3.stp sw107 (frw107 b3 h3.lt ne_h4_h3.symm)
    replace hE := hE.trans sw107.below
    replace ht := Rep.stp ht sw107
    replace hk := hk.stp sw107
    replace h1 := h1.stp sw107
    replace hc := Rep.stp hc sw107
    replace hn := Rep.stp hn sw107
    replace hv := hv.stp sw107
    replace hsub := fun b h => sw107.sub b (hsub b h)
    replace hlow := sw107.low
    replace hB := Nat.le_trans hB sw107.upd.1
    replace hS : Ext w107 w107 := ext_refl _
    replace h4 : MB w.heap.size _ w107 b4 _ [.int .u8 nt.op, .string nt.name, .int .i64 nt.n, kvnt] := ⟨hw107, h4.inM, h4.ge⟩
    have D_hk := hk
    have D_h1 := h1
    have D_h4 := h4.box
    have D_h3 := h3.box
    have D_hv := hv
    refine a_p 10 tbOk rfl rfl rfl rfl (by kernel_rfl) (fun _ _ _ h => h) hS ?_
    refine a_end (by kernel_rfl) ?_
    exact x_cut5 (b3) (b4) (kvct) (kvnt) (vhv) (s4 rfl rfl rfl rfl) ⟨h3.box.at (fun h => absurd (hlow0 _ h) (by have := h3.ge; omega)), h4.box.at (fun h => absurd (hlow0 _ h) (by have := h4.ge; omega)), Rep.wk hc (fun b _ h => hsub b h), Rep.wk hn (fun b _ h => hsub b h), hv.wk (fun b _ h => hsub b h), h1.wk (fun b _ h => hsub b h), Rep.wk ht (fun b _ h => hsub b h), (fun b h => hlow b (hsub b h)), hE, hB⟩
  clear h1 ht hlow hE hB hsub
  rintro b3 b4 kvc kvn vv w6 ⟨h3, h4, hc, hn, hv, h1, ht, hlow, hE, hB⟩
  refine c_seq (q0 ?_)
  refine l_cons (o_lds tbOk (fun j v hv => h1.cell j v hv) rfl rfl rfl rfl rfl rfl ?_)
  refine l_cons (o_call fo17 rfl rfl rfl (refRight_spec t _ _ _ ht hlow hz) ?_)
  rintro _ w108 ⟨rfl, ew108⟩
  replace hE := hE.trans (Below.mono ew108 hB)
  replace h3 := h3.ext ew108
  replace h4 := h4.ext ew108
  replace hc := Rep.ext hc ew108
  replace hn := Rep.ext hn ew108
  replace hv := hv.ext ew108
  replace h1 := h1.ext ew108
  replace ht := Rep.ext ht ew108
  replace hlow := hlow.ext ew108
  replace hB := Nat.le_trans hB ew108.size
  refine l_p 2 tbOk rfl ?_
  refine l_splitB 20 _ rfl (fun c3 => ?_) (fun c3 => ?_)
  · refine l_cons (o_lds tbOk (fun j v hv => h1.cell j v hv) rfl rfl rfl rfl rfl rfl ?_)
    refine l_cons (o_call fo19 rfl rfl rfl (refRow_spec t _ _ _ ht hlow hz) ?_)
    rintro _ w109 ⟨rfl, ew109⟩
    replace hE := hE.trans (Below.mono ew109 hB)
    replace h3 := h3.ext ew109
    replace h4 := h4.ext ew109
    replace hc := Rep.ext hc ew109
    replace hn := Rep.ext hn ew109
    replace hv := hv.ext ew109
    replace h1 := h1.ext ew109
    replace ht := Rep.ext ht ew109
    replace hlow := hlow.ext ew109
    replace hB := Nat.le_trans hB ew109.size
    refine l_p 2 tbOk rfl (q1 ?_)
    refine c_ifB _ rfl (fun c4 => ?_) (fun c4 => ?_)
    · have hro : (rightB t || rowB t) = false := by simp [c3, c4]
      rw [hro] at hCT hNT hVT
      simp only [cond_false] at hCT hNT hVT
      subst hCT
      subst hNT
      subst hVT
      refine q0 ?_
      refine l_cons (o_lds tbOk (fun j v hv => h3.cell j v hv) rfl rfl rfl rfl rfl rfl ?_)
      refine l_cons (o_build (cells := [.int .u8 0, .string ⟨#[]⟩, .int .i64 0, .slice none 0 0]) (css := []) bd25 rfl rfl rfl rfl rfl ?_)
      have hzz0 : Rep.R M w109 (.agg #[.int .u8 0, .string ⟨#[]⟩, .int .i64 0, .slice none 0 0]) (Ty.mk 0 ⟨#[]⟩ 0 []) := ty_mk (by decide) (by decide) ⟨by decide, by decide⟩ sl_nil
      refine l_cons (o_call fo22 rfl rfl rfl (alike_spec _ _ _ _ _ _ hc hzz0 hlow) ?_)
      rintro _ w110 ⟨rfl, ew110⟩
      replace hE := hE.trans (Below.mono ew110 hB)
      replace h3 := h3.ext ew110
      replace h4 := h4.ext ew110
      replace hc := Rep.ext hc ew110
      replace hn := Rep.ext hn ew110
      replace hv := hv.ext ew110
      replace h1 := h1.ext ew110
      replace ht := Rep.ext ht ew110
      replace hzz0 := Rep.ext hzz0 ew110
      replace hlow := hlow.ext ew110
      replace hB := Nat.le_trans hB ew110.size
      refine l_p 1 tbOk rfl ?_
      refine l_split 28 _ rfl (fun c5 => ?_) (fun c5 => ?_)
      · refine l_cons (o_lds tbOk (fun j v hv => h4.cell j v hv) rfl rfl rfl rfl rfl rfl ?_)
        refine l_cons (o_build (cells := [.int .u8 0, .string ⟨#[]⟩, .int .i64 0, .slice none 0 0]) (css := []) bd25 rfl rfl rfl rfl rfl ?_)
        have hzz1 : Rep.R M w110 (.agg #[.int .u8 0, .string ⟨#[]⟩, .int .i64 0, .slice none 0 0]) (Ty.mk 0 ⟨#[]⟩ 0 []) := ty_mk (by decide) (by decide) ⟨by decide, by decide⟩ sl_nil
        refine l_cons (o_call fo22 rfl rfl rfl (alike_spec _ _ _ _ _ _ hn hzz1 hlow) ?_)
        rintro _ w111 ⟨rfl, ew111⟩
        replace hE := hE.trans (Below.mono ew111 hB)
        replace h3 := h3.ext ew111
        replace h4 := h4.ext ew111
        replace hc := Rep.ext hc ew111
        replace hn := Rep.ext hn ew111
        replace hv := hv.ext ew111
        replace h1 := h1.ext ew111
        replace ht := Rep.ext ht ew111
        replace hzz0 := Rep.ext hzz0 ew111
        replace hzz1 := Rep.ext hzz1 ew111
        replace hlow := hlow.ext ew111
        replace hB := Nat.le_trans hB ew111.size
        refine l_p 2 tbOk rfl ?_
        refine l_split 33 _ rfl (fun c6 => ?_) (fun c6 => ?_)
        · refine l_p 1 tbOk rfl ?_
          refine l_cons (o_len tbOk hv rfl rfl rfl rfl rfl ?_)
          refine l_p 3 tbOk rfl ?_
          refine l_splitP 38 _ rfl (fun c7 => ?_) (fun c7 => ?_)
          · refine l_cons (o_lds tbOk (fun j v hv => h1.cell j v hv) rfl rfl rfl rfl rfl rfl ?_)
            refine l_cons (o_call fo46 rfl rfl rfl (kClosed_spec t _ _ _ ht hlow hz) ?_)
            rintro _ w112 ⟨rfl, ew112⟩
            replace hE := hE.trans (Below.mono ew112 hB)
            replace h3 := h3.ext ew112
            replace h4 := h4.ext ew112
            replace hc := Rep.ext hc ew112
            replace hn := Rep.ext hn ew112
            replace hv := hv.ext ew112
            replace h1 := h1.ext ew112
            replace ht := Rep.ext ht ew112
            replace hzz0 := Rep.ext hzz0 ew112
            replace hzz1 := Rep.ext hzz1 ew112
            replace hlow := hlow.ext ew112
            replace hB := Nat.le_trans hB ew112.size
            refine l_p 3 tbOk rfl ?_
            refine l_splitB 43 _ rfl (fun c8 => ?_) (fun c8 => ?_)
            · refine l_cons (o_lds tbOk (fun j v hv => h1.cell j v hv) rfl rfl rfl rfl rfl rfl ?_)
              refine l_cons (o_call fo47 rfl rfl rfl (kStatic_spec t _ _ _ ht hlow hz) ?_)
              rintro _ w113 ⟨rfl, ew113⟩
              replace hE := hE.trans (Below.mono ew113 hB)
              replace h3 := h3.ext ew113
              replace h4 := h4.ext ew113
              replace hc := Rep.ext hc ew113
              replace hn := Rep.ext hn ew113
              replace hv := hv.ext ew113
              replace h1 := h1.ext ew113
              replace ht := Rep.ext ht ew113
              replace hzz0 := Rep.ext hzz0 ew113
              replace hzz1 := Rep.ext hzz1 ew113
              replace hlow := hlow.ext ew113
              replace hB := Nat.le_trans hB ew113.size
              refine l_p 3 tbOk rfl ?_
              refine l_splitB 48 _ rfl (fun c9 => ?_) (fun c9 => ?_)
              · refine l_cons (o_lds tbOk (fun j v hv => h1.cell j v hv) rfl rfl rfl rfl rfl rfl ?_)
                refine l_cons (o_lds tbOk (fun j v hv => h1.cell j v hv) rfl rfl rfl rfl rfl rfl ?_)
                refine l_cons (o_call fo36 rfl rfl rfl (kSame_spec t t _ _ _ _ ht ht hlow hz hz) ?_)
                rintro _ w114 ⟨rfl, ew114⟩
                replace hE := hE.trans (Below.mono ew114 hB)
                replace h3 := h3.ext ew114
                replace h4 := h4.ext ew114
                replace hc := Rep.ext hc ew114
                replace hn := Rep.ext hn ew114
                replace hv := hv.ext ew114
                replace h1 := h1.ext ew114
                replace ht := Rep.ext ht ew114
                replace hzz0 := Rep.ext hzz0 ew114
                replace hzz1 := Rep.ext hzz1 ew114
                replace hlow := hlow.ext ew114
                replace hB := Nat.le_trans hB ew114.size
                refine l_p 3 tbOk rfl (q1 (c_ret (x_seqR (x_ret1 rfl rfl ?_))))
                exact ⟨by rw [hro]; simp, hE⟩
              exact absurd c9 (by simp [hro])
            exact absurd c8 (by simp [hro])
          exact absurd rfl c7
        exact absurd rfl (cl_not c6)
      exact absurd rfl (cl_not c5)
    have hro : (rightB t || rowB t) = true := by simp [c3, c4]
    rw [hro] at hCT hNT hVT
    simp only [cond_true] at hCT hNT hVT
    subst hCT
    subst hNT
    subst hVT
    refine c_skip (x_seq (q0 ?_))
    refine l_cons (o_lds tbOk (fun j v hv => h1.cell j v hv) rfl rfl rfl rfl rfl rfl ?_)
    refine l_cons (o_call fo48 rfl rfl rfl (refVars_spec t _ _ _ _ (Classical.choose_spec (shape_either hro)) ht hlow hz) ?_)
    rintro vhw w115 ⟨hw, ew115⟩
    replace hE := hE.trans (Below.mono ew115 hB)
    replace h3 := h3.ext ew115
    replace h4 := h4.ext ew115
    replace hc := Rep.ext hc ew115
    replace hn := Rep.ext hn ew115
    replace hv := hv.ext ew115
    replace h1 := h1.ext ew115
    replace ht := Rep.ext ht ew115
    replace hlow := hlow.ext ew115
    replace hB := Nat.le_trans hB ew115.size
    refine l_p 1 tbOk rfl (q1 (c_seq ?_))
    refine a_beg Ext rfl ?_
    intro w116 ew116
    replace hE := hE.trans (Below.mono ew116 hB)
    replace h3 := h3.ext ew116
    replace h4 := h4.ext ew116
    replace hc := Rep.ext hc ew116
    replace hn := Rep.ext hn ew116
    replace hv := hv.ext ew116
    replace h1 := h1.ext ew116
    replace ht := Rep.ext ht ew116
    replace hw := hw.ext ew116
    replace hlow := hlow.ext ew116
    replace hB := Nat.le_trans hB ew116.size
    have hS : Ext w116 w116 := ext_refl _
    have D_h3 := h3
    have D_h4 := h4
    have D_hv := hv
    have D_h1 := h1
    have D_hw := hw
    refine a_lds 0 tbOk (fun _ hs j v hv => (D_h3.ext hs).cell j v hv) rfl rfl rfl rfl rfl rfl rfl (by kernel_rfl) (fun _ _ _ h => h) hS ?_
    refine a_lds 1 tbOk (fun _ hs j v hv => (D_h1.ext hs).cell j v hv) rfl rfl rfl rfl rfl rfl rfl (by kernel_rfl) (fun _ _ _ h => h) hS ?_
    refine a_one 2 rfl (by kernel_rfl) (o_call fo49 rfl rfl rfl (refCanon_all _ t _ _ _ _ (Nat.le_refl _) (Classical.choose_spec (shape_either hro)) ht hlow hz) ?_)
    rintro vrc w117 ⟨hrc, ew117⟩
    replace hS := hS.then ew117
    replace hE := hE.trans (Below.mono ew117 hB)
    replace h3 := h3.ext ew117
    replace h4 := h4.ext ew117
    replace hc := Rep.ext hc ew117
    replace hn := Rep.ext hn ew117
    replace hv := hv.ext ew117
    replace h1 := h1.ext ew117
    replace ht := Rep.ext ht ew117
    replace hw := hw.ext ew117
    replace hlow := hlow.ext ew117
    replace hB := Nat.le_trans hB ew117.size
    refine ⟨hS, ?_⟩
    refine a_bar 3 rfl (by kernel_rfl) (by kernel_rfl) (o_call fo22 rfl rfl rfl (alike_spec _ _ _ _ _ _ hc hrc hlow) ?_)
    rintro _ w118 ⟨rfl, ew118⟩
    replace hS := hS.then ew118
    replace hE := hE.trans (Below.mono ew118 hB)
    replace h3 := h3.ext ew118
    replace h4 := h4.ext ew118
    replace hc := Rep.ext hc ew118
    replace hn := Rep.ext hn ew118
    replace hv := hv.ext ew118
    replace h1 := h1.ext ew118
    replace ht := Rep.ext ht ew118
    replace hw := hw.ext ew118
    replace hrc := Rep.ext hrc ew118
    replace hlow := hlow.ext ew118
    replace hB := Nat.le_trans hB ew118.size
    refine a_p 4 tbOk rfl rfl rfl rfl (by kernel_rfl) (fun _ _ _ h => h) hS ?_
    refine a_split 60 _ rfl (fun c10 => ?_) (fun c10 => ?_)
    · refine a_lds 5 tbOk (fun _ hs j v hv => (D_h4.ext hs).cell j v hv) rfl rfl rfl rfl rfl rfl rfl (by kernel_rfl) (fun _ _ _ h => h) hS ?_
      refine a_lds 6 tbOk (fun _ hs j v hv => (D_h1.ext hs).cell j v hv) rfl rfl rfl rfl rfl rfl rfl (by kernel_rfl) (fun _ _ _ h => h) hS ?_
      refine a_one 7 rfl (by kernel_rfl) (o_call fo50 rfl rfl rfl (refNumber_spec t _ _ _ _ (Classical.choose_spec (shape_either hro)) ht hlow hz) ?_)
      rintro vrn w119 ⟨hrn, ew119⟩
      replace hS := hS.then ew119
      replace hE := hE.trans (Below.mono ew119 hB)
      replace h3 := h3.ext ew119
      replace h4 := h4.ext ew119
      replace hc := Rep.ext hc ew119
      replace hn := Rep.ext hn ew119
      replace hv := hv.ext ew119
      replace h1 := h1.ext ew119
      replace ht := Rep.ext ht ew119
      replace hw := hw.ext ew119
      replace hrc := Rep.ext hrc ew119
      replace hlow := hlow.ext ew119
      replace hB := Nat.le_trans hB ew119.size
      refine ⟨hS, ?_⟩
      refine a_bar 8 rfl (by kernel_rfl) (by kernel_rfl) (o_call fo22 rfl rfl rfl (alike_spec _ _ _ _ _ _ hn hrn hlow) ?_)
      rintro _ w120 ⟨rfl, ew120⟩
      replace hS := hS.then ew120
      replace hE := hE.trans (Below.mono ew120 hB)
      replace h3 := h3.ext ew120
      replace h4 := h4.ext ew120
      replace hc := Rep.ext hc ew120
      replace hn := Rep.ext hn ew120
      replace hv := hv.ext ew120
      replace h1 := h1.ext ew120
      replace ht := Rep.ext ht ew120
      replace hw := hw.ext ew120
      replace hrc := Rep.ext hrc ew120
      replace hrn := Rep.ext hrn ew120
      replace hlow := hlow.ext ew120
      replace hB := Nat.le_trans hB ew120.size
      refine a_p 9 tbOk rfl rfl rfl rfl (by kernel_rfl) (fun _ _ _ h => h) hS ?_
      refine a_p 10 tbOk rfl rfl rfl rfl (by kernel_rfl) (fun _ _ _ h => h) hS ?_
      refine a_split 66 _ rfl (fun c11 => ?_) (fun c11 => ?_)
      · refine a_p 11 tbOk rfl rfl rfl rfl (by kernel_rfl) (fun _ _ _ h => h) hS ?_
        refine a_p 12 tbOk rfl rfl rfl rfl (by kernel_rfl) (fun _ _ _ h => h) hS ?_
        refine a_bar 13 rfl (by kernel_rfl) (by kernel_rfl) (o_call fo51 rfl rfl rfl (sameInts_spec _ _ _ _ _ _ hv hw) ?_)
        rintro _ w121 ⟨rfl, ew121⟩
        replace hS := hS.then ew121
        replace hE := hE.trans (Below.mono ew121 hB)
        replace h3 := h3.ext ew121
        replace h4 := h4.ext ew121
        replace hc := Rep.ext hc ew121
        replace hn := Rep.ext hn ew121
        replace hv := hv.ext ew121
        replace h1 := h1.ext ew121
        replace ht := Rep.ext ht ew121
        replace hw := hw.ext ew121
        replace hrc := Rep.ext hrc ew121
        replace hrn := Rep.ext hrn ew121
        replace hlow := hlow.ext ew121
        replace hB := Nat.le_trans hB ew121.size
        refine a_p 14 tbOk rfl rfl rfl rfl (by kernel_rfl) (fun _ _ _ h => h) hS ?_
        refine a_p 15 tbOk rfl rfl rfl rfl (by kernel_rfl) (fun _ _ _ h => h) hS ?_
        refine a_splitP 71 _ rfl (fun c12 => ?_) (fun c12 => ?_)
        · refine a_lds 16 tbOk (fun _ hs j v hv => (D_h1.ext hs).cell j v hv) rfl rfl rfl rfl rfl rfl rfl (by kernel_rfl) (fun _ _ _ h => h) hS ?_
          refine a_p 18 tbOk rfl rfl rfl rfl (by kernel_rfl) (fun _ _ _ h => h) hS ?_
          refine a_len 19 tbOk hw rfl rfl rfl rfl rfl rfl (by kernel_rfl) (fun _ _ _ h => h) hS ?_
          refine a_p 20 tbOk rfl rfl rfl rfl (by kernel_rfl) (fun _ _ _ h => h) hS ?_
          refine a_one 17 rfl (by kernel_rfl) (o_call fo46 rfl rfl rfl (kClosed_spec t _ _ _ ht hlow hz) ?_)
          rintro _ w122 ⟨rfl, ew122⟩
          replace hS := hS.then ew122
          replace hE := hE.trans (Below.mono ew122 hB)
          replace h3 := h3.ext ew122
          replace h4 := h4.ext ew122
          replace hc := Rep.ext hc ew122
          replace hn := Rep.ext hn ew122
          replace hv := hv.ext ew122
          replace h1 := h1.ext ew122
          replace ht := Rep.ext ht ew122
          replace hw := hw.ext ew122
          replace hrc := Rep.ext hrc ew122
          replace hrn := Rep.ext hrn ew122
          replace hlow := hlow.ext ew122
          replace hB := Nat.le_trans hB ew122.size
          refine ⟨hS, ?_⟩
          have hcl : (((rightB t || rowB t) && decide (varsF t = [])) == decide (((varsF t).length : Int) = 0)) = true := by rw [hro]; cases varsF t <;> simp <;> omega
          refine a_bar 21 rfl (by kernel_rfl) (by kernel_rfl) (o_beq tbOk rfl rfl rfl rfl rfl rfl ?_)
          refine a_p 22 tbOk rfl rfl rfl rfl (by kernel_rfl) (fun _ _ _ h => h) hS ?_
          refine a_p 23 tbOk rfl rfl rfl rfl (by kernel_rfl) (fun _ _ _ h => h) hS ?_
          refine a_split 79 _ rfl (fun c13 => ?_) (fun c13 => ?_)
          · refine a_lds 24 tbOk (fun _ hs j v hv => (D_h1.ext hs).cell j v hv) rfl rfl rfl rfl rfl rfl rfl (by kernel_rfl) (fun _ _ _ h => h) hS ?_
            refine a_lds 26 tbOk (fun _ hs j v hv => (D_h1.ext hs).cell j v hv) rfl rfl rfl rfl rfl rfl rfl (by kernel_rfl) (fun _ _ _ h => h) hS ?_
            refine a_one 25 rfl (by kernel_rfl) (o_call fo47 rfl rfl rfl (kStatic_spec t _ _ _ ht hlow hz) ?_)
            rintro _ w123 ⟨rfl, ew123⟩
            replace hS := hS.then ew123
            replace hE := hE.trans (Below.mono ew123 hB)
            replace h3 := h3.ext ew123
            replace h4 := h4.ext ew123
            replace hc := Rep.ext hc ew123
            replace hn := Rep.ext hn ew123
            replace hv := hv.ext ew123
            replace h1 := h1.ext ew123
            replace ht := Rep.ext ht ew123
            replace hw := hw.ext ew123
            replace hrc := Rep.ext hrc ew123
            replace hrn := Rep.ext hrn ew123
            replace hlow := hlow.ext ew123
            replace hB := Nat.le_trans hB ew123.size
            refine ⟨hS, ?_⟩
            refine a_bar 27 rfl (by kernel_rfl) (by kernel_rfl) (o_call fo52 rfl rfl rfl (refStatic_spec t _ _ _ ht hlow hz) ?_)
            rintro _ w124 ⟨rfl, ew124⟩
            replace hS := hS.then ew124
            replace hE := hE.trans (Below.mono ew124 hB)
            replace h3 := h3.ext ew124
            replace h4 := h4.ext ew124
            replace hc := Rep.ext hc ew124
            replace hn := Rep.ext hn ew124
            replace hv := hv.ext ew124
            replace h1 := h1.ext ew124
            replace ht := Rep.ext ht ew124
            replace hw := hw.ext ew124
            replace hrc := Rep.ext hrc ew124
            replace hrn := Rep.ext hrn ew124
            replace hlow := hlow.ext ew124
            replace hB := Nat.le_trans hB ew124.size
            refine a_bar 28 rfl (by kernel_rfl) (by kernel_rfl) (o_beq tbOk rfl rfl rfl rfl rfl rfl ?_)
            refine a_p 29 tbOk rfl rfl rfl rfl (by kernel_rfl) (fun _ _ _ h => h) hS ?_
            refine a_p 30 tbOk rfl rfl rfl rfl (by kernel_rfl) (fun _ _ _ h => h) hS ?_
            refine a_end (by kernel_rfl) ?_
            refine x_seq (c_ret (x_ret1 rfl rfl ?_))
            exact ⟨by rw [hro]; simp, hE⟩
          exact absurd (hcl.symm.trans c13) (by decide)
        exact absurd rfl c12
      exact absurd rfl (cl_not c11)
    exact absurd rfl (cl_not c10)
  refine l_p 4 tbOk rfl (q1 (c_ifF rfl (c_skip (x_seq (q0 ?_)))))
  refine l_cons (o_lds tbOk (fun j v hv => h1.cell j v hv) rfl rfl rfl rfl rfl rfl ?_)
  have hro : (rightB t || rowB t) = true := by simp [c3]
  rw [hro] at hCT hNT hVT
  simp only [cond_true] at hCT hNT hVT
  subst hCT
  subst hNT
  subst hVT
  refine l_cons (o_call fo48 rfl rfl rfl (refVars_spec t _ _ _ _ (Classical.choose_spec (shape_either hro)) ht hlow hz) ?_)
  rintro vhw w125 ⟨hw, ew125⟩
  replace hE := hE.trans (Below.mono ew125 hB)
  replace h3 := h3.ext ew125
  replace h4 := h4.ext ew125
  replace hc := Rep.ext hc ew125
  replace hn := Rep.ext hn ew125
  replace hv := hv.ext ew125
  replace h1 := h1.ext ew125
  replace ht := Rep.ext ht ew125
  replace hlow := hlow.ext ew125
  replace hB := Nat.le_trans hB ew125.size
  refine l_p 1 tbOk rfl (q1 (c_seq ?_))
  refine a_beg Ext rfl ?_
  intro w126 ew126
  replace hE := hE.trans (Below.mono ew126 hB)
  replace h3 := h3.ext ew126
  replace h4 := h4.ext ew126
  replace hc := Rep.ext hc ew126
  replace hn := Rep.ext hn ew126
  replace hv := hv.ext ew126
  replace h1 := h1.ext ew126
  replace ht := Rep.ext ht ew126
  replace hw := hw.ext ew126
  replace hlow := hlow.ext ew126
  replace hB := Nat.le_trans hB ew126.size
  have hS : Ext w126 w126 := ext_refl _
  have D_h3 := h3
  have D_h4 := h4
  have D_hv := hv
  have D_h1 := h1
  have D_hw := hw
  refine a_lds 0 tbOk (fun _ hs j v hv => (D_h3.ext hs).cell j v hv) rfl rfl rfl rfl rfl rfl rfl (by kernel_rfl) (fun _ _ _ h => h) hS ?_
  refine a_lds 1 tbOk (fun _ hs j v hv => (D_h1.ext hs).cell j v hv) rfl rfl rfl rfl rfl rfl rfl (by kernel_rfl) (fun _ _ _ h => h) hS ?_
  refine a_one 2 rfl (by kernel_rfl) (o_call fo49 rfl rfl rfl (refCanon_all _ t _ _ _ _ (Nat.le_refl _) (Classical.choose_spec (shape_either hro)) ht hlow hz) ?_)
  rintro vrc w127 ⟨hrc, ew127⟩
  replace hS := hS.then ew127
  replace hE := hE.trans (Below.mono ew127 hB)
  replace h3 := h3.ext ew127
  replace h4 := h4.ext ew127
  replace hc := Rep.ext hc ew127
  replace hn := Rep.ext hn ew127
  replace hv := hv.ext ew127
  replace h1 := h1.ext ew127
  replace ht := Rep.ext ht ew127
  replace hw := hw.ext ew127
  replace hlow := hlow.ext ew127
  replace hB := Nat.le_trans hB ew127.size
  refine ⟨hS, ?_⟩
  refine a_bar 3 rfl (by kernel_rfl) (by kernel_rfl) (o_call fo22 rfl rfl rfl (alike_spec _ _ _ _ _ _ hc hrc hlow) ?_)
  rintro _ w128 ⟨rfl, ew128⟩
  replace hS := hS.then ew128
  replace hE := hE.trans (Below.mono ew128 hB)
  replace h3 := h3.ext ew128
  replace h4 := h4.ext ew128
  replace hc := Rep.ext hc ew128
  replace hn := Rep.ext hn ew128
  replace hv := hv.ext ew128
  replace h1 := h1.ext ew128
  replace ht := Rep.ext ht ew128
  replace hw := hw.ext ew128
  replace hrc := Rep.ext hrc ew128
  replace hlow := hlow.ext ew128
  replace hB := Nat.le_trans hB ew128.size
  refine a_p 4 tbOk rfl rfl rfl rfl (by kernel_rfl) (fun _ _ _ h => h) hS ?_
  refine a_split 60 _ rfl (fun c14 => ?_) (fun c14 => ?_)
  · refine a_lds 5 tbOk (fun _ hs j v hv => (D_h4.ext hs).cell j v hv) rfl rfl rfl rfl rfl rfl rfl (by kernel_rfl) (fun _ _ _ h => h) hS ?_
    refine a_lds 6 tbOk (fun _ hs j v hv => (D_h1.ext hs).cell j v hv) rfl rfl rfl rfl rfl rfl rfl (by kernel_rfl) (fun _ _ _ h => h) hS ?_
    refine a_one 7 rfl (by kernel_rfl) (o_call fo50 rfl rfl rfl (refNumber_spec t _ _ _ _ (Classical.choose_spec (shape_either hro)) ht hlow hz) ?_)
    rintro vrn w129 ⟨hrn, ew129⟩
    replace hS := hS.then ew129
    replace hE := hE.trans (Below.mono ew129 hB)
    replace h3 := h3.ext ew129
    replace h4 := h4.ext ew129
    replace hc := Rep.ext hc ew129
    replace hn := Rep.ext hn ew129
    replace hv := hv.ext ew129
    replace h1 := h1.ext ew129
    replace ht := Rep.ext ht ew129
    replace hw := hw.ext ew129
    replace hrc := Rep.ext hrc ew129
    replace hlow := hlow.ext ew129
    replace hB := Nat.le_trans hB ew129.size
    refine ⟨hS, ?_⟩
    refine a_bar 8 rfl (by kernel_rfl) (by kernel_rfl) (o_call fo22 rfl rfl rfl (alike_spec _ _ _ _ _ _ hn hrn hlow) ?_)
    rintro _ w130 ⟨rfl, ew130⟩
    replace hS := hS.then ew130
    replace hE := hE.trans (Below.mono ew130 hB)
    replace h3 := h3.ext ew130
    replace h4 := h4.ext ew130
    replace hc := Rep.ext hc ew130
    replace hn := Rep.ext hn ew130
    replace hv := hv.ext ew130
    replace h1 := h1.ext ew130
    replace ht := Rep.ext ht ew130
    replace hw := hw.ext ew130
    replace hrc := Rep.ext hrc ew130
    replace hrn := Rep.ext hrn ew130
    replace hlow := hlow.ext ew130
    replace hB := Nat.le_trans hB ew130.size
    refine a_p 9 tbOk rfl rfl rfl rfl (by kernel_rfl) (fun _ _ _ h => h) hS ?_
    refine a_p 10 tbOk rfl rfl rfl rfl (by kernel_rfl) (fun _ _ _ h => h) hS ?_
    refine a_split 66 _ rfl (fun c15 => ?_) (fun c15 => ?_)
    · refine a_p 11 tbOk rfl rfl rfl rfl (by kernel_rfl) (fun _ _ _ h => h) hS ?_
      refine a_p 12 tbOk rfl rfl rfl rfl (by kernel_rfl) (fun _ _ _ h => h) hS ?_
      refine a_bar 13 rfl (by kernel_rfl) (by kernel_rfl) (o_call fo51 rfl rfl rfl (sameInts_spec _ _ _ _ _ _ hv hw) ?_)
      rintro _ w131 ⟨rfl, ew131⟩
      replace hS := hS.then ew131
      replace hE := hE.trans (Below.mono ew131 hB)
      replace h3 := h3.ext ew131
      replace h4 := h4.ext ew131
      replace hc := Rep.ext hc ew131
      replace hn := Rep.ext hn ew131
      replace hv := hv.ext ew131
      replace h1 := h1.ext ew131
      replace ht := Rep.ext ht ew131
      replace hw := hw.ext ew131
      replace hrc := Rep.ext hrc ew131
      replace hrn := Rep.ext hrn ew131
      replace hlow := hlow.ext ew131
      replace hB := Nat.le_trans hB ew131.size
      refine a_p 14 tbOk rfl rfl rfl rfl (by kernel_rfl) (fun _ _ _ h => h) hS ?_
      refine a_p 15 tbOk rfl rfl rfl rfl (by kernel_rfl) (fun _ _ _ h => h) hS ?_
      refine a_splitP 71 _ rfl (fun c16 => ?_) (fun c16 => ?_)
      · refine a_lds 16 tbOk (fun _ hs j v hv => (D_h1.ext hs).cell j v hv) rfl rfl rfl rfl rfl rfl rfl (by kernel_rfl) (fun _ _ _ h => h) hS ?_
        refine a_p 18 tbOk rfl rfl rfl rfl (by kernel_rfl) (fun _ _ _ h => h) hS ?_
        refine a_len 19 tbOk hw rfl rfl rfl rfl rfl rfl (by kernel_rfl) (fun _ _ _ h => h) hS ?_
        refine a_p 20 tbOk rfl rfl rfl rfl (by kernel_rfl) (fun _ _ _ h => h) hS ?_
        refine a_one 17 rfl (by kernel_rfl) (o_call fo46 rfl rfl rfl (kClosed_spec t _ _ _ ht hlow hz) ?_)
        rintro _ w132 ⟨rfl, ew132⟩
        replace hS := hS.then ew132
        replace hE := hE.trans (Below.mono ew132 hB)
        replace h3 := h3.ext ew132
        replace h4 := h4.ext ew132
        replace hc := Rep.ext hc ew132
        replace hn := Rep.ext hn ew132
        replace hv := hv.ext ew132
        replace h1 := h1.ext ew132
        replace ht := Rep.ext ht ew132
        replace hw := hw.ext ew132
        replace hrc := Rep.ext hrc ew132
        replace hrn := Rep.ext hrn ew132
        replace hlow := hlow.ext ew132
        replace hB := Nat.le_trans hB ew132.size
        refine ⟨hS, ?_⟩
        have hcl : (((rightB t || rowB t) && decide (varsF t = [])) == decide (((varsF t).length : Int) = 0)) = true := by rw [hro]; cases varsF t <;> simp <;> omega
        refine a_bar 21 rfl (by kernel_rfl) (by kernel_rfl) (o_beq tbOk rfl rfl rfl rfl rfl rfl ?_)
        refine a_p 22 tbOk rfl rfl rfl rfl (by kernel_rfl) (fun _ _ _ h => h) hS ?_
        refine a_p 23 tbOk rfl rfl rfl rfl (by kernel_rfl) (fun _ _ _ h => h) hS ?_
        refine a_split 79 _ rfl (fun c17 => ?_) (fun c17 => ?_)
        · refine a_lds 24 tbOk (fun _ hs j v hv => (D_h1.ext hs).cell j v hv) rfl rfl rfl rfl rfl rfl rfl (by kernel_rfl) (fun _ _ _ h => h) hS ?_
          refine a_lds 26 tbOk (fun _ hs j v hv => (D_h1.ext hs).cell j v hv) rfl rfl rfl rfl rfl rfl rfl (by kernel_rfl) (fun _ _ _ h => h) hS ?_
          refine a_one 25 rfl (by kernel_rfl) (o_call fo47 rfl rfl rfl (kStatic_spec t _ _ _ ht hlow hz) ?_)
          rintro _ w133 ⟨rfl, ew133⟩
          replace hS := hS.then ew133
          replace hE := hE.trans (Below.mono ew133 hB)
          replace h3 := h3.ext ew133
          replace h4 := h4.ext ew133
          replace hc := Rep.ext hc ew133
          replace hn := Rep.ext hn ew133
          replace hv := hv.ext ew133
          replace h1 := h1.ext ew133
          replace ht := Rep.ext ht ew133
          replace hw := hw.ext ew133
          replace hrc := Rep.ext hrc ew133
          replace hrn := Rep.ext hrn ew133
          replace hlow := hlow.ext ew133
          replace hB := Nat.le_trans hB ew133.size
          refine ⟨hS, ?_⟩
          refine a_bar 27 rfl (by kernel_rfl) (by kernel_rfl) (o_call fo52 rfl rfl rfl (refStatic_spec t _ _ _ ht hlow hz) ?_)
          rintro _ w134 ⟨rfl, ew134⟩
          replace hS := hS.then ew134
          replace hE := hE.trans (Below.mono ew134 hB)
          replace h3 := h3.ext ew134
          replace h4 := h4.ext ew134
          replace hc := Rep.ext hc ew134
          replace hn := Rep.ext hn ew134
          replace hv := hv.ext ew134
          replace h1 := h1.ext ew134
          replace ht := Rep.ext ht ew134
          replace hw := hw.ext ew134
          replace hrc := Rep.ext hrc ew134
          replace hrn := Rep.ext hrn ew134
          replace hlow := hlow.ext ew134
          replace hB := Nat.le_trans hB ew134.size
          refine a_bar 28 rfl (by kernel_rfl) (by kernel_rfl) (o_beq tbOk rfl rfl rfl rfl rfl rfl ?_)
          refine a_p 29 tbOk rfl rfl rfl rfl (by kernel_rfl) (fun _ _ _ h => h) hS ?_
          refine a_p 30 tbOk rfl rfl rfl rfl (by kernel_rfl) (fun _ _ _ h => h) hS ?_
          refine a_end (by kernel_rfl) ?_
          refine x_seq (c_ret (x_ret1 rfl rfl ?_))
          exact ⟨by rw [hro]; simp, hE⟩
        exact absurd (hcl.symm.trans c17) (by decide)
      exact absurd rfl c16
    exact absurd rfl (cl_not c15)
  exact absurd rfl (cl_not c14)

end Go.Proofs.Ytpoahmeacjggfaa
