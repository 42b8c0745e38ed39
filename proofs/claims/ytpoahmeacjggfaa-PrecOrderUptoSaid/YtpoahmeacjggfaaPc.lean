/- Walks: the chapter's example. Printed by wip/walks/prec3.py. -/
import Derived.Test.YtpoahmeacjggfaaPa
import Derived.Test.YtpoahmeacjggfaaPlainR
namespace Go.Proofs.Ytpoahmeacjggfaa
open Go Rw Go.RowKit
set_option maxRecDepth 100000

/-- many: more than 300 parts? -/
theorem many08_spec (t : Ty) (M : Nat → Prop) (w : World) (v : Value) (ht : Rep.R M w v t) (hlow : Low M w) (hsz : psz t ≤ 2000000) :
    Calls Try.prog 39 #[v] w (Ret fun r w' => r = .bool (decide (300 < (psz t : Int))) ∧ Ext w w') := by
  have hE : Below w.heap.size w w := Below.refl _ _
  have hB : w.heap.size ≤ w.heap.size := Nat.le_refl _
  obtain ⟨kv, rfl, op, nm, n64, hk⟩ := ty_open ht
  refine c_enter (n := 7) Try.func39 rfl rfl rfl ?_
  refine q0 ?_
  refine l_cons (o_box rfl rfl rfl ?_)
  intro b1 w1 hb_b1 ew1 h1
  replace h1 : Box _ b1 25 [.int .u8 t.op, .string t.name, .int .i64 t.n, kv] := h1
  replace h1 := h1.at (nM_of hlow hb_b1)
  replace hE := hE.trans (Below.mono ew1 hB)
  replace ht := Rep.ext ht ew1
  replace hk := hk.ext ew1
  replace hlow := hlow.ext ew1
  replace hB := Nat.le_trans hB ew1.size
  refine l_p 1 tbOk rfl (q1 (q0 ?_))
  refine l_cons (o_lds tbOk (fun j v hv => h1.cell j v hv) rfl rfl rfl rfl rfl rfl ?_)
  refine l_cons (o_call fo21 rfl rfl rfl (parts_spec t M _ _ ht hlow hsz) ?_)
  rintro vhr1 w2 ⟨hr1, ew2⟩
  replace hE := hE.trans (Below.mono ew2 hB)
  replace ht := Rep.ext ht ew2
  replace hk := hk.ext ew2
  replace h1 := h1.ext ew2
  replace hlow := hlow.ext ew2
  replace hB := Nat.le_trans hB ew2.size
  refine l_cons (o_len tbOk hr1 rfl rfl rfl rfl rfl ?_)
  refine l_p 2 tbOk rfl (q1 (c_ret (x_ret1 rfl rfl ?_)))
  exact ⟨rfl, hE⟩

/-- alive: true. -/
theorem alive08_spec (M : Nat → Prop) (w : World) (hlow0 : Low M w) :
    Calls Try.prog 38 #[] w (Ret fun r w' => r = .bool true ∧ Ext w w') := by
  have hlow := hlow0
  have hB : w.heap.size ≤ w.heap.size := Nat.le_refl _
  have hE : Below w.heap.size w w := Below.refl _ _
  have hsub : ∀ b, M b → M b := fun _ h => h
  refine c_enter (n := 37) Try.func38 rfl rfl rfl ?_
  refine q0 (l_p 1 tbOk rfl (q1 (q0 ?_)))
  refine l_cons (o_build (cells := [.int .u8 8, .string ⟨#[]⟩, .int .i64 0, .slice none 0 0]) bd25 rfl rfl rfl rfl rfl ?_)
  have hn0 : Rep.R M w (.agg #[.int .u8 8, .string ⟨#[]⟩, .int .i64 0, .slice none 0 0]) tyNone := ty_mk (by decide) (by decide) ⟨by decide, by decide⟩ sl_nil
  refine l_cons (o_build (cells := [.int .u8 9, .string ⟨#[]⟩, .int .i64 0, .slice none 0 0]) bd25 rfl rfl rfl rfl rfl ?_)
  have hn1 : Rep.R M w (.agg #[.int .u8 9, .string ⟨#[]⟩, .int .i64 0, .slice none 0 0]) tyDyn := ty_mk (by decide) (by decide) ⟨by decide, by decide⟩ sl_nil
  refine l_cons (o_new tbOk rfl rfl rfl ?_)
  intro b1 w1 qb1 ew1 hb1
  have sw1 := Stp.add ew1 hlow hB (Nat.le_of_eq qb1.symm) hb1.lt
  have h1 : MB w.heap.size (Rw.Add M b1) w1 b1 25 [.int .u8 0, .string ⟨#[]⟩, .int .i64 0, .slice none 0 0] := MB.mk' hb1 qb1 hB
  replace hE := hE.trans sw1.below
  replace hn0 := Rep.stp hn0 sw1
  replace hn1 := Rep.stp hn1 sw1
  replace hsub := fun b h => sw1.sub b (hsub b h)
  replace hlow := sw1.low
  replace hB := Nat.le_trans hB sw1.upd.1
  refine l_cons (o_new tbOk rfl rfl rfl ?_)
  intro b2 w2 qb2 ew2 hb2
  have ne_h1_h2 : b1 ≠ b2 := by have := h1.lt; omega
  have sw2 := Stp.add ew2 hlow hB (Nat.le_of_eq qb2.symm) hb2.lt
  have h2 : MB w.heap.size (Rw.Add (Rw.Add M b1) b2) w2 b2 25 [.int .u8 0, .string ⟨#[]⟩, .int .i64 0, .slice none 0 0] := MB.mk' hb2 qb2 hB
  replace h1 := h1.stp sw2 (ew2.block b1 h1.lt)
  replace hE := hE.trans sw2.below
  replace hn0 := Rep.stp hn0 sw2
  replace hn1 := Rep.stp hn1 sw2
  replace hsub := fun b h => sw2.sub b (hsub b h)
  replace hlow := sw2.low
  replace hB := Nat.le_trans hB sw2.upd.1
  refine l_cons (o_st tbOk h1.box rfl rfl rfl rfl (Rep.one hn0) rfl rfl ?_)
  intro w3 hw3 qw3 bew3
  have uw3 : UpdB _ _ _ := ⟨qw3, bew3⟩
  have sw3 := uw3.stp h1.inM hlow h1.ge
  have frw3 := qw3.2
  replace h2 := h2.stp sw3 (frw3 b2 h2.lt ne_h1_h2.symm)
  replace hE := hE.trans sw3.below
  replace hn0 := Rep.stp hn0 sw3
  replace hn1 := Rep.stp hn1 sw3
  replace hsub := fun b h => sw3.sub b (hsub b h)
  replace hlow := sw3.low
  replace hB := Nat.le_trans hB sw3.upd.1
  replace h1 : MB w.heap.size _ w3 b1 _ [.int .u8 8, .string ⟨#[]⟩, .int .i64 0, .slice none 0 0] := ⟨hw3, h1.inM, h1.ge⟩
  refine l_cons (o_st tbOk h2.box rfl rfl rfl rfl (Rep.one hn1) rfl rfl ?_)
  intro w4 hw4 qw4 bew4
  have uw4 : UpdB _ _ _ := ⟨qw4, bew4⟩
  have sw4 := uw4.stp h2.inM hlow h2.ge
  have frw4 := qw4.2
  replace h1 := h1.stp sw4 (frw4 b1 h1.lt ne_h1_h2)
  replace hE := hE.trans sw4.below
  replace hn0 := Rep.stp hn0 sw4
  replace hn1 := Rep.stp hn1 sw4
  replace hsub := fun b h => sw4.sub b (hsub b h)
  replace hlow := sw4.low
  replace hB := Nat.le_trans hB sw4.upd.1
  replace h2 : MB w.heap.size _ w4 b2 _ [.int .u8 9, .string ⟨#[]⟩, .int .i64 0, .slice none 0 0] := ⟨hw4, h2.inM, h2.ge⟩
  refine q1 (q0 ?_)
  refine l_cons (o_build (cells := [.int .u8 1, .string ⟨#[]⟩, .int .i64 0, .slice none 0 0]) bd25 rfl rfl rfl rfl rfl ?_)
  have hn2 : Rep.R (Rw.Add (Rw.Add M b1) b2) w4 (.agg #[.int .u8 1, .string ⟨#[]⟩, .int .i64 0, .slice none 0 0]) tyB := ty_mk (by decide) (by decide) ⟨by decide, by decide⟩ sl_nil
  refine l_cons (o_build (cells := [.int .u8 2, .string ⟨#[]⟩, .int .i64 0, .slice none 0 0]) bd25 rfl rfl rfl rfl rfl ?_)
  have hn3 : Rep.R (Rw.Add (Rw.Add M b1) b2) w4 (.agg #[.int .u8 2, .string ⟨#[]⟩, .int .i64 0, .slice none 0 0]) tyA := ty_mk (by decide) (by decide) ⟨by decide, by decide⟩ sl_nil
  refine l_cons (o_lds tbOk (fun j v hv => h1.cell j v hv) rfl rfl rfl rfl rfl rfl ?_)
  refine l_cons (o_call fo63 rfl rfl rfl (field_spec ⟨#[98]⟩ tyA tyNone _ _ _ _ (by decide) hn3 hn0 hlow) ?_)
  rintro vhf0 w5 ⟨hf0, ew5⟩
  replace hf0 : Rep.R _ w5 vhf0 (Ty.mk 11 ⟨#[98]⟩ 0 [tyA, tyNone]) := hf0
  replace h1 := h1.ext hlow hB ew5
  replace h2 := h2.ext hlow hB ew5
  replace hE := hE.trans (Below.mono ew5 hB)
  replace hn0 := Rep.ext hn0 ew5
  replace hn1 := Rep.ext hn1 ew5
  replace hn2 := Rep.ext hn2 ew5
  replace hn3 := Rep.ext hn3 ew5
  replace hlow := hlow.ext ew5
  replace hB := Nat.le_trans hB ew5.size
  refine l_cons (o_call fo63 rfl rfl rfl (field_spec ⟨#[97]⟩ tyB (Ty.mk 11 ⟨#[98]⟩ 0 [tyA, tyNone]) _ _ _ _ (by decide) hn2 hf0 hlow) ?_)
  rintro vhf1 w6 ⟨hf1, ew6⟩
  replace hf1 : Rep.R _ w6 vhf1 (Ty.mk 11 ⟨#[97]⟩ 0 [tyB, .mk 11 ⟨#[98]⟩ 0 [tyA, tyNone]]) := hf1
  replace h1 := h1.ext hlow hB ew6
  replace h2 := h2.ext hlow hB ew6
  replace hE := hE.trans (Below.mono ew6 hB)
  replace hn0 := Rep.ext hn0 ew6
  replace hn1 := Rep.ext hn1 ew6
  replace hn2 := Rep.ext hn2 ew6
  replace hn3 := Rep.ext hn3 ew6
  replace hf0 := Rep.ext hf0 ew6
  replace hlow := hlow.ext ew6
  replace hB := Nat.le_trans hB ew6.size
  refine l_cons (o_bs tbOk rfl rfl rfl rfl rfl rfl rfl (sz1 (Rep.size hf1)) rfl rfl rfl ?_)
  intro bl0 w7 qbl0 ew7 hbl0
  have nbl0 := nM_of hlow qbl0
  replace h1 := h1.ext hlow hB ew7
  replace h2 := h2.ext hlow hB ew7
  replace hE := hE.trans (Below.mono ew7 hB)
  replace hn0 := Rep.ext hn0 ew7
  replace hn1 := Rep.ext hn1 ew7
  replace hn2 := Rep.ext hn2 ew7
  replace hn3 := Rep.ext hn3 ew7
  replace hf0 := Rep.ext hf0 ew7
  replace hf1 := Rep.ext hf1 ew7
  replace hlow := hlow.ext ew7
  replace hB := Nat.le_trans hB ew7.size
  have hslbl0 : Sl (Rw.Add (Rw.Add M b1) b2) w7 (.slice (some ⟨bl0, 0, none⟩) 1 1) [(Ty.mk 11 ⟨#[97]⟩ 0 [tyB, .mk 11 ⟨#[98]⟩ 0 [tyA, tyNone]])] := lit_sl hbl0 nbl0 (show Rs _ _ [_] [(Ty.mk 11 ⟨#[97]⟩ 0 [tyB, .mk 11 ⟨#[98]⟩ 0 [tyA, tyNone]])] from ⟨hf1, trivial⟩) (by decide)
  refine l_cons (o_build (cells := [.int .u8 5, .string ⟨#[]⟩, .int .i64 0, .slice (some ⟨bl0, 0, none⟩) 1 1]) (css := [[.int .u8 5], [.slice (some ⟨bl0, 0, none⟩) 1 1]]) bd25 rfl rfl rfl rfl rfl ?_)
  have hn4 : Rep.R (Rw.Add (Rw.Add M b1) b2) w7 (.agg #[.int .u8 5, .string ⟨#[]⟩, .int .i64 0, .slice (some ⟨bl0, 0, none⟩) 1 1]) exA := ty_mk (by decide) (by decide) ⟨by decide, by decide⟩ hslbl0
  refine l_cons (o_new tbOk rfl rfl rfl ?_)
  intro b3 w8 qb3 ew8 hb3
  have nb3 := nM_of hlow qb3
  refine l_cons (o_st tbOk hb3 rfl rfl rfl rfl (Rep.one hn4) rfl rfl ?_)
  intro w9 h3 uw9 bew9
  have ew9 : Ext w7 w9 := ew8.trans (bew9 _ (Nat.le_of_eq qb3.symm))
  replace h1 := h1.ext hlow hB ew9
  replace h2 := h2.ext hlow hB ew9
  replace hE := hE.trans (Below.mono ew9 hB)
  replace hn0 := Rep.ext hn0 ew9
  replace hn1 := Rep.ext hn1 ew9
  replace hn2 := Rep.ext hn2 ew9
  replace hn3 := Rep.ext hn3 ew9
  replace hf0 := Rep.ext hf0 ew9
  replace hf1 := Rep.ext hf1 ew9
  replace hslbl0 := hslbl0.ext ew9
  replace hn4 := Rep.ext hn4 ew9
  replace hlow := hlow.ext ew9
  replace hB := Nat.le_trans hB ew9.size
  replace h3 : Box w9 b3 25 [.int .u8 5, .string ⟨#[]⟩, .int .i64 0, .slice (some ⟨bl0, 0, none⟩) 1 1] := h3
  replace h3 := h3.at nb3
  refine q1 (q0 ?_)
  refine l_cons (o_build (cells := [.int .u8 3, .string ⟨#[]⟩, .int .i64 0, .slice none 0 0]) bd25 rfl rfl rfl rfl rfl ?_)
  have hn5 : Rep.R (Rw.Add (Rw.Add M b1) b2) w9 (.agg #[.int .u8 3, .string ⟨#[]⟩, .int .i64 0, .slice none 0 0]) tyQ := ty_mk (by decide) (by decide) ⟨by decide, by decide⟩ sl_nil
  refine l_cons (o_lds tbOk (fun j v hv => h2.cell j v hv) rfl rfl rfl rfl rfl rfl ?_)
  refine l_cons (o_call fo63 rfl rfl rfl (field_spec ⟨#[97]⟩ tyQ tyDyn _ _ _ _ (by decide) hn5 hn1 hlow) ?_)
  rintro vhf2 w10 ⟨hf2, ew10⟩
  replace hf2 : Rep.R _ w10 vhf2 (Ty.mk 11 ⟨#[97]⟩ 0 [tyQ, tyDyn]) := hf2
  replace h1 := h1.ext hlow hB ew10
  replace h2 := h2.ext hlow hB ew10
  replace hE := hE.trans (Below.mono ew10 hB)
  replace hn0 := Rep.ext hn0 ew10
  replace hn1 := Rep.ext hn1 ew10
  replace hn2 := Rep.ext hn2 ew10
  replace hn3 := Rep.ext hn3 ew10
  replace hf0 := Rep.ext hf0 ew10
  replace hf1 := Rep.ext hf1 ew10
  replace hslbl0 := hslbl0.ext ew10
  replace hn4 := Rep.ext hn4 ew10
  replace h3 := h3.ext ew10
  replace hn5 := Rep.ext hn5 ew10
  replace hlow := hlow.ext ew10
  replace hB := Nat.le_trans hB ew10.size
  refine l_cons (o_bs tbOk rfl rfl rfl rfl rfl rfl rfl (sz1 (Rep.size hf2)) rfl rfl rfl ?_)
  intro bl1 w11 qbl1 ew11 hbl1
  have nbl1 := nM_of hlow qbl1
  replace h1 := h1.ext hlow hB ew11
  replace h2 := h2.ext hlow hB ew11
  replace hE := hE.trans (Below.mono ew11 hB)
  replace hn0 := Rep.ext hn0 ew11
  replace hn1 := Rep.ext hn1 ew11
  replace hn2 := Rep.ext hn2 ew11
  replace hn3 := Rep.ext hn3 ew11
  replace hf0 := Rep.ext hf0 ew11
  replace hf1 := Rep.ext hf1 ew11
  replace hslbl0 := hslbl0.ext ew11
  replace hn4 := Rep.ext hn4 ew11
  replace h3 := h3.ext ew11
  replace hn5 := Rep.ext hn5 ew11
  replace hf2 := Rep.ext hf2 ew11
  replace hlow := hlow.ext ew11
  replace hB := Nat.le_trans hB ew11.size
  have hslbl1 : Sl (Rw.Add (Rw.Add M b1) b2) w11 (.slice (some ⟨bl1, 0, none⟩) 1 1) [(Ty.mk 11 ⟨#[97]⟩ 0 [tyQ, tyDyn])] := lit_sl hbl1 nbl1 (show Rs _ _ [_] [(Ty.mk 11 ⟨#[97]⟩ 0 [tyQ, tyDyn])] from ⟨hf2, trivial⟩) (by decide)
  refine l_cons (o_build (cells := [.int .u8 5, .string ⟨#[]⟩, .int .i64 0, .slice (some ⟨bl1, 0, none⟩) 1 1]) (css := [[.int .u8 5], [.slice (some ⟨bl1, 0, none⟩) 1 1]]) bd25 rfl rfl rfl rfl rfl ?_)
  have hn6 : Rep.R (Rw.Add (Rw.Add M b1) b2) w11 (.agg #[.int .u8 5, .string ⟨#[]⟩, .int .i64 0, .slice (some ⟨bl1, 0, none⟩) 1 1]) exB := ty_mk (by decide) (by decide) ⟨by decide, by decide⟩ hslbl1
  refine l_cons (o_new tbOk rfl rfl rfl ?_)
  intro b4 w12 qb4 ew12 hb4
  have nb4 := nM_of hlow qb4
  refine l_cons (o_st tbOk hb4 rfl rfl rfl rfl (Rep.one hn6) rfl rfl ?_)
  intro w13 h4 uw13 bew13
  have ew13 : Ext w11 w13 := ew12.trans (bew13 _ (Nat.le_of_eq qb4.symm))
  replace h1 := h1.ext hlow hB ew13
  replace h2 := h2.ext hlow hB ew13
  replace hE := hE.trans (Below.mono ew13 hB)
  replace hn0 := Rep.ext hn0 ew13
  replace hn1 := Rep.ext hn1 ew13
  replace hn2 := Rep.ext hn2 ew13
  replace hn3 := Rep.ext hn3 ew13
  replace hf0 := Rep.ext hf0 ew13
  replace hf1 := Rep.ext hf1 ew13
  replace hslbl0 := hslbl0.ext ew13
  replace hn4 := Rep.ext hn4 ew13
  replace h3 := h3.ext ew13
  replace hn5 := Rep.ext hn5 ew13
  replace hf2 := Rep.ext hf2 ew13
  replace hslbl1 := hslbl1.ext ew13
  replace hn6 := Rep.ext hn6 ew13
  replace hlow := hlow.ext ew13
  replace hB := Nat.le_trans hB ew13.size
  replace h4 : Box w13 b4 25 [.int .u8 5, .string ⟨#[]⟩, .int .i64 0, .slice (some ⟨bl1, 0, none⟩) 1 1] := h4
  replace h4 := h4.at nb4
  refine q1 (q0 ?_)
  refine l_cons (o_lds tbOk (fun j v hv => h2.cell j v hv) rfl rfl rfl rfl rfl rfl ?_)
  refine l_cons (o_bs tbOk rfl rfl rfl rfl rfl rfl rfl (sz1 (Rep.size hn1)) rfl rfl rfl ?_)
  intro bl2 w14 qbl2 ew14 hbl2
  have nbl2 := nM_of hlow qbl2
  replace h1 := h1.ext hlow hB ew14
  replace h2 := h2.ext hlow hB ew14
  replace hE := hE.trans (Below.mono ew14 hB)
  replace hn0 := Rep.ext hn0 ew14
  replace hn1 := Rep.ext hn1 ew14
  replace hn2 := Rep.ext hn2 ew14
  replace hn3 := Rep.ext hn3 ew14
  replace hf0 := Rep.ext hf0 ew14
  replace hf1 := Rep.ext hf1 ew14
  replace hslbl0 := hslbl0.ext ew14
  replace hn4 := Rep.ext hn4 ew14
  replace h3 := h3.ext ew14
  replace hn5 := Rep.ext hn5 ew14
  replace hf2 := Rep.ext hf2 ew14
  replace hslbl1 := hslbl1.ext ew14
  replace hn6 := Rep.ext hn6 ew14
  replace h4 := h4.ext ew14
  replace hlow := hlow.ext ew14
  replace hB := Nat.le_trans hB ew14.size
  have hslbl2 : Sl (Rw.Add (Rw.Add M b1) b2) w14 (.slice (some ⟨bl2, 0, none⟩) 1 1) [tyDyn] := lit_sl hbl2 nbl2 (show Rs _ _ [_] [tyDyn] from ⟨hn1, trivial⟩) (by decide)
  refine l_cons (o_build (cells := [.int .u8 5, .string ⟨#[]⟩, .int .i64 0, .slice (some ⟨bl2, 0, none⟩) 1 1]) (css := [[.int .u8 5], [.slice (some ⟨bl2, 0, none⟩) 1 1]]) bd25 rfl rfl rfl rfl rfl ?_)
  have hn7 : Rep.R (Rw.Add (Rw.Add M b1) b2) w14 (.agg #[.int .u8 5, .string ⟨#[]⟩, .int .i64 0, .slice (some ⟨bl2, 0, none⟩) 1 1]) exC := ty_mk (by decide) (by decide) ⟨by decide, by decide⟩ hslbl2
  refine l_cons (o_new tbOk rfl rfl rfl ?_)
  intro b5 w15 qb5 ew15 hb5
  have nb5 := nM_of hlow qb5
  refine l_cons (o_st tbOk hb5 rfl rfl rfl rfl (Rep.one hn7) rfl rfl ?_)
  intro w16 h5 uw16 bew16
  have ew16 : Ext w14 w16 := ew15.trans (bew16 _ (Nat.le_of_eq qb5.symm))
  replace h1 := h1.ext hlow hB ew16
  replace h2 := h2.ext hlow hB ew16
  replace hE := hE.trans (Below.mono ew16 hB)
  replace hn0 := Rep.ext hn0 ew16
  replace hn1 := Rep.ext hn1 ew16
  replace hn2 := Rep.ext hn2 ew16
  replace hn3 := Rep.ext hn3 ew16
  replace hf0 := Rep.ext hf0 ew16
  replace hf1 := Rep.ext hf1 ew16
  replace hslbl0 := hslbl0.ext ew16
  replace hn4 := Rep.ext hn4 ew16
  replace h3 := h3.ext ew16
  replace hn5 := Rep.ext hn5 ew16
  replace hf2 := Rep.ext hf2 ew16
  replace hslbl1 := hslbl1.ext ew16
  replace hn6 := Rep.ext hn6 ew16
  replace h4 := h4.ext ew16
  replace hslbl2 := hslbl2.ext ew16
  replace hn7 := Rep.ext hn7 ew16
  replace hlow := hlow.ext ew16
  replace hB := Nat.le_trans hB ew16.size
  replace h5 : Box w16 b5 25 [.int .u8 5, .string ⟨#[]⟩, .int .i64 0, .slice (some ⟨bl2, 0, none⟩) 1 1] := h5
  replace h5 := h5.at nb5
  refine q1 (q0 ?_)
  refine l_cons (o_lds tbOk (fun j v hv => h3.cell j v hv) rfl rfl rfl rfl rfl rfl ?_)
  refine l_cons (o_lds tbOk (fun j v hv => h4.cell j v hv) rfl rfl rfl rfl rfl rfl ?_)
  have k1 := lessP_spec exA exB _ _ _ _ hn4 hn6 hlow exA_psz exB_psz
  rw [exAB] at k1
  refine l_cons (o_call fo42 rfl rfl rfl (k1) ?_)
  rintro _ w17 ⟨rfl, ew17⟩
  replace h1 := h1.ext hlow hB ew17
  replace h2 := h2.ext hlow hB ew17
  replace hE := hE.trans (Below.mono ew17 hB)
  replace hn0 := Rep.ext hn0 ew17
  replace hn1 := Rep.ext hn1 ew17
  replace hn2 := Rep.ext hn2 ew17
  replace hn3 := Rep.ext hn3 ew17
  replace hf0 := Rep.ext hf0 ew17
  replace hf1 := Rep.ext hf1 ew17
  replace hslbl0 := hslbl0.ext ew17
  replace hn4 := Rep.ext hn4 ew17
  replace h3 := h3.ext ew17
  replace hn5 := Rep.ext hn5 ew17
  replace hf2 := Rep.ext hf2 ew17
  replace hslbl1 := hslbl1.ext ew17
  replace hn6 := Rep.ext hn6 ew17
  replace h4 := h4.ext ew17
  replace hslbl2 := hslbl2.ext ew17
  replace hn7 := Rep.ext hn7 ew17
  replace h5 := h5.ext ew17
  replace hlow := hlow.ext ew17
  replace hB := Nat.le_trans hB ew17.size
  refine l_p 1 tbOk rfl ?_
  refine l_cons (o_lds tbOk (fun j v hv => h4.cell j v hv) rfl rfl rfl rfl rfl rfl ?_)
  refine l_cons (o_lds tbOk (fun j v hv => h3.cell j v hv) rfl rfl rfl rfl rfl rfl ?_)
  have k2 := lessP_spec exB exA _ _ _ _ hn6 hn4 hlow exB_psz exA_psz
  rw [exBA] at k2
  refine l_cons (o_call fo42 rfl rfl rfl (k2) ?_)
  rintro _ w18 ⟨rfl, ew18⟩
  replace h1 := h1.ext hlow hB ew18
  replace h2 := h2.ext hlow hB ew18
  replace hE := hE.trans (Below.mono ew18 hB)
  replace hn0 := Rep.ext hn0 ew18
  replace hn1 := Rep.ext hn1 ew18
  replace hn2 := Rep.ext hn2 ew18
  replace hn3 := Rep.ext hn3 ew18
  replace hf0 := Rep.ext hf0 ew18
  replace hf1 := Rep.ext hf1 ew18
  replace hslbl0 := hslbl0.ext ew18
  replace hn4 := Rep.ext hn4 ew18
  replace h3 := h3.ext ew18
  replace hn5 := Rep.ext hn5 ew18
  replace hf2 := Rep.ext hf2 ew18
  replace hslbl1 := hslbl1.ext ew18
  replace hn6 := Rep.ext hn6 ew18
  replace h4 := h4.ext ew18
  replace hslbl2 := hslbl2.ext ew18
  replace hn7 := Rep.ext hn7 ew18
  replace h5 := h5.ext ew18
  replace hlow := hlow.ext ew18
  replace hB := Nat.le_trans hB ew18.size
  refine l_p 3 tbOk rfl ?_
  refine l_cons (o_lds tbOk (fun j v hv => h5.cell j v hv) rfl rfl rfl rfl rfl rfl ?_)
  refine l_cons (o_lds tbOk (fun j v hv => h3.cell j v hv) rfl rfl rfl rfl rfl rfl ?_)
  have k3 := consistent_spec exC exA _ _ _ _ hn7 hn4 hlow exC_psz exA_psz
  rw [exCA] at k3
  refine l_cons (o_call fo40 rfl rfl rfl (k3) ?_)
  rintro _ w19 ⟨rfl, ew19⟩
  replace h1 := h1.ext hlow hB ew19
  replace h2 := h2.ext hlow hB ew19
  replace hE := hE.trans (Below.mono ew19 hB)
  replace hn0 := Rep.ext hn0 ew19
  replace hn1 := Rep.ext hn1 ew19
  replace hn2 := Rep.ext hn2 ew19
  replace hn3 := Rep.ext hn3 ew19
  replace hf0 := Rep.ext hf0 ew19
  replace hf1 := Rep.ext hf1 ew19
  replace hslbl0 := hslbl0.ext ew19
  replace hn4 := Rep.ext hn4 ew19
  replace h3 := h3.ext ew19
  replace hn5 := Rep.ext hn5 ew19
  replace hf2 := Rep.ext hf2 ew19
  replace hslbl1 := hslbl1.ext ew19
  replace hn6 := Rep.ext hn6 ew19
  replace h4 := h4.ext ew19
  replace hslbl2 := hslbl2.ext ew19
  replace hn7 := Rep.ext hn7 ew19
  replace h5 := h5.ext ew19
  replace hlow := hlow.ext ew19
  replace hB := Nat.le_trans hB ew19.size
  refine l_p 2 tbOk rfl (q1 (c_ret (x_ret1 rfl rfl ?_)))
  exact ⟨rfl, hE⟩

end Go.Proofs.Ytpoahmeacjggfaa
