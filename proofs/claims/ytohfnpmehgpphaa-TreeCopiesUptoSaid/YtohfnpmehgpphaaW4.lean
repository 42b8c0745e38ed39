/- Part 4 of the proof: rules, plain laws and walks, merged out of smaller texts. -/
import Derived.Test.YtohfnpmehgpphaaW3
namespace Go.Proofs.Ytohfnpmehgpphaa
open Go Rw Go.RowKit
set_option maxRecDepth 100000
theorem shaped_spec (op : Int) (M : Nat → Prop) (w : World) (hlow0 : Low M w) :
  Calls Try.prog 119 #[.int .u8 op] w (Ret fun r w' => r = .tuple #[.agg #[.bool (shp op).1, .bool (shp op).2.1, .int .i64 (shp op).2.2.1, .int .i64 (shp op).2.2.2.1], .bool (shp op).2.2.2.2] ∧ Ext w w') := by
 have hlow := hlow0
 have hB : w.heap.size ≤ w.heap.size := Nat.le_refl _
 have hE : Below w.heap.size w w := Below.refl _ _
 have hsub : ∀ b, M b → M b := fun _ h => h
 refine c_enter (n := 52) Try.func119 rfl rfl rfl ?_
 refine q0 ?_
 refine lC (o_new tK rfl rfl rfl ?_)
 intro b2 w1 qb2 ew1 hb2
 have sw1 := Stp.add ew1 hlow hB (Nat.le_of_eq qb2.symm) hb2.lt
 have h2 : MB w.heap.size (Rw.Add M b2) w1 b2 184 [.bool false, .bool false, .int .i64 0, .int .i64 0] := MB.mk' hb2 qb2 hB
 replace hE := hE.trans sw1.below
 replace hsub := sw1.sb hsub
 replace hlow := sw1.low
 replace hB := sw1.z hB
 refine l_p 1 tK rfl (q1 (c_seq (q0 (l_p 1 tK rfl (q1 (c_blk (q0 (l_p 2 tK rfl (q1 ?_)))))))))
 refine c_ifP _ rfl (fun c1 => ?_) (fun c1 => ?_)
 ·refine q0 ?_
  refine lC (o_build (cells := [.bool true, .bool false, .int .i64 0, .int .i64 0]) bd184 rfl rfl rfl rfl rfl ?_)
  refine lC (o_st tK h2.box rfl rfl rfl rfl (by simp [Value.cells, Value.oneCell']) rfl rfl ?_)
  intro w2 hw2 qw2 bew2
  have uw2 : UpdB _ _ _ := ⟨qw2, bew2⟩
  have sw2 := uw2.stp h2.inM hlow h2.ge
  have frw2 := qw2.2
  replace hE := hE.trans sw2.below
  replace hsub := sw2.sb hsub
  replace hlow := sw2.low
  replace hB := sw2.z hB
  replace h2 : MB w.heap.size _ w2 b2 _ [.bool true, .bool false, .int .i64 0, .int .i64 0] := ⟨hw2, h2.inM, h2.ge⟩
  refine l_p 1 tK rfl (q1 (c_ret (x_blkR (x_seqR ?_))))
  refine x_ret2st tK (fun j v hv => h2.cell j v hv) rfl rfl rfl rfl rfl rfl ?_
  subst c1
  exact ⟨rfl, hE⟩
 refine c_seq (q0 (l_p 2 tK rfl (q1 ?_)))
 refine c_splitP 8 _ rfl (fun c2 => c_ifT rfl ?_) (fun c2 => c_ifF rfl ?_)
 ·refine c_skip (x_seq (c_ifT rfl (q0 ?_)))
  refine lC (o_build (cells := [.bool false, .bool false, .int .i64 0, .int .i64 0]) bd184 rfl rfl rfl rfl rfl ?_)
  refine lC (o_st tK h2.box rfl rfl rfl rfl (by simp [Value.cells, Value.oneCell']) rfl rfl ?_)
  intro w3 hw3 qw3 bew3
  have uw3 : UpdB _ _ _ := ⟨qw3, bew3⟩
  have sw3 := uw3.stp h2.inM hlow h2.ge
  have frw3 := qw3.2
  replace hE := hE.trans sw3.below
  replace hsub := sw3.sb hsub
  replace hlow := sw3.low
  replace hB := sw3.z hB
  replace h2 : MB w.heap.size _ w3 b2 _ [.bool false, .bool false, .int .i64 0, .int .i64 0] := ⟨hw3, h2.inM, h2.ge⟩
  refine l_p 1 tK rfl (q1 (c_ret (x_blkR (x_seqR ?_))))
  refine x_ret2st tK (fun j v hv => h2.cell j v hv) rfl rfl rfl rfl rfl rfl ?_
  subst c2
  exact ⟨rfl, hE⟩
 refine q0 (l_p 2 tK rfl (q1 ?_))
 refine c_splitP 8 _ rfl (fun c3 => c_ifT rfl ?_) (fun c3 => c_ifF rfl ?_)
 ·refine c_skip (x_seq (c_ifT rfl (q0 ?_)))
  refine lC (o_build (cells := [.bool false, .bool false, .int .i64 0, .int .i64 0]) bd184 rfl rfl rfl rfl rfl ?_)
  refine lC (o_st tK h2.box rfl rfl rfl rfl (by simp [Value.cells, Value.oneCell']) rfl rfl ?_)
  intro w4 hw4 qw4 bew4
  have uw4 : UpdB _ _ _ := ⟨qw4, bew4⟩
  have sw4 := uw4.stp h2.inM hlow h2.ge
  have frw4 := qw4.2
  replace hE := hE.trans sw4.below
  replace hsub := sw4.sb hsub
  replace hlow := sw4.low
  replace hB := sw4.z hB
  replace h2 : MB w.heap.size _ w4 b2 _ [.bool false, .bool false, .int .i64 0, .int .i64 0] := ⟨hw4, h2.inM, h2.ge⟩
  refine l_p 1 tK rfl (q1 (c_ret (x_blkR (x_seqR ?_))))
  refine x_ret2st tK (fun j v hv => h2.cell j v hv) rfl rfl rfl rfl rfl rfl ?_
  subst c3
  exact ⟨rfl, hE⟩
 refine c_reg (l_p 2 tK rfl (q1 ?_))
 refine c_splitP 8 _ rfl (fun c4 => c_ifT rfl ?_) (fun c4 => c_ifF rfl ?_)
 ·refine q0 ?_
  refine lC (o_build (cells := [.bool false, .bool false, .int .i64 0, .int .i64 0]) bd184 rfl rfl rfl rfl rfl ?_)
  refine lC (o_st tK h2.box rfl rfl rfl rfl (by simp [Value.cells, Value.oneCell']) rfl rfl ?_)
  intro w5 hw5 qw5 bew5
  have uw5 : UpdB _ _ _ := ⟨qw5, bew5⟩
  have sw5 := uw5.stp h2.inM hlow h2.ge
  have frw5 := qw5.2
  replace hE := hE.trans sw5.below
  replace hsub := sw5.sb hsub
  replace hlow := sw5.low
  replace hB := sw5.z hB
  replace h2 : MB w.heap.size _ w5 b2 _ [.bool false, .bool false, .int .i64 0, .int .i64 0] := ⟨hw5, h2.inM, h2.ge⟩
  refine l_p 1 tK rfl (q1 (c_ret (x_blkR (x_seqR ?_))))
  refine x_ret2st tK (fun j v hv => h2.cell j v hv) rfl rfl rfl rfl rfl rfl ?_
  subst c4
  exact ⟨rfl, hE⟩
 refine q0 (l_p 2 tK rfl (q1 ?_))
 refine c_ifP _ rfl (fun c5 => ?_) (fun c5 => ?_)
 ·refine q0 ?_
  refine lC (o_build (cells := [.bool false, .bool true, .int .i64 1, .int .i64 1]) bd184 rfl rfl rfl rfl rfl ?_)
  refine lC (o_st tK h2.box rfl rfl rfl rfl (by simp [Value.cells, Value.oneCell']) rfl rfl ?_)
  intro w6 hw6 qw6 bew6
  have uw6 : UpdB _ _ _ := ⟨qw6, bew6⟩
  have sw6 := uw6.stp h2.inM hlow h2.ge
  have frw6 := qw6.2
  replace hE := hE.trans sw6.below
  replace hsub := sw6.sb hsub
  replace hlow := sw6.low
  replace hB := sw6.z hB
  replace h2 : MB w.heap.size _ w6 b2 _ [.bool false, .bool true, .int .i64 1, .int .i64 1] := ⟨hw6, h2.inM, h2.ge⟩
  refine l_p 1 tK rfl (q1 (c_ret (x_blkR (x_seqR ?_))))
  refine x_ret2st tK (fun j v hv => h2.cell j v hv) rfl rfl rfl rfl rfl rfl ?_
  subst c5
  exact ⟨rfl, hE⟩
 refine q0 (l_p 2 tK rfl (q1 ?_))
 refine c_ifP _ rfl (fun c6 => ?_) (fun c6 => ?_)
 ·refine q0 ?_
  refine lC (o_build (cells := [.bool true, .bool true, .int .i64 1, .int .i64 1]) bd184 rfl rfl rfl rfl rfl ?_)
  refine lC (o_st tK h2.box rfl rfl rfl rfl (by simp [Value.cells, Value.oneCell']) rfl rfl ?_)
  intro w7 hw7 qw7 bew7
  have uw7 : UpdB _ _ _ := ⟨qw7, bew7⟩
  have sw7 := uw7.stp h2.inM hlow h2.ge
  have frw7 := qw7.2
  replace hE := hE.trans sw7.below
  replace hsub := sw7.sb hsub
  replace hlow := sw7.low
  replace hB := sw7.z hB
  replace h2 : MB w.heap.size _ w7 b2 _ [.bool true, .bool true, .int .i64 1, .int .i64 1] := ⟨hw7, h2.inM, h2.ge⟩
  refine l_p 1 tK rfl (q1 (c_ret (x_blkR (x_seqR ?_))))
  refine x_ret2st tK (fun j v hv => h2.cell j v hv) rfl rfl rfl rfl rfl rfl ?_
  subst c6
  exact ⟨rfl, hE⟩
 refine q0 (l_p 2 tK rfl (q1 ?_))
 refine c_ifP _ rfl (fun c7 => ?_) (fun c7 => ?_)
 ·refine q0 ?_
  refine lC (o_build (cells := [.bool false, .bool false, .int .i64 2, .int .i64 0]) bd184 rfl rfl rfl rfl rfl ?_)
  refine lC (o_st tK h2.box rfl rfl rfl rfl (by simp [Value.cells, Value.oneCell']) rfl rfl ?_)
  intro w8 hw8 qw8 bew8
  have uw8 : UpdB _ _ _ := ⟨qw8, bew8⟩
  have sw8 := uw8.stp h2.inM hlow h2.ge
  have frw8 := qw8.2
  replace hE := hE.trans sw8.below
  replace hsub := sw8.sb hsub
  replace hlow := sw8.low
  replace hB := sw8.z hB
  replace h2 : MB w.heap.size _ w8 b2 _ [.bool false, .bool false, .int .i64 2, .int .i64 0] := ⟨hw8, h2.inM, h2.ge⟩
  refine l_p 1 tK rfl (q1 (c_ret (x_blkR (x_seqR ?_))))
  refine x_ret2st tK (fun j v hv => h2.cell j v hv) rfl rfl rfl rfl rfl rfl ?_
  subst c7
  exact ⟨rfl, hE⟩
 refine c_seq (q0 (l_p 2 tK rfl (q1 ?_)))
 refine c_splitP 22 _ rfl (fun c8 => c_ifT rfl ?_) (fun c8 => c_ifF rfl ?_)
 ·refine c_skip (x_seq (c_ifT rfl (q0 ?_)))
  refine lC (o_build (cells := [.bool true, .bool false, .int .i64 2, .int .i64 0]) bd184 rfl rfl rfl rfl rfl ?_)
  refine lC (o_st tK h2.box rfl rfl rfl rfl (by simp [Value.cells, Value.oneCell']) rfl rfl ?_)
  intro w9 hw9 qw9 bew9
  have uw9 : UpdB _ _ _ := ⟨qw9, bew9⟩
  have sw9 := uw9.stp h2.inM hlow h2.ge
  have frw9 := qw9.2
  replace hE := hE.trans sw9.below
  replace hsub := sw9.sb hsub
  replace hlow := sw9.low
  replace hB := sw9.z hB
  replace h2 : MB w.heap.size _ w9 b2 _ [.bool true, .bool false, .int .i64 2, .int .i64 0] := ⟨hw9, h2.inM, h2.ge⟩
  refine l_p 1 tK rfl (q1 (c_ret (x_blkR (x_seqR ?_))))
  refine x_ret2st tK (fun j v hv => h2.cell j v hv) rfl rfl rfl rfl rfl rfl ?_
  subst c8
  exact ⟨rfl, hE⟩
 refine q0 (l_p 2 tK rfl (q1 ?_))
 refine c_splitP 22 _ rfl (fun c9 => c_ifT rfl ?_) (fun c9 => c_ifF rfl ?_)
 ·refine c_skip (x_seq (c_ifT rfl (q0 ?_)))
  refine lC (o_build (cells := [.bool true, .bool false, .int .i64 2, .int .i64 0]) bd184 rfl rfl rfl rfl rfl ?_)
  refine lC (o_st tK h2.box rfl rfl rfl rfl (by simp [Value.cells, Value.oneCell']) rfl rfl ?_)
  intro w10 hw10 qw10 bew10
  have uw10 : UpdB _ _ _ := ⟨qw10, bew10⟩
  have sw10 := uw10.stp h2.inM hlow h2.ge
  have frw10 := qw10.2
  replace hE := hE.trans sw10.below
  replace hsub := sw10.sb hsub
  replace hlow := sw10.low
  replace hB := sw10.z hB
  replace h2 : MB w.heap.size _ w10 b2 _ [.bool true, .bool false, .int .i64 2, .int .i64 0] := ⟨hw10, h2.inM, h2.ge⟩
  refine l_p 1 tK rfl (q1 (c_ret (x_blkR (x_seqR ?_))))
  refine x_ret2st tK (fun j v hv => h2.cell j v hv) rfl rfl rfl rfl rfl rfl ?_
  subst c9
  exact ⟨rfl, hE⟩
 refine c_reg (l_p 2 tK rfl (q1 ?_))
 refine c_splitP 22 _ rfl (fun c10 => c_ifT rfl ?_) (fun c10 => c_ifF rfl ?_)
 ·refine q0 ?_
  refine lC (o_build (cells := [.bool true, .bool false, .int .i64 2, .int .i64 0]) bd184 rfl rfl rfl rfl rfl ?_)
  refine lC (o_st tK h2.box rfl rfl rfl rfl (by simp [Value.cells, Value.oneCell']) rfl rfl ?_)
  intro w11 hw11 qw11 bew11
  have uw11 : UpdB _ _ _ := ⟨qw11, bew11⟩
  have sw11 := uw11.stp h2.inM hlow h2.ge
  have frw11 := qw11.2
  replace hE := hE.trans sw11.below
  replace hsub := sw11.sb hsub
  replace hlow := sw11.low
  replace hB := sw11.z hB
  replace h2 : MB w.heap.size _ w11 b2 _ [.bool true, .bool false, .int .i64 2, .int .i64 0] := ⟨hw11, h2.inM, h2.ge⟩
  refine l_p 1 tK rfl (q1 (c_ret (x_blkR (x_seqR ?_))))
  refine x_ret2st tK (fun j v hv => h2.cell j v hv) rfl rfl rfl rfl rfl rfl ?_
  subst c10
  exact ⟨rfl, hE⟩
 refine q0 (l_p 2 tK rfl (q1 ?_))
 refine c_ifP _ rfl (fun c11 => ?_) (fun c11 => ?_)
 ·refine q0 ?_
  refine lC (o_build (cells := [.bool false, .bool false, .int .i64 3, .int .i64 0]) bd184 rfl rfl rfl rfl rfl ?_)
  refine lC (o_st tK h2.box rfl rfl rfl rfl (by simp [Value.cells, Value.oneCell']) rfl rfl ?_)
  intro w12 hw12 qw12 bew12
  have uw12 : UpdB _ _ _ := ⟨qw12, bew12⟩
  have sw12 := uw12.stp h2.inM hlow h2.ge
  have frw12 := qw12.2
  replace hE := hE.trans sw12.below
  replace hsub := sw12.sb hsub
  replace hlow := sw12.low
  replace hB := sw12.z hB
  replace h2 : MB w.heap.size _ w12 b2 _ [.bool false, .bool false, .int .i64 3, .int .i64 0] := ⟨hw12, h2.inM, h2.ge⟩
  refine l_p 1 tK rfl (q1 (c_ret (x_blkR (x_seqR ?_))))
  refine x_ret2st tK (fun j v hv => h2.cell j v hv) rfl rfl rfl rfl rfl rfl ?_
  subst c11
  exact ⟨rfl, hE⟩
 refine q0 (l_p 2 tK rfl (q1 ?_))
 refine c_ifP _ rfl (fun c12 => ?_) (fun c12 => ?_)
 ·refine q0 ?_
  refine lC (o_build (cells := [.bool true, .bool false, .int .i64 2, .int .i64 0]) bd184 rfl rfl rfl rfl rfl ?_)
  refine lC (o_st tK h2.box rfl rfl rfl rfl (by simp [Value.cells, Value.oneCell']) rfl rfl ?_)
  intro w13 hw13 qw13 bew13
  have uw13 : UpdB _ _ _ := ⟨qw13, bew13⟩
  have sw13 := uw13.stp h2.inM hlow h2.ge
  have frw13 := qw13.2
  replace hE := hE.trans sw13.below
  replace hsub := sw13.sb hsub
  replace hlow := sw13.low
  replace hB := sw13.z hB
  replace h2 : MB w.heap.size _ w13 b2 _ [.bool true, .bool false, .int .i64 2, .int .i64 0] := ⟨hw13, h2.inM, h2.ge⟩
  refine l_p 1 tK rfl (q1 (c_ret (x_blkR (x_seqR ?_))))
  refine x_ret2st tK (fun j v hv => h2.cell j v hv) rfl rfl rfl rfl rfl rfl ?_
  subst c12
  exact ⟨rfl, hE⟩
 refine c_seq (q0 (l_p 2 tK rfl (q1 ?_)))
 refine c_splitP 33 _ rfl (fun c13 => c_ifT rfl ?_) (fun c13 => c_ifF rfl ?_)
 ·refine c_skip (x_seq (c_ifT rfl (q0 ?_)))
  refine lC (o_build (cells := [.bool true, .bool false, .int .i64 1, .int .i64 0]) bd184 rfl rfl rfl rfl rfl ?_)
  refine lC (o_st tK h2.box rfl rfl rfl rfl (by simp [Value.cells, Value.oneCell']) rfl rfl ?_)
  intro w14 hw14 qw14 bew14
  have uw14 : UpdB _ _ _ := ⟨qw14, bew14⟩
  have sw14 := uw14.stp h2.inM hlow h2.ge
  have frw14 := qw14.2
  replace hE := hE.trans sw14.below
  replace hsub := sw14.sb hsub
  replace hlow := sw14.low
  replace hB := sw14.z hB
  replace h2 : MB w.heap.size _ w14 b2 _ [.bool true, .bool false, .int .i64 1, .int .i64 0] := ⟨hw14, h2.inM, h2.ge⟩
  refine l_p 1 tK rfl (q1 (c_ret (x_blkR (x_seqR ?_))))
  refine x_ret2st tK (fun j v hv => h2.cell j v hv) rfl rfl rfl rfl rfl rfl ?_
  subst c13
  exact ⟨rfl, hE⟩
 refine q0 (l_p 2 tK rfl (q1 ?_))
 refine c_splitP 33 _ rfl (fun c14 => c_ifT rfl ?_) (fun c14 => c_ifF rfl ?_)
 ·refine c_skip (x_seq (c_ifT rfl (q0 ?_)))
  refine lC (o_build (cells := [.bool true, .bool false, .int .i64 1, .int .i64 0]) bd184 rfl rfl rfl rfl rfl ?_)
  refine lC (o_st tK h2.box rfl rfl rfl rfl (by simp [Value.cells, Value.oneCell']) rfl rfl ?_)
  intro w15 hw15 qw15 bew15
  have uw15 : UpdB _ _ _ := ⟨qw15, bew15⟩
  have sw15 := uw15.stp h2.inM hlow h2.ge
  have frw15 := qw15.2
  replace hE := hE.trans sw15.below
  replace hsub := sw15.sb hsub
  replace hlow := sw15.low
  replace hB := sw15.z hB
  replace h2 : MB w.heap.size _ w15 b2 _ [.bool true, .bool false, .int .i64 1, .int .i64 0] := ⟨hw15, h2.inM, h2.ge⟩
  refine l_p 1 tK rfl (q1 (c_ret (x_blkR (x_seqR ?_))))
  refine x_ret2st tK (fun j v hv => h2.cell j v hv) rfl rfl rfl rfl rfl rfl ?_
  subst c14
  exact ⟨rfl, hE⟩
 refine q0 (l_p 2 tK rfl (q1 ?_))
 refine c_splitP 33 _ rfl (fun c15 => c_ifT rfl ?_) (fun c15 => c_ifF rfl ?_)
 ·refine c_skip (x_seq (c_ifT rfl (q0 ?_)))
  refine lC (o_build (cells := [.bool true, .bool false, .int .i64 1, .int .i64 0]) bd184 rfl rfl rfl rfl rfl ?_)
  refine lC (o_st tK h2.box rfl rfl rfl rfl (by simp [Value.cells, Value.oneCell']) rfl rfl ?_)
  intro w16 hw16 qw16 bew16
  have uw16 : UpdB _ _ _ := ⟨qw16, bew16⟩
  have sw16 := uw16.stp h2.inM hlow h2.ge
  have frw16 := qw16.2
  replace hE := hE.trans sw16.below
  replace hsub := sw16.sb hsub
  replace hlow := sw16.low
  replace hB := sw16.z hB
  replace h2 : MB w.heap.size _ w16 b2 _ [.bool true, .bool false, .int .i64 1, .int .i64 0] := ⟨hw16, h2.inM, h2.ge⟩
  refine l_p 1 tK rfl (q1 (c_ret (x_blkR (x_seqR ?_))))
  refine x_ret2st tK (fun j v hv => h2.cell j v hv) rfl rfl rfl rfl rfl rfl ?_
  subst c15
  exact ⟨rfl, hE⟩
 refine c_reg (l_p 2 tK rfl (q1 ?_))
 refine c_splitP 33 _ rfl (fun c16 => c_ifT rfl ?_) (fun c16 => c_ifF rfl ?_)
 ·refine q0 ?_
  refine lC (o_build (cells := [.bool true, .bool false, .int .i64 1, .int .i64 0]) bd184 rfl rfl rfl rfl rfl ?_)
  refine lC (o_st tK h2.box rfl rfl rfl rfl (by simp [Value.cells, Value.oneCell']) rfl rfl ?_)
  intro w17 hw17 qw17 bew17
  have uw17 : UpdB _ _ _ := ⟨qw17, bew17⟩
  have sw17 := uw17.stp h2.inM hlow h2.ge
  have frw17 := qw17.2
  replace hE := hE.trans sw17.below
  replace hsub := sw17.sb hsub
  replace hlow := sw17.low
  replace hB := sw17.z hB
  replace h2 : MB w.heap.size _ w17 b2 _ [.bool true, .bool false, .int .i64 1, .int .i64 0] := ⟨hw17, h2.inM, h2.ge⟩
  refine l_p 1 tK rfl (q1 (c_ret (x_blkR (x_seqR ?_))))
  refine x_ret2st tK (fun j v hv => h2.cell j v hv) rfl rfl rfl rfl rfl rfl ?_
  subst c16
  exact ⟨rfl, hE⟩
 refine q0 (l_p 2 tK rfl (q1 ?_))
 refine c_ifP _ rfl (fun c17 => ?_) (fun c17 => ?_)
 ·refine q0 ?_
  refine lC (o_build (cells := [.bool false, .bool false, .int .i64 (-1), .int .i64 0]) bd184 rfl rfl rfl rfl rfl ?_)
  refine lC (o_st tK h2.box rfl rfl rfl rfl (by simp [Value.cells, Value.oneCell']) rfl rfl ?_)
  intro w18 hw18 qw18 bew18
  have uw18 : UpdB _ _ _ := ⟨qw18, bew18⟩
  have sw18 := uw18.stp h2.inM hlow h2.ge
  have frw18 := qw18.2
  replace hE := hE.trans sw18.below
  replace hsub := sw18.sb hsub
  replace hlow := sw18.low
  replace hB := sw18.z hB
  replace h2 : MB w.heap.size _ w18 b2 _ [.bool false, .bool false, .int .i64 (-1), .int .i64 0] := ⟨hw18, h2.inM, h2.ge⟩
  refine l_p 1 tK rfl (q1 (c_ret (x_blkR (x_seqR ?_))))
  refine x_ret2st tK (fun j v hv => h2.cell j v hv) rfl rfl rfl rfl rfl rfl ?_
  subst c17
  exact ⟨rfl, hE⟩
 refine q0 (l_p 2 tK rfl (q1 ?_))
 refine c_ifP _ rfl (fun c18 => ?_) (fun c18 => ?_)
 ·refine q0 ?_
  refine lC (o_build (cells := [.bool true, .bool true, .int .i64 1, .int .i64 0]) bd184 rfl rfl rfl rfl rfl ?_)
  refine lC (o_st tK h2.box rfl rfl rfl rfl (by simp [Value.cells, Value.oneCell']) rfl rfl ?_)
  intro w19 hw19 qw19 bew19
  have uw19 : UpdB _ _ _ := ⟨qw19, bew19⟩
  have sw19 := uw19.stp h2.inM hlow h2.ge
  have frw19 := qw19.2
  replace hE := hE.trans sw19.below
  replace hsub := sw19.sb hsub
  replace hlow := sw19.low
  replace hB := sw19.z hB
  replace h2 : MB w.heap.size _ w19 b2 _ [.bool true, .bool true, .int .i64 1, .int .i64 0] := ⟨hw19, h2.inM, h2.ge⟩
  refine l_p 1 tK rfl (q1 (c_ret (x_blkR (x_seqR ?_))))
  refine x_ret2st tK (fun j v hv => h2.cell j v hv) rfl rfl rfl rfl rfl rfl ?_
  subst c18
  exact ⟨rfl, hE⟩
 refine q0 (l_p 2 tK rfl (q1 ?_))
 refine c_ifP _ rfl (fun c19 => ?_) (fun c19 => ?_)
 ·refine q0 ?_
  refine lC (o_build (cells := [.bool false, .bool true, .int .i64 1, .int .i64 0]) bd184 rfl rfl rfl rfl rfl ?_)
  refine lC (o_st tK h2.box rfl rfl rfl rfl (by simp [Value.cells, Value.oneCell']) rfl rfl ?_)
  intro w20 hw20 qw20 bew20
  have uw20 : UpdB _ _ _ := ⟨qw20, bew20⟩
  have sw20 := uw20.stp h2.inM hlow h2.ge
  have frw20 := qw20.2
  replace hE := hE.trans sw20.below
  replace hsub := sw20.sb hsub
  replace hlow := sw20.low
  replace hB := sw20.z hB
  replace h2 : MB w.heap.size _ w20 b2 _ [.bool false, .bool true, .int .i64 1, .int .i64 0] := ⟨hw20, h2.inM, h2.ge⟩
  refine l_p 1 tK rfl (q1 (c_ret (x_blkR (x_seqR ?_))))
  refine x_ret2st tK (fun j v hv => h2.cell j v hv) rfl rfl rfl rfl rfl rfl ?_
  subst c19
  exact ⟨rfl, hE⟩
 refine q0 (l_p 2 tK rfl (q1 ?_))
 refine c_ifP _ rfl (fun c20 => ?_) (fun c20 => ?_)
 ·refine q0 ?_
  refine lC (o_build (cells := [.bool false, .bool false, .int .i64 1, .int .i64 2]) bd184 rfl rfl rfl rfl rfl ?_)
  refine lC (o_st tK h2.box rfl rfl rfl rfl (by simp [Value.cells, Value.oneCell']) rfl rfl ?_)
  intro w21 hw21 qw21 bew21
  have uw21 : UpdB _ _ _ := ⟨qw21, bew21⟩
  have sw21 := uw21.stp h2.inM hlow h2.ge
  have frw21 := qw21.2
  replace hE := hE.trans sw21.below
  replace hsub := sw21.sb hsub
  replace hlow := sw21.low
  replace hB := sw21.z hB
  replace h2 : MB w.heap.size _ w21 b2 _ [.bool false, .bool false, .int .i64 1, .int .i64 2] := ⟨hw21, h2.inM, h2.ge⟩
  refine l_p 1 tK rfl (q1 (c_ret (x_blkR (x_seqR ?_))))
  refine x_ret2st tK (fun j v hv => h2.cell j v hv) rfl rfl rfl rfl rfl rfl ?_
  subst c20
  exact ⟨rfl, hE⟩
 refine c_skip (x_blk (x_seq (q0 ?_)))
 refine lC (o_build (cells := [.bool false, .bool false, .int .i64 0, .int .i64 0]) bd184 rfl rfl rfl rfl rfl ?_)
 refine lC (o_st tK h2.box rfl rfl rfl rfl (by simp [Value.cells, Value.oneCell']) rfl rfl ?_)
 intro w22 hw22 qw22 bew22
 have uw22 : UpdB _ _ _ := ⟨qw22, bew22⟩
 have sw22 := uw22.stp h2.inM hlow h2.ge
 have frw22 := qw22.2
 replace hE := hE.trans sw22.below
 replace hsub := sw22.sb hsub
 replace hlow := sw22.low
 replace hB := sw22.z hB
 replace h2 : MB w.heap.size _ w22 b2 _ [.bool false, .bool false, .int .i64 0, .int .i64 0] := ⟨hw22, h2.inM, h2.ge⟩
 refine l_p 1 tK rfl (q1 (c_ret ?_))
 refine x_ret2st tK (fun j v hv => h2.cell j v hv) rfl rfl rfl rfl rfl rfl ?_
 exact ⟨by unfold shp; simp [*], hE⟩
theorem named_spec (s : ByteArray) (b : Bool) (w : World) (hs : s.size < 140737488355328) :
  Calls Try.prog 122 #[.string s, .bool b] w (Ret fun r w' => r = .bool (namedB s b) ∧ Ext w w') := by
 have hE : Below w.heap.size w w := Below.refl _ _
 have hB : w.heap.size ≤ w.heap.size := Nat.le_refl _
 refine c_enter (n := 18) Try.func122 rfl rfl rfl ?_
 refine q0 (l_p 1 tK rfl (q1 (q0 (l_p 3 tK rfl ?_))))
 refine l_splitP 7 _ rfl (fun c1 => ?_) (fun c1 => ?_)
 ·refine l_p 4 tK rfl ?_
  refine l_splitB 11 _ rfl (fun c2 => ?_) (fun c2 => ?_)
  ·refine l_p 7 tK rfl (q1 (c_ret (x_ret1 rfl rfl ?_)))
   exact ⟨by congr 1; unfold namedB; simp_all, hE⟩
  refine l_p 2 tK rfl ?_
  refine l_split 13 _ rfl (fun c3 => ?_) (fun c3 => ?_)
  ·refine l_p 1 tK rfl ?_
   refine lC (o_call fo57 rfl rfl rfl (isWord_spec _ s hs) ?_)
   rintro _ _ ⟨rfl, rfl⟩
   refine l_p 3 tK rfl (q1 (c_ret (x_ret1 rfl rfl ?_)))
   exact ⟨by congr 1; unfold namedB; simp_all, hE⟩
  refine l_p 5 tK rfl (q1 (c_ret (x_ret1 rfl rfl ?_)))
  exact ⟨by congr 1; unfold namedB; simp_all, hE⟩
 refine l_p 6 tK rfl ?_
 refine l_split 13 _ rfl (fun c4 => ?_) (fun c4 => ?_)
 ·refine l_p 1 tK rfl ?_
  refine lC (o_call fo57 rfl rfl rfl (isWord_spec _ s hs) ?_)
  rintro _ _ ⟨rfl, rfl⟩
  refine l_p 3 tK rfl (q1 (c_ret (x_ret1 rfl rfl ?_)))
  exact ⟨by congr 1; unfold namedB; simp_all, hE⟩
 refine l_p 5 tK rfl (q1 (c_ret (x_ret1 rfl rfl ?_)))
 exact ⟨by congr 1; unfold namedB; simp_all, hE⟩
theorem blank_spec (t : Ty) (M : Nat → Prop) (w : World) (v : Value) (ht : Rep.R M w v t) (hlow : Low M w) :
  Calls Try.prog 133 #[v] w (Ret fun r w' => r = .bool (blankB t) ∧ Ext w w') := by
 have hE : Below w.heap.size w w := Below.refl _ _
 have hB : w.heap.size ≤ w.heap.size := Nat.le_refl _
 obtain ⟨kv, rfl, op, nm, n64, hk⟩ := ty_open ht
 refine c_enter (n := 22) Try.func133 rfl rfl rfl ?_
 refine q0 ?_
 refine lC (o_box rfl rfl rfl ?_)
 intro b1 w1 hb_b1 ew1 h1
 replace h1 : Box _ b1 40 [.int .u8 t.op, .string t.name, .int .i64 t.n, kv] := h1
 replace h1 := h1.at (nM_of hlow hb_b1)
 replace hE := ew1.bl hE hB
 replace ht := Rep.ext ht ew1
 replace hk := hk.ext ew1
 replace hlow := hlow.ext ew1
 replace hB := ew1.z hB
 refine l_p 1 tK rfl (q1 (q0 (l_p 1 tK rfl ?_)))
 refine lC (o_ld tK (h1.cell 0 _ rfl) rfl rfl rfl rfl rfl ?_)
 refine l_p 2 tK rfl ?_
 refine l_splitP 6 _ rfl (fun c1 => ?_) (fun c1 => ?_)
 ·refine l_p 1 tK rfl ?_
  refine lC (o_ld tK (h1.cell 1 _ rfl) rfl rfl rfl rfl rfl ?_)
  refine l_p 3 tK rfl ?_
  refine l_splitP 11 _ rfl (fun c2 => ?_) (fun c2 => ?_)
  ·refine l_p 1 tK rfl ?_
   refine lC (o_ld tK (h1.cell 2 _ rfl) rfl rfl rfl rfl rfl ?_)
   refine l_p 3 tK rfl ?_
   refine l_splitP 16 _ rfl (fun c3 => ?_) (fun c3 => ?_)
   ·refine l_p 1 tK rfl ?_
    refine lC (o_ld tK (h1.cell 3 _ rfl) rfl rfl rfl rfl rfl ?_)
    refine lC (o_len tK hk rfl rfl rfl rfl rfl ?_)
    refine l_p 3 tK rfl (q1 (c_ret (x_ret1 rfl rfl ?_)))
    exact ⟨by congr 1; unfold blankB; simp_all, hE⟩
   refine l_p 6 tK rfl (q1 (c_ret (x_ret1 rfl rfl ?_)))
   exact ⟨by congr 1; unfold blankB; simp_all, hE⟩
  refine l_p 11 tK rfl (q1 (c_ret (x_ret1 rfl rfl ?_)))
  exact ⟨by congr 1; unfold blankB; simp_all, hE⟩
 refine l_p 16 tK rfl (q1 (c_ret (x_ret1 rfl rfl ?_)))
 exact ⟨by congr 1; unfold blankB; simp_all, hE⟩
theorem sign_spec (s : ByteArray) (w : World) :
  Calls Try.prog 123 #[.string s] w (Ret fun r w' => r = .bool (signB s) ∧ w = w') := by
 refine c_enter (n := 12) Try.func123 rfl rfl rfl ?_
 refine q0 (l_p 1 tK rfl (q1 (c_seq (q0 (l_p 1 tK rfl (q1 (c_blk (c_seq (q0 (l_p 2 tK rfl (q1 ?_)))))))))))
 refine c_splitP 4 _ rfl (fun c1 => c_ifT rfl ?_) (fun c1 => c_ifF rfl ?_)
 ·refine c_skip (x_seq (c_ifT rfl (q0 (l_p 1 tK rfl (q1 (c_ret (x_blkR (x_seqR (x_ret1 rfl rfl ?_)))))))))
  exact ⟨by congr 1; unfold signB; simp_all, rfl⟩
 refine q0 (l_p 2 tK rfl (q1 ?_))
 refine c_splitP 4 _ rfl (fun c2 => c_ifT rfl ?_) (fun c2 => c_ifF rfl ?_)
 ·refine c_skip (x_seq (c_ifT rfl (q0 (l_p 1 tK rfl (q1 (c_ret (x_blkR (x_seqR (x_ret1 rfl rfl ?_)))))))))
  exact ⟨by congr 1; unfold signB; simp_all, rfl⟩
 refine q0 (l_p 2 tK rfl (q1 ?_))
 refine c_splitP 4 _ rfl (fun c3 => c_ifT rfl ?_) (fun c3 => c_ifF rfl ?_)
 ·refine c_skip (x_seq (c_ifT rfl (q0 (l_p 1 tK rfl (q1 (c_ret (x_blkR (x_seqR (x_ret1 rfl rfl ?_)))))))))
  exact ⟨by congr 1; unfold signB; simp_all, rfl⟩
 refine q0 (l_p 2 tK rfl (q1 ?_))
 refine c_splitP 4 _ rfl (fun c4 => c_ifT rfl ?_) (fun c4 => c_ifF rfl ?_)
 ·refine c_skip (x_seq (c_ifT rfl (q0 (l_p 1 tK rfl (q1 (c_ret (x_blkR (x_seqR (x_ret1 rfl rfl ?_)))))))))
  exact ⟨by congr 1; unfold signB; simp_all, rfl⟩
 refine q0 (l_p 2 tK rfl (q1 ?_))
 refine c_splitP 4 _ rfl (fun c5 => c_ifT rfl ?_) (fun c5 => c_ifF rfl ?_)
 ·refine c_skip (x_seq (c_ifT rfl (q0 (l_p 1 tK rfl (q1 (c_ret (x_blkR (x_seqR (x_ret1 rfl rfl ?_)))))))))
  exact ⟨by congr 1; unfold signB; simp_all, rfl⟩
 refine q0 (l_p 2 tK rfl (q1 ?_))
 refine c_splitP 4 _ rfl (fun c6 => c_ifT rfl ?_) (fun c6 => c_ifF rfl ?_)
 ·refine c_skip (x_seq (c_ifT rfl (q0 (l_p 1 tK rfl (q1 (c_ret (x_blkR (x_seqR (x_ret1 rfl rfl ?_)))))))))
  exact ⟨by congr 1; unfold signB; simp_all, rfl⟩
 refine c_reg (l_p 2 tK rfl (q1 ?_))
 refine c_splitP 4 _ rfl (fun c7 => c_ifT rfl ?_) (fun c7 => c_ifF rfl ?_)
 ·refine q0 (l_p 1 tK rfl (q1 (c_ret (x_blkR (x_seqR (x_ret1 rfl rfl ?_))))))
  exact ⟨by congr 1; unfold signB; simp_all, rfl⟩
 refine c_skip (x_blk (x_seq (q0 (l_p 1 tK rfl (q1 (c_ret (x_ret1 rfl rfl ?_)))))))
 exact ⟨by congr 1; unfold signB; simp_all, rfl⟩
theorem arm_spec (op : Int) (b : Bool) (w : World) :
  Calls Try.prog 124 #[.int .u8 op, .bool b] w (Ret fun r w' => r = .bool (armB op b) ∧ w = w') := by
 refine c_enter (n := 14) Try.func124 rfl rfl rfl ?_
 refine q0 (l_p 1 tK rfl (q1 (q0 (l_p 3 tK rfl ?_))))
 refine l_splitP 7 _ rfl (fun c1 => ?_) (fun c1 => ?_)
 ·refine l_p 7 tK rfl (q1 (c_ret (x_ret1 rfl rfl ?_)))
  exact ⟨by congr 1; unfold armB; simp_all, rfl⟩
 refine l_p 3 tK rfl ?_
 refine l_splitP 10 _ rfl (fun c2 => ?_) (fun c2 => ?_)
 ·refine l_p 4 tK rfl (q1 (c_ret (x_ret1 rfl rfl ?_)))
  exact ⟨by congr 1; unfold armB; simp_all, rfl⟩
 refine l_p 4 tK rfl (q1 (c_ret (x_ret1 rfl rfl ?_)))
 exact ⟨by congr 1; unfold armB; simp_all, rfl⟩
theorem number_spec (t : Tm) (M : Nat → Prop) (w : World) (v : Value) (ht : Rep.R M w v t) (hlow : Low M w) :
  Calls Try.prog 120 #[v] w (Ret fun r w' => r = .bool (numberB t.op t.n) ∧ Ext w w') := by
 have hE : Below w.heap.size w w := Below.refl _ _
 have hB : w.heap.size ≤ w.heap.size := Nat.le_refl _
 obtain ⟨akv, kv, rfl, op, nm, ag, n64, ha, hk⟩ := tm_open ht
 refine c_enter (n := 23) Try.func120 rfl rfl rfl ?_
 refine q0 ?_
 refine lC (o_box rfl rfl rfl ?_)
 intro b1 w1 hb_b1 ew1 h1
 replace h1 : Box _ b1 84 [.int .u8 t.op, .string t.name, .string t.arg, .int .i64 t.n, .bool t.has, .int .u8 t.ann.op, .string t.ann.name, .int .i64 t.ann.n, akv, kv] := h1
 replace h1 := h1.at (nM_of hlow hb_b1)
 replace hE := ew1.bl hE hB
 replace ht := Rep.ext ht ew1
 replace ha := Rep.ext ha ew1
 replace hk := hk.ext ew1
 replace hlow := hlow.ext ew1
 replace hB := ew1.z hB
 refine l_p 1 tK rfl (q1 (c_seq (q0 (l_p 1 tK rfl ?_))))
 refine lC (o_ld tK (h1.cell 0 _ rfl) rfl rfl rfl rfl rfl ?_)
 refine q1 (c_blk (q0 (l_p 2 tK rfl (q1 ?_))))
 refine c_ifP _ rfl (fun c1 => ?_) (fun c1 => ?_)
 ·refine q0 (l_p 1 tK rfl ?_)
  refine lC (o_ld tK (h1.cell 3 _ rfl) rfl rfl rfl rfl rfl ?_)
  refine l_p 2 tK rfl (q1 (c_ret (x_blkR (x_seqR (x_ret1 rfl rfl ?_)))))
  exact ⟨by congr 1; unfold numberB; simp_all, hE⟩
 refine q0 (l_p 2 tK rfl (q1 ?_))
 refine c_ifP _ rfl (fun c2 => ?_) (fun c2 => ?_)
 ·refine q0 (l_p 1 tK rfl ?_)
  refine lC (o_ld tK (h1.cell 3 _ rfl) rfl rfl rfl rfl rfl ?_)
  refine l_p 2 tK rfl ?_
  refine l_splitP 15 _ rfl (fun c3 => ?_) (fun c3 => ?_)
  ·refine l_p 5 tK rfl (q1 (c_ret (x_blkR (x_seqR (x_ret1 rfl rfl ?_)))))
   exact ⟨by congr 1; unfold numberB; simp_all, hE⟩
  refine l_p 1 tK rfl ?_
  refine lC (o_ld tK (h1.cell 3 _ rfl) rfl rfl rfl rfl rfl ?_)
  refine l_p 3 tK rfl (q1 (c_ret (x_blkR (x_seqR (x_ret1 rfl rfl ?_)))))
  exact ⟨by congr 1; unfold numberB; simp_all, hE⟩
 refine c_skip (x_blk (x_seq (q0 (l_p 1 tK rfl ?_))))
 refine lC (o_ld tK (h1.cell 3 _ rfl) rfl rfl rfl rfl rfl ?_)
 refine l_p 2 tK rfl (q1 (c_ret (x_ret1 rfl rfl ?_)))
 exact ⟨by congr 1; unfold numberB; simp_all, hE⟩
theorem noted_spec (t : Tm) (a : Int) (M : Nat → Prop) (w : World) (v : Value) (ht : Rep.R M w v t) (hlow : Low M w) (hz : psz t.ann ≤ 2000000) :
  Calls Try.prog 121 #[v, .int .i64 a] w (Ret fun r w' => r = .bool (notedB t.has t.ann a) ∧ Ext w w') := by
 have hE : Below w.heap.size w w := Below.refl _ _
 have hB : w.heap.size ≤ w.heap.size := Nat.le_refl _
 obtain ⟨akv, kv, rfl, op, nm, ag, n64, ha, hk⟩ := tm_open ht
 refine c_enter (n := 26) Try.func121 rfl rfl rfl ?_
 refine q0 ?_
 refine lC (o_box rfl rfl rfl ?_)
 intro b2 w1 hb_b2 ew1 h2
 replace h2 : Box _ b2 84 [.int .u8 t.op, .string t.name, .string t.arg, .int .i64 t.n, .bool t.has, .int .u8 t.ann.op, .string t.ann.name, .int .i64 t.ann.n, akv, kv] := h2
 replace h2 := h2.at (nM_of hlow hb_b2)
 replace hE := ew1.bl hE hB
 replace ht := Rep.ext ht ew1
 replace ha := Rep.ext ha ew1
 replace hk := hk.ext ew1
 replace hlow := hlow.ext ew1
 replace hB := ew1.z hB
 refine l_p 1 tK rfl (q1 (c_seq (q0 (l_p 1 tK rfl ?_))))
 refine lC (o_ld tK (h2.cell 4 _ rfl) rfl rfl rfl rfl rfl ?_)
 refine q1 ?_
 refine c_if _ rfl (fun c1 => ?_) (fun c1 => ?_)
 ·refine q0 (l_p 3 tK rfl ?_)
  refine l_splitP 9 _ rfl (fun c2 => ?_) (fun c2 => ?_)
  ·refine l_p 1 tK rfl ?_
   refine lC (o_lds tK (fun j v hv => (h2).mid 5 (sub := [.int .u8 t.ann.op, .string t.ann.name, .int .i64 t.ann.n, akv]) rfl j v hv) rfl rfl rfl rfl rfl rfl ?_)
   refine lC (o_call fo78 rfl rfl rfl (kRight_specB _ _ _ _ ha hlow) ?_)
   rintro _ w2 ⟨rfl, ew2⟩
   replace hE := ew2.bl hE hB
   replace ht := Rep.ext ht ew2
   replace ha := Rep.ext ha ew2
   replace hk := hk.ext ew2
   replace h2 := h2.ext ew2
   replace hlow := hlow.ext ew2
   replace hB := ew2.z hB
   refine l_p 2 tK rfl ?_
   refine l_split 14 _ rfl (fun c3 => ?_) (fun c3 => ?_)
   ·refine l_p 1 tK rfl ?_
    refine lC (o_lds tK (fun j v hv => (h2).mid 5 (sub := [.int .u8 t.ann.op, .string t.ann.name, .int .i64 t.ann.n, akv]) rfl j v hv) rfl rfl rfl rfl rfl rfl ?_)
    refine lC (o_call fo132 rfl rfl rfl (kClosed_spec _ _ _ _ ha hlow hz) ?_)
    rintro _ w3 ⟨rfl, ew3⟩
    replace hE := ew3.bl hE hB
    replace ht := Rep.ext ht ew3
    replace ha := Rep.ext ha ew3
    replace hk := hk.ext ew3
    replace h2 := h2.ext ew3
    replace hlow := hlow.ext ew3
    replace hB := ew3.z hB
    refine l_p 2 tK rfl (q1 (c_ret (x_seqR (x_ret1 rfl rfl ?_))))
    exact ⟨by congr 1; unfold notedB; simp_all <;> intros <;> omega, hE⟩
   refine l_p 5 tK rfl (q1 (c_ret (x_seqR (x_ret1 rfl rfl ?_))))
   exact ⟨by congr 1; unfold notedB; simp_all <;> intros <;> omega, hE⟩
  refine l_p 10 tK rfl (q1 (c_ret (x_seqR (x_ret1 rfl rfl ?_))))
  exact ⟨by congr 1; unfold notedB; simp_all <;> intros <;> omega, hE⟩
 refine c_skip (x_seq (q0 (l_p 3 tK rfl ?_)))
 refine l_splitP 21 _ rfl (fun c4 => ?_) (fun c4 => ?_)
 ·refine l_p 1 tK rfl ?_
  refine lC (o_lds tK (fun j v hv => (h2).mid 5 (sub := [.int .u8 t.ann.op, .string t.ann.name, .int .i64 t.ann.n, akv]) rfl j v hv) rfl rfl rfl rfl rfl rfl ?_)
  refine lC (o_call fo133 rfl rfl rfl (blank_spec _ _ _ _ ha hlow) ?_)
  rintro _ w4 ⟨rfl, ew4⟩
  replace hE := ew4.bl hE hB
  replace ht := Rep.ext ht ew4
  replace ha := Rep.ext ha ew4
  replace hk := hk.ext ew4
  replace h2 := h2.ext ew4
  replace hlow := hlow.ext ew4
  replace hB := ew4.z hB
  refine l_p 2 tK rfl (q1 (c_ret (x_ret1 rfl rfl ?_)))
  exact ⟨by congr 1; unfold notedB; simp_all <;> intros <;> omega, hE⟩
 refine l_p 5 tK rfl (q1 (c_ret (x_ret1 rfl rfl ?_)))
 exact ⟨by congr 1; unfold notedB; simp_all <;> intros <;> omega, hE⟩
theorem tright_spec : ∀ (t : Tm) (arms : Bool) (M : Nat → Prop) (w : World) (v : Value), Rep.R M w v t → Low M w → AnnS t → Calls Try.prog 106 #[v, .bool arms] w (Ret fun r w' => r = .bool (rightT t arms) ∧ Ext w w') := by
 refine Tm.ind fun t ih => ?_
 intro arms M w v ht hlow hz
 have hE : Below w.heap.size w w := Below.refl _ _
 have hB : w.heap.size ≤ w.heap.size := Nat.le_refl _
 obtain ⟨akv, kv, rfl, op, nm, ag, n64, ha, hk⟩ := tm_open ht
 have hlt := hk.lt
 refine c_enter (n := 120) Try.func106 rfl rfl rfl ?_
 refine q0 ?_
 refine lC (o_box rfl rfl rfl ?_)
 intro b2 w1 hb_b2 ew1 h2
 replace h2 : Box _ b2 84 [.int .u8 t.op, .string t.name, .string t.arg, .int .i64 t.n, .bool t.has, .int .u8 t.ann.op, .string t.ann.name, .int .i64 t.ann.n, akv, kv] := h2
 replace h2 := h2.at (nM_of hlow hb_b2)
 replace hE := ew1.bl hE hB
 replace ht := Rep.ext ht ew1
 replace ha := Rep.ext ha ew1
 replace hk := hk.ext ew1
 replace hlow := hlow.ext ew1
 replace hB := ew1.z hB
 refine l_p 1 tK rfl (q1 (q0 (l_p 1 tK rfl ?_)))
 refine lC (o_ld tK (h2.cell 0 _ rfl) rfl rfl rfl rfl rfl ?_)
 refine lC (o_call fo119 rfl rfl rfl (shaped_spec t.op M _ hlow) ?_)
 rintro _ w2 ⟨rfl, ew2⟩
 replace hE := ew2.bl hE hB
 replace ht := Rep.ext ht ew2
 replace ha := Rep.ext ha ew2
 replace hk := hk.ext ew2
 replace h2 := h2.ext ew2
 replace hlow := hlow.ext ew2
 replace hB := ew2.z hB
 refine l_p 3 tK rfl ?_
 refine lC (o_new tK rfl rfl rfl ?_)
 intro b5 w3 qb5 ew3 hb5
 have nb5 := nM_of hlow qb5
 refine lC (o_st tK hb5 rfl rfl rfl rfl (by simp [Value.cells, Value.oneCell']) rfl rfl ?_)
 intro w4 h5 uw4 bew4
 have ew4 : Ext w2 w4 := ew3.trans (bew4 _ (Nat.le_of_eq qb5.symm))
 replace hE := ew4.bl hE hB
 replace ht := Rep.ext ht ew4
 replace ha := Rep.ext ha ew4
 replace hk := hk.ext ew4
 replace h2 := h2.ext ew4
 replace hlow := hlow.ext ew4
 replace hB := ew4.z hB
 replace h5 : Box _ b5 184 [.bool (shp t.op).1, .bool (shp t.op).2.1, .int .i64 (shp t.op).2.2.1, .int .i64 (shp t.op).2.2.2.1] := h5
 replace h5 := h5.at nb5
 refine l_p 1 tK rfl (q1 ?_)
 refine c_cut (X := Nat) (fun b5 => [(1, .bool arms), (2, .pointer (some ⟨b2, 0, none⟩)), (5, .pointer (some ⟨b5, 0, none⟩))]) (fun b5 w' => ((shp t.op).2.2.2.2 = true ∧ (arms == armsB t.op) = true ∧ numberB t.op t.n = true ∧ notedB t.has t.ann (shp t.op).2.2.2.1 = true ∧ namedB t.arg (shp t.op).2.1 = true) ∧ At M w' b2 0 [.int .u8 t.op, .string t.name, .string t.arg, .int .i64 t.n, .bool t.has, .int .u8 t.ann.op, .string t.ann.name, .int .i64 t.ann.n, akv, kv] ∧ At M w' b5 0 [.bool (shp t.op).1, .bool (shp t.op).2.1, .int .i64 (shp t.op).2.2.1, .int .i64 (shp t.op).2.2.2.1] ∧ Sl M w' kv t.kids ∧ Low M w' ∧ Below w.heap.size w w' ∧ w.heap.size ≤ w'.heap.size) ?_ ?_
 ·refine q0 (l_p 3 tK rfl ?_)
  refine l_splitB 18 _ rfl (fun c1 => ?_) (fun c1 => ?_)
  ·refine l_p 31 tK rfl (q1 (c_ifT rfl (q0 (l_p 1 tK rfl (q1 (c_ret (x_seqR (x_ret1 rfl rfl ?_))))))))
   exact ⟨by rw [rightT_eq]; clear ih; unfold headT armsB; simp_all <;> intros <;> omega, hE⟩
  refine l_p 2 tK rfl ?_
  refine lC (o_ld tK (h2.cell 0 _ rfl) rfl rfl rfl rfl rfl ?_)
  refine l_p 2 tK rfl ?_
  refine l_splitP 23 _ rfl (fun c2 => ?_) (fun c2 => ?_)
  ·refine l_p 4 tK rfl ?_
   refine lC (o_bne tK rfl rfl rfl rfl rfl rfl ?_)
   refine l_p 2 tK rfl ?_
   refine l_split 30 _ rfl (fun c3 => ?_) (fun c3 => ?_)
   ·refine l_p 19 tK rfl (q1 (c_ifT rfl (q0 (l_p 1 tK rfl (q1 (c_ret (x_seqR (x_ret1 rfl rfl ?_))))))))
    exact ⟨by rw [rightT_eq]; clear ih; unfold headT armsB; simp_all <;> intros <;> omega, hE⟩
   refine lC (o_lds tK (fun j v hv => h2.cell j v hv) rfl rfl rfl rfl rfl rfl ?_)
   refine lC (o_call fo120 rfl rfl rfl (number_spec _ _ _ _ ht hlow) ?_)
   rintro _ w5 ⟨rfl, ew5⟩
   replace hE := ew5.bl hE hB
   replace ht := Rep.ext ht ew5
   replace ha := Rep.ext ha ew5
   replace hk := hk.ext ew5
   replace h2 := h2.ext ew5
   replace h5 := h5.ext ew5
   replace hlow := hlow.ext ew5
   replace hB := ew5.z hB
   refine l_p 3 tK rfl ?_
   refine l_splitB 35 _ rfl (fun c4 => ?_) (fun c4 => ?_)
   ·refine l_p 14 tK rfl (q1 (c_ifT rfl (q0 (l_p 1 tK rfl (q1 (c_ret (x_seqR (x_ret1 rfl rfl ?_))))))))
    exact ⟨by rw [rightT_eq]; clear ih; unfold headT armsB; simp_all <;> intros <;> omega, hE⟩
   refine lC (o_lds tK (fun j v hv => h2.cell j v hv) rfl rfl rfl rfl rfl rfl ?_)
   refine l_p 1 tK rfl ?_
   refine lC (o_ld tK (h5.cell 3 _ rfl) rfl rfl rfl rfl rfl ?_)
   refine lC (o_call fo121 rfl rfl rfl (noted_spec _ _ _ _ _ ht hlow hz.self) ?_)
   rintro _ w6 ⟨rfl, ew6⟩
   replace hE := ew6.bl hE hB
   replace ht := Rep.ext ht ew6
   replace ha := Rep.ext ha ew6
   replace hk := hk.ext ew6
   replace h2 := h2.ext ew6
   replace h5 := h5.ext ew6
   replace hlow := hlow.ext ew6
   replace hB := ew6.z hB
   refine l_p 3 tK rfl ?_
   refine l_splitB 42 _ rfl (fun c5 => ?_) (fun c5 => ?_)
   ·refine l_p 7 tK rfl (q1 (c_ifT rfl (q0 (l_p 1 tK rfl (q1 (c_ret (x_seqR (x_ret1 rfl rfl ?_))))))))
    exact ⟨by rw [rightT_eq]; clear ih; unfold headT armsB; simp_all <;> intros <;> omega, hE⟩
   refine l_p 1 tK rfl ?_
   refine lC (o_ld tK (h2.cell 2 _ rfl) rfl rfl rfl rfl rfl ?_)
   refine l_p 1 tK rfl ?_
   refine lC (o_ld tK (h5.cell 1 _ rfl) rfl rfl rfl rfl rfl ?_)
   refine lC (o_call fo122 rfl rfl rfl (named_spec _ _ _ (by first | exact nm | exact ag)) ?_)
   rintro _ w7 ⟨rfl, ew7⟩
   replace hE := ew7.bl hE hB
   replace ht := Rep.ext ht ew7
   replace ha := Rep.ext ha ew7
   replace hk := hk.ext ew7
   replace h2 := h2.ext ew7
   replace h5 := h5.ext ew7
   replace hlow := hlow.ext ew7
   replace hB := ew7.z hB
   refine l_p 2 tK rfl (q1 ?_)
   refine c_ifB _ rfl (fun c6 => ?_) (fun c6 => ?_)
   ·refine q0 (l_p 1 tK rfl (q1 (c_ret (x_seqR (x_ret1 rfl rfl ?_)))))
    exact ⟨by rw [rightT_eq]; clear ih; unfold headT armsB; simp_all <;> intros <;> omega, hE⟩
   refine c_skip ?_
   exact x_cut (b5) (s3 rfl rfl rfl) ⟨by clear ih; simp_all [armsB], h2, h5, hk, hlow, hE, hB⟩
  refine l_p 1 tK rfl ?_
  refine lC (o_ld tK (h2.cell 0 _ rfl) rfl rfl rfl rfl rfl ?_)
  refine l_p 2 tK rfl ?_
  refine lC (o_bne tK rfl rfl rfl rfl rfl rfl ?_)
  refine l_p 2 tK rfl ?_
  refine l_split 30 _ rfl (fun c7 => ?_) (fun c7 => ?_)
  ·refine l_p 19 tK rfl (q1 (c_ifT rfl (q0 (l_p 1 tK rfl (q1 (c_ret (x_seqR (x_ret1 rfl rfl ?_))))))))
   exact ⟨by rw [rightT_eq]; clear ih; unfold headT armsB; simp_all <;> intros <;> omega, hE⟩
  refine lC (o_lds tK (fun j v hv => h2.cell j v hv) rfl rfl rfl rfl rfl rfl ?_)
  refine lC (o_call fo120 rfl rfl rfl (number_spec _ _ _ _ ht hlow) ?_)
  rintro _ w8 ⟨rfl, ew8⟩
  replace hE := ew8.bl hE hB
  replace ht := Rep.ext ht ew8
  replace ha := Rep.ext ha ew8
  replace hk := hk.ext ew8
  replace h2 := h2.ext ew8
  replace h5 := h5.ext ew8
  replace hlow := hlow.ext ew8
  replace hB := ew8.z hB
  refine l_p 3 tK rfl ?_
  refine l_splitB 35 _ rfl (fun c8 => ?_) (fun c8 => ?_)
  ·refine l_p 14 tK rfl (q1 (c_ifT rfl (q0 (l_p 1 tK rfl (q1 (c_ret (x_seqR (x_ret1 rfl rfl ?_))))))))
   exact ⟨by rw [rightT_eq]; clear ih; unfold headT armsB; simp_all <;> intros <;> omega, hE⟩
  refine lC (o_lds tK (fun j v hv => h2.cell j v hv) rfl rfl rfl rfl rfl rfl ?_)
  refine l_p 1 tK rfl ?_
  refine lC (o_ld tK (h5.cell 3 _ rfl) rfl rfl rfl rfl rfl ?_)
  refine lC (o_call fo121 rfl rfl rfl (noted_spec _ _ _ _ _ ht hlow hz.self) ?_)
  rintro _ w9 ⟨rfl, ew9⟩
  replace hE := ew9.bl hE hB
  replace ht := Rep.ext ht ew9
  replace ha := Rep.ext ha ew9
  replace hk := hk.ext ew9
  replace h2 := h2.ext ew9
  replace h5 := h5.ext ew9
  replace hlow := hlow.ext ew9
  replace hB := ew9.z hB
  refine l_p 3 tK rfl ?_
  refine l_splitB 42 _ rfl (fun c9 => ?_) (fun c9 => ?_)
  ·refine l_p 7 tK rfl (q1 (c_ifT rfl (q0 (l_p 1 tK rfl (q1 (c_ret (x_seqR (x_ret1 rfl rfl ?_))))))))
   exact ⟨by rw [rightT_eq]; clear ih; unfold headT armsB; simp_all <;> intros <;> omega, hE⟩
  refine l_p 1 tK rfl ?_
  refine lC (o_ld tK (h2.cell 2 _ rfl) rfl rfl rfl rfl rfl ?_)
  refine l_p 1 tK rfl ?_
  refine lC (o_ld tK (h5.cell 1 _ rfl) rfl rfl rfl rfl rfl ?_)
  refine lC (o_call fo122 rfl rfl rfl (named_spec _ _ _ (by first | exact nm | exact ag)) ?_)
  rintro _ w10 ⟨rfl, ew10⟩
  replace hE := ew10.bl hE hB
  replace ht := Rep.ext ht ew10
  replace ha := Rep.ext ha ew10
  replace hk := hk.ext ew10
  replace h2 := h2.ext ew10
  replace h5 := h5.ext ew10
  replace hlow := hlow.ext ew10
  replace hB := ew10.z hB
  refine l_p 2 tK rfl (q1 ?_)
  refine c_ifB _ rfl (fun c10 => ?_) (fun c10 => ?_)
  ·refine q0 (l_p 1 tK rfl (q1 (c_ret (x_seqR (x_ret1 rfl rfl ?_)))))
   exact ⟨by rw [rightT_eq]; clear ih; unfold headT armsB; simp_all <;> intros <;> omega, hE⟩
  refine c_skip ?_
  exact x_cut (b5) (s3 rfl rfl rfl) ⟨by clear ih; simp_all [armsB], h2, h5, hk, hlow, hE, hB⟩
 clear ht ha h2 hk hlow hE hB
 rintro b5 w40 ⟨⟨H1, H2, H3, H4, H5⟩, h2, h5, hk, hlow, hE, hB⟩
 refine c_cut (X := Nat) (fun b5 => [(1, .bool arms), (2, .pointer (some ⟨b2, 0, none⟩)), (5, .pointer (some ⟨b5, 0, none⟩))]) (fun b5 w' => ((shp t.op).2.2.2.2 = true ∧ (arms == armsB t.op) = true ∧ numberB t.op t.n = true ∧ notedB t.has t.ann (shp t.op).2.2.2.1 = true ∧ namedB t.arg (shp t.op).2.1 = true ∧ (bif decide (t.op = 40) then signB t.name else namedB t.name (shp t.op).1) = true) ∧ At M w' b2 0 [.int .u8 t.op, .string t.name, .string t.arg, .int .i64 t.n, .bool t.has, .int .u8 t.ann.op, .string t.ann.name, .int .i64 t.ann.n, akv, kv] ∧ At M w' b5 0 [.bool (shp t.op).1, .bool (shp t.op).2.1, .int .i64 (shp t.op).2.2.1, .int .i64 (shp t.op).2.2.2.1] ∧ Sl M w' kv t.kids ∧ Low M w' ∧ Below w.heap.size w w' ∧ w.heap.size ≤ w'.heap.size) ?_ ?_
 ·refine q0 (l_p 1 tK rfl ?_)
  refine lC (o_ld tK (h2.cell 0 _ rfl) rfl rfl rfl rfl rfl ?_)
  refine l_p 1 tK rfl (q1 ?_)
  refine c_ifP _ rfl (fun c11 => ?_) (fun c11 => ?_)
  ·refine q0 (l_p 1 tK rfl ?_)
   refine lC (o_ld tK (h2.cell 1 _ rfl) rfl rfl rfl rfl rfl ?_)
   refine lC (o_call fo123 rfl rfl rfl (sign_spec _ _) ?_)
   rintro _ _ ⟨rfl, rfl⟩
   refine l_p 1 tK rfl (q1 ?_)
   refine c_ifB _ rfl (fun c12 => ?_) (fun c12 => ?_)
   ·refine q0 (l_p 1 tK rfl (q1 (c_ret (x_seqR (x_ret1 rfl rfl ?_)))))
    exact ⟨by rw [rightT_eq]; clear ih; unfold headT armsB; simp_all <;> intros <;> omega, hE⟩
   refine c_skip ?_
   exact x_cut (b5) (s3 rfl rfl rfl) ⟨by clear ih; simp_all, h2, h5, hk, hlow, hE, hB⟩
  refine q0 (l_p 1 tK rfl ?_)
  refine lC (o_ld tK (h2.cell 1 _ rfl) rfl rfl rfl rfl rfl ?_)
  refine l_p 1 tK rfl ?_
  refine lC (o_ld tK (h5.cell 0 _ rfl) rfl rfl rfl rfl rfl ?_)
  refine lC (o_call fo122 rfl rfl rfl (named_spec _ _ _ (by first | exact nm | exact ag)) ?_)
  rintro _ w11 ⟨rfl, ew11⟩
  replace hE := ew11.bl hE hB
  replace h2 := h2.ext ew11
  replace h5 := h5.ext ew11
  replace hk := hk.ext ew11
  replace hlow := hlow.ext ew11
  replace hB := ew11.z hB
  refine l_p 1 tK rfl (q1 ?_)
  refine c_ifB _ rfl (fun c13 => ?_) (fun c13 => ?_)
  ·refine q0 (l_p 1 tK rfl (q1 (c_ret (x_seqR (x_ret1 rfl rfl ?_)))))
   exact ⟨by rw [rightT_eq]; clear ih; unfold headT armsB; simp_all <;> intros <;> omega, hE⟩
  refine c_skip ?_
  exact x_cut (b5) (s3 rfl rfl rfl) ⟨by clear ih; simp_all, h2, h5, hk, hlow, hE, hB⟩
 clear h2 h5 hk hlow hE hB
 rintro b5 w90 ⟨⟨H1, H2, H3, H4, H5, H6⟩, h2, h5, hk, hlow, hE, hB⟩
 refine c_cut (X := Nat) (fun b5 => [(1, .bool arms), (2, .pointer (some ⟨b2, 0, none⟩)), (5, .pointer (some ⟨b5, 0, none⟩))]) (fun b5 w' => headT t arms = true ∧ At M w' b2 0 [.int .u8 t.op, .string t.name, .string t.arg, .int .i64 t.n, .bool t.has, .int .u8 t.ann.op, .string t.ann.name, .int .i64 t.ann.n, akv, kv] ∧ At M w' b5 0 [.bool (shp t.op).1, .bool (shp t.op).2.1, .int .i64 (shp t.op).2.2.1, .int .i64 (shp t.op).2.2.2.1] ∧ Sl M w' kv t.kids ∧ Low M w' ∧ Below w.heap.size w w' ∧ w.heap.size ≤ w'.heap.size) ?_ ?_
 ·refine q0 (l_p 1 tK rfl ?_)
  refine lC (o_ld tK (h5.cell 2 _ rfl) rfl rfl rfl rfl rfl ?_)
  refine l_p 2 tK rfl ?_
  refine l_splitP 66 _ rfl (fun c14 => ?_) (fun c14 => ?_)
  ·refine l_p 1 tK rfl ?_
   refine lC (o_ld tK (h2.cell 9 _ rfl) rfl rfl rfl rfl rfl ?_)
   refine lC (o_len tK hk rfl rfl rfl rfl rfl ?_)
   refine l_p 1 tK rfl ?_
   refine lC (o_ld tK (h5.cell 2 _ rfl) rfl rfl rfl rfl rfl ?_)
   refine l_p 3 tK rfl ?_
   refine l_splitN 74 _ rfl (fun c15 => ?_) (fun c15 => ?_)
   ·refine l_p 10 tK rfl (q1 (c_ifT rfl (q0 (l_p 1 tK rfl (q1 (c_ret (x_seqR (x_ret1 rfl rfl ?_))))))))
    exact ⟨by rw [rightT_eq]; clear ih; unfold headT armsB; simp_all <;> intros <;> omega, hE⟩
   refine l_p 1 tK rfl ?_
   refine lC (o_ld tK (h5.cell 2 _ rfl) rfl rfl rfl rfl rfl ?_)
   refine l_p 2 tK rfl ?_
   refine l_splitP 78 _ rfl (fun c16 => ?_) (fun c16 => ?_)
   ·refine l_p 1 tK rfl ?_
    refine lC (o_ld tK (h2.cell 9 _ rfl) rfl rfl rfl rfl rfl ?_)
    refine lC (o_len tK hk rfl rfl rfl rfl rfl ?_)
    refine l_p 3 tK rfl (q1 ?_)
    refine c_ifP _ rfl (fun c17 => ?_) (fun c17 => ?_)
    ·refine q0 (l_p 1 tK rfl (q1 (c_ret (x_seqR (x_ret1 rfl rfl ?_)))))
     exact ⟨by rw [rightT_eq]; clear ih; unfold headT armsB; simp_all <;> intros <;> omega, hE⟩
    refine c_skip ?_
    exact x_cut (b5) (s3 rfl rfl rfl) ⟨by clear ih; simp_all [headT], h2, h5, hk, hlow, hE, hB⟩
   refine l_p 6 tK rfl (q1 (c_ifF rfl (c_skip ?_)))
   exact x_cut (b5) (s3 rfl rfl rfl) ⟨by clear ih; simp_all [headT], h2, h5, hk, hlow, hE, hB⟩
  refine l_p 9 tK rfl ?_
  refine lC (o_ld tK (h5.cell 2 _ rfl) rfl rfl rfl rfl rfl ?_)
  refine l_p 2 tK rfl ?_
  refine l_splitP 78 _ rfl (fun c18 => ?_) (fun c18 => ?_)
  ·refine l_p 1 tK rfl ?_
   refine lC (o_ld tK (h2.cell 9 _ rfl) rfl rfl rfl rfl rfl ?_)
   refine lC (o_len tK hk rfl rfl rfl rfl rfl ?_)
   refine l_p 3 tK rfl (q1 ?_)
   refine c_ifP _ rfl (fun c19 => ?_) (fun c19 => ?_)
   ·refine q0 (l_p 1 tK rfl (q1 (c_ret (x_seqR (x_ret1 rfl rfl ?_)))))
    exact ⟨by rw [rightT_eq]; clear ih; unfold headT armsB; simp_all <;> intros <;> omega, hE⟩
   refine c_skip ?_
   exact x_cut (b5) (s3 rfl rfl rfl) ⟨by clear ih; simp_all [headT], h2, h5, hk, hlow, hE, hB⟩
  refine l_p 6 tK rfl (q1 (c_ifF rfl (c_skip ?_)))
  exact x_cut (b5) (s3 rfl rfl rfl) ⟨by clear ih; simp_all [headT], h2, h5, hk, hlow, hE, hB⟩
 clear h2 h5 hk hlow hE hB
 rintro b5 w110 ⟨HH, h2, h5, hk, hlow, hE, hB⟩
 refine c_seq (q0 (l_p 1 tK rfl ?_))
 refine lC (o_ld tK (h2.cell 9 _ rfl) rfl rfl rfl rfl rfl ?_)
 refine lC (o_len tK hk rfl rfl rfl rfl rfl ?_)
 refine l_p 1 tK rfl (q1 (c_blk ?_))
 refine c_loop (X := Nat) (fun i => [(1, .bool arms), (2, .pointer (some ⟨b2, 0, none⟩)), (86, kv), (87, .int .i64 (t.kids.length : Int)), (88, .int .i64 (i : Nat))]) (fun i w' => i ≤ t.kids.length ∧ rightT t arms = kidsT t.op i (kidL (t.kids.drop i)) ∧ At M w' b2 0 [.int .u8 t.op, .string t.name, .string t.arg, .int .i64 t.n, .bool t.has, .int .u8 t.ann.op, .string t.ann.name, .int .i64 t.ann.n, akv, kv] ∧ Sl M w' kv t.kids ∧ Low M w' ∧ Below w.heap.size w w' ∧ w.heap.size ≤ w'.heap.size) (fun i => t.kids.length - i) (0) (s5 rfl rfl rfl rfl rfl) ?_ ?_
 ·exact ⟨Nat.zero_le _, by rw [rightT_eq, HH]; rfl, h2, hk, hlow, hE, hB⟩
 rintro i w12 ⟨hi, hinv, h2, hk, hlow, hE, hB⟩
 refine q0 (l_p 1 tK rfl (q1 (c_seq ?_)))
 refine c_ifP _ rfl (fun c20 => ?_) (fun c20 => ?_)
 ·refine c_skip (x_seq (c_seq (c_blk (q0 (l_p 1 tK rfl ?_)))))
  have hik : i < t.kids.length := by omega
  have hlast : decide ((i : Int) = (t.kids.length : Int) - 1) = decide (i + 1 = t.kids.length) := by rw [decide_eq_decide]; omega
  refine lC (o_ixS tK hk (List.getElem?_eq_getElem hik) rfl rfl rfl rfl rfl rfl rfl rfl rfl ?_)
  intro ebx eox eux hyx hatx
  obtain ⟨akvx, kvx, rfl, opx, nmx, agx, n64x, hax, hkx⟩ := tm_open hyx
  replace hatx : At M w12 ebx eox [.int .u8 t.kids[i].op, .string t.kids[i].name, .string t.kids[i].arg, .int .i64 t.kids[i].n, .bool t.kids[i].has, .int .u8 t.kids[i].ann.op, .string t.kids[i].ann.name, .int .i64 t.kids[i].ann.n, akvx, kvx] := hatx
  refine lC (o_lds tK (fun j v hv => hatx.cell j v hv) rfl rfl rfl rfl rfl rfl ?_)
  refine lC (o_new tK rfl rfl rfl ?_)
  intro b8 w13 qb8 ew13 hb8
  have nb8 := nM_of hlow qb8
  refine l_p 1 tK rfl ?_
  refine lC (o_st tK hb8 rfl rfl rfl rfl (Rep.one hyx) rfl rfl ?_)
  intro w14 h8 uw14 bew14
  have ew14 : Ext w12 w14 := ew13.trans (bew14 _ (Nat.le_of_eq qb8.symm))
  replace hE := ew14.bl hE hB
  replace h2 := h2.ext ew14
  replace hk := hk.ext ew14
  replace hyx := Rep.ext hyx ew14
  replace hax := Rep.ext hax ew14
  replace hkx := hkx.ext ew14
  replace hatx := hatx.ext ew14
  replace hlow := hlow.ext ew14
  replace hB := ew14.z hB
  replace h8 : Box w14 b8 84 [.int .u8 t.kids[i].op, .string t.kids[i].name, .string t.kids[i].arg, .int .i64 t.kids[i].n, .bool t.kids[i].has, .int .u8 t.kids[i].ann.op, .string t.kids[i].ann.name, .int .i64 t.kids[i].ann.n, akvx, kvx] := h8
  replace h8 := h8.at nb8
  refine q1 (q0 (l_p 1 tK rfl ?_))
  refine lC (o_ld tK (h2.cell 0 _ rfl) rfl rfl rfl rfl rfl ?_)
  refine l_p 2 tK rfl ?_
  refine l_splitP 96 _ rfl (fun c21 => ?_) (fun c21 => ?_)
  ·refine l_p 4 tK rfl (q1 (q0 (l_p 2 tK rfl ?_)))
   refine l_splitP 101 _ rfl (fun c22 => ?_) (fun c22 => ?_)
   ·refine l_p 1 tK rfl ?_
    refine lC (o_ld tK (h8.cell 0 _ rfl) rfl rfl rfl rfl rfl ?_)
    refine l_p 2 tK rfl ?_
    refine lC (o_ld tK (h2.cell 9 _ rfl) rfl rfl rfl rfl rfl ?_)
    refine lC (o_len tK hk rfl rfl rfl rfl rfl ?_)
    refine lC (o_ai rfl rfl rfl (by omega) rfl rfl ?_)
    refine l_p 1 tK rfl ?_
    refine lC (o_call fo124 rfl rfl rfl (arm_spec _ _ _) ?_)
    rintro _ _ ⟨rfl, rfl⟩
    rw [hlast]
    refine l_p 3 tK rfl ?_
    refine l_splitB 113 _ rfl (fun c23 => ?_) (fun c23 => ?_)
    ·refine l_p 5 tK rfl (q1 (c_ifT rfl (q0 (l_p 1 tK rfl (q1 (c_ret (x_blkR (x_seqR (x_seqR (x_blkR (x_seqR (x_ret1 rfl rfl ?_))))))))))))
     exact ⟨by rw [hinv, kidsT_step hik]; clear ih; unfold innerB; simp_all, hE⟩
    refine lC (o_lds tK (fun j v hv => h8.cell j v hv) rfl rfl rfl rfl rfl rfl ?_)
    refine l_p 1 tK rfl ?_
    refine lC (o_call fo106 rfl rfl rfl (ih _ (List.getElem_mem hik) _ M _ _ hyx hlow (hz.kid (List.getElem_mem hik))) ?_)
    rintro _ w15 ⟨rfl, ew15⟩
    replace hE := ew15.bl hE hB
    replace h2 := h2.ext ew15
    replace hk := hk.ext ew15
    replace hyx := Rep.ext hyx ew15
    replace hax := Rep.ext hax ew15
    replace hkx := hkx.ext ew15
    replace hatx := hatx.ext ew15
    replace h8 := h8.ext ew15
    replace hlow := hlow.ext ew15
    replace hB := ew15.z hB
    refine l_p 2 tK rfl (q1 ?_)
    refine c_ifB _ rfl (fun c24 => ?_) (fun c24 => ?_)
    ·refine q0 (l_p 1 tK rfl (q1 (c_ret (x_blkR (x_seqR (x_seqR (x_blkR (x_seqR (x_ret1 rfl rfl ?_)))))))))
     exact ⟨by rw [hinv, kidsT_step hik]; clear ih; unfold innerB; simp_all, hE⟩
    refine c_skip (x_blk (x_seq (c_reg ?_)))
    refine lC (o_ai rfl rfl rfl (by omega) rfl rfl ?_)
    refine l_p 1 tK rfl (l_nil ?_)
    exact x_round (i + 1) (s5 rfl rfl rfl rfl (get_num rfl (by omega))) ⟨by omega, by rw [hinv, kidsT_step hik]; clear ih; unfold innerB; simp_all, h2, hk, hlow, hE, hB⟩ (by omega)
   refine l_p 12 tK rfl ?_
   refine lC (o_lds tK (fun j v hv => h8.cell j v hv) rfl rfl rfl rfl rfl rfl ?_)
   refine l_p 1 tK rfl ?_
   refine lC (o_call fo106 rfl rfl rfl (ih _ (List.getElem_mem hik) _ M _ _ hyx hlow (hz.kid (List.getElem_mem hik))) ?_)
   rintro _ w16 ⟨rfl, ew16⟩
   replace hE := ew16.bl hE hB
   replace h2 := h2.ext ew16
   replace hk := hk.ext ew16
   replace hyx := Rep.ext hyx ew16
   replace hax := Rep.ext hax ew16
   replace hkx := hkx.ext ew16
   replace hatx := hatx.ext ew16
   replace h8 := h8.ext ew16
   replace hlow := hlow.ext ew16
   replace hB := ew16.z hB
   refine l_p 2 tK rfl (q1 ?_)
   refine c_ifB _ rfl (fun c25 => ?_) (fun c25 => ?_)
   ·refine q0 (l_p 1 tK rfl (q1 (c_ret (x_blkR (x_seqR (x_seqR (x_blkR (x_seqR (x_ret1 rfl rfl ?_)))))))))
    exact ⟨by rw [hinv, kidsT_step hik]; clear ih; unfold innerB; simp_all, hE⟩
   refine c_skip (x_blk (x_seq (c_reg ?_)))
   refine lC (o_ai rfl rfl rfl (by omega) rfl rfl ?_)
   refine l_p 1 tK rfl (l_nil ?_)
   exact x_round (i + 1) (s5 rfl rfl rfl rfl (get_num rfl (by omega))) ⟨by omega, by rw [hinv, kidsT_step hik]; clear ih; unfold innerB; simp_all, h2, hk, hlow, hE, hB⟩ (by omega)
  refine l_p 4 tK rfl (q1 (q0 (l_p 14 tK rfl ?_)))
  refine lC (o_lds tK (fun j v hv => h8.cell j v hv) rfl rfl rfl rfl rfl rfl ?_)
  refine l_p 1 tK rfl ?_
  refine lC (o_call fo106 rfl rfl rfl (ih _ (List.getElem_mem hik) _ M _ _ hyx hlow (hz.kid (List.getElem_mem hik))) ?_)
  rintro _ w17 ⟨rfl, ew17⟩
  replace hE := ew17.bl hE hB
  replace h2 := h2.ext ew17
  replace hk := hk.ext ew17
  replace hyx := Rep.ext hyx ew17
  replace hax := Rep.ext hax ew17
  replace hkx := hkx.ext ew17
  replace hatx := hatx.ext ew17
  replace h8 := h8.ext ew17
  replace hlow := hlow.ext ew17
  replace hB := ew17.z hB
  refine l_p 2 tK rfl (q1 ?_)
  refine c_ifB _ rfl (fun c26 => ?_) (fun c26 => ?_)
  ·refine q0 (l_p 1 tK rfl (q1 (c_ret (x_blkR (x_seqR (x_seqR (x_blkR (x_seqR (x_ret1 rfl rfl ?_)))))))))
   exact ⟨by rw [hinv, kidsT_step hik]; clear ih; unfold innerB; simp_all, hE⟩
  refine c_skip (x_blk (x_seq (c_reg ?_)))
  refine lC (o_ai rfl rfl rfl (by omega) rfl rfl ?_)
  refine l_p 1 tK rfl (l_nil ?_)
  exact x_round (i + 1) (s5 rfl rfl rfl rfl (get_num rfl (by omega))) ⟨by omega, by rw [hinv, kidsT_step hik]; clear ih; unfold innerB; simp_all, h2, hk, hlow, hE, hB⟩ (by omega)
 refine c_exit (x_seqE (x_seqE (x_blkE (x_seq (q0 (l_p 1 tK rfl (q1 (c_ret (x_ret1 rfl rfl ?_)))))))))
 exact ⟨by rw [hinv, kidsT_end (by omega)], hE⟩
theorem tRight_spec (t : Tm) (M : Nat → Prop) (w : World) (v : Value) (ht : Rep.R M w v t) (hlow : Low M w) (hz : AnnS t) :
  Calls Try.prog 76 #[v] w (Ret fun r w' => r = .bool (rightT t false) ∧ Ext w w') := by
 have hE : Below w.heap.size w w := Below.refl _ _
 have hB : w.heap.size ≤ w.heap.size := Nat.le_refl _
 obtain ⟨akv, kv, rfl, op, nm, ag, n64, ha, hk⟩ := tm_open ht
 refine c_enter (n := 5) Try.func76 rfl rfl rfl ?_
 refine q0 ?_
 refine lC (o_box rfl rfl rfl ?_)
 intro b1 w1 hb_b1 ew1 h1
 replace h1 : Box _ b1 84 [.int .u8 t.op, .string t.name, .string t.arg, .int .i64 t.n, .bool t.has, .int .u8 t.ann.op, .string t.ann.name, .int .i64 t.ann.n, akv, kv] := h1
 replace h1 := h1.at (nM_of hlow hb_b1)
 replace hE := ew1.bl hE hB
 replace ht := Rep.ext ht ew1
 replace ha := Rep.ext ha ew1
 replace hk := hk.ext ew1
 replace hlow := hlow.ext ew1
 replace hB := ew1.z hB
 refine l_p 1 tK rfl (q1 (q0 ?_))
 refine lC (o_lds tK (fun j v hv => h1.cell j v hv) rfl rfl rfl rfl rfl rfl ?_)
 refine lC (o_call fo106 rfl rfl rfl (tright_spec _ _ _ _ _ ht hlow hz) ?_)
 rintro _ w2 ⟨rfl, ew2⟩
 replace hE := ew2.bl hE hB
 replace ht := Rep.ext ht ew2
 replace ha := Rep.ext ha ew2
 replace hk := hk.ext ew2
 replace h1 := h1.ext ew2
 replace hlow := hlow.ext ew2
 replace hB := ew2.z hB
 refine l_p 1 tK rfl (q1 (c_ret (x_ret1 rfl rfl ?_)))
 exact ⟨rfl, hE⟩
end Go.Proofs.Ytohfnpmehgpphaa
namespace Rw
/-! ## Letters -/
/-! ## Right, twice -/
theorem shp_parts {op : Int} (h : ¬ (op < 32 ∨ 52 ≤ op)) : (shp op).2.2.2.2 = true ∧ partsS op ≠ ⟨#[]⟩ ∧ (op ≠ 48 → (shp op).2.2.1 = (countE (partsS op) : Int) ∧ partsS op ≠ ⟨#[99]⟩) := by
  rcases op_cases h with e | e | e | e | e | e | e | e | e | e | e | e | e | e | e | e | e | e | e | e <;> subst e <;> exact ⟨by decide, by decide, by decide⟩
theorem shp_no {op : Int} (h : op < 32 ∨ 52 ≤ op) : (shp op).2.2.2.2 = false := by
  unfold shp
  repeat rw [if_neg (by omega)]
end Rw
namespace Rw
abbrev BF := List (ByteArray × Int) × List (ByteArray × Bool)
def bnd (l : List (ByteArray × Int)) (s : ByteArray) : Int := (getK l s).getD 0
def incK (l : List (ByteArray × Int)) (s : ByteArray) (d : Int) : List (ByteArray × Int) := putK l s (bnd l s + d)
def incs (l : List (ByteArray × Int)) (ss : List ByteArray) (d : Int) : List (ByteArray × Int) := ss.foldl (fun l s => incK l s d) l
def withF (g : BF → BF) (ss : List ByteArray) (x : BF) : BF := (incs (g (incs x.1 ss 1, x.2)).1 ss (-1), (g (incs x.1 ss 1, x.2)).2)
def downK (op : Int) (name arg : ByteArray) (gs : List (BF → BF)) (x : BF) : BF :=
  if op = 32 then (if bnd x.1 name = 0 then (x.1, putK x.2 name true) else x) else if op = 35 ∨ op = 49 ∨ op = 50 then withF (gs.headD id) [arg] x else if op = 36 then withF (gs.headD id) [name, arg] x
  else if op = 38 then withF ((gs[1]?).getD id) [name] (gs.headD id x) else gs.foldl (fun x g => g x) x
/-- Down an expression. -/
def downF : Tm → BF → BF
  | .mk op name arg n has ann kids => downK op name arg (kids.map downF)
theorem downF_eq (t : Tm) : downF t = downK t.op t.name t.arg (t.kids.map downF) := by cases t; rw [downF]; rfl
theorem incs_snoc (l : List (ByteArray × Int)) (ss : List ByteArray) (s : ByteArray) (d : Int) : incs l (ss ++ [s]) d = incK (incs l ss d) s d := by simp [incs]
theorem incs_step {l : List (ByteArray × Int)} {ss : List ByteArray} {d : Int} {i : Nat} (h : i < ss.length) : incs l (ss.take (i + 1)) d = putK (incs l (ss.take i) d) ss[i] (bnd (incs l (ss.take i) d) ss[i] + d) := by
  rw [List.take_succ_eq_append_getElem h, incs_snoc]; rfl
theorem bnd_inc (l : List (ByteArray × Int)) (s : ByteArray) (d : Int) (x : ByteArray) : bnd (incK l s d) x = bnd l x + if x = s then d else 0 := by
  unfold incK
  by_cases h : x = s
  · subst h; rw [if_pos rfl]; unfold bnd; rw [getK_put, if_pos rfl]; rfl
  · rw [if_neg h]; unfold bnd; rw [getK_put, if_neg h]; omega
def times (ss : List ByteArray) (x : ByteArray) : Int := ((ss.filter fun s => decide (x = s)).length : Int)
theorem bnd_incs (d : Int) (x : ByteArray) : ∀ (ss : List ByteArray) (l : List (ByteArray × Int)), bnd (incs l ss d) x = bnd l x + times ss x * d
  | [], l => by simp [incs, times]
  | s :: ss, l => by
    show bnd (incs (incK l s d) ss d) x = _
    rw [bnd_incs d x ss, bnd_inc]
    unfold times
    by_cases h : x = s
    · subst h; simp [Int.add_mul]; omega
    · simp [h]
theorem times_le (ss : List ByteArray) (x : ByteArray) : 0 ≤ times ss x ∧ times ss x ≤ ss.length := by
  unfold times
  have := List.length_filter_le (fun s => decide (x = s)) ss
  omega
theorem down_same (t : Tm) : ∀ (x : BF) (s : ByteArray), bnd (downF t x).1 s = bnd x.1 s := by
  refine Tm.ind (p := fun t => ∀ (x : BF) (s : ByteArray), bnd (downF t x).1 s = bnd x.1 s) (fun t ih => ?_) t
  intro x s
  have hw : ∀ (g : BF → BF) (ss : List ByteArray) (x : BF), (∀ x, bnd (g x).1 s = bnd x.1 s) → bnd (withF g ss x).1 s = bnd x.1 s := by
    intro g ss x hg
    show bnd (incs (g (incs x.1 ss 1, x.2)).1 ss (-1)) s = _
    rw [bnd_incs, hg, bnd_incs]
    omega
  have hhead : ∀ x, bnd ((t.kids.map downF).headD id x).1 s = bnd x.1 s := by
    intro x
    cases h : t.kids with
    | nil => rfl
    | cons k l => exact ih k (by rw [h]; exact List.mem_cons_self) x s
  have hone : ∀ x, bnd ((((t.kids.map downF)[1]?).getD id) x).1 s = bnd x.1 s := by
    intro x
    cases h : (t.kids.map downF)[1]? with
    | none => rfl
    | some g =>
      rw [List.getElem?_map] at h
      cases hk : t.kids[1]? with
      | none => rw [hk] at h; cases h
      | some k =>
        rw [hk] at h
        cases h
        exact ih k (List.mem_of_getElem? hk) x s
  have hfold : ∀ (l : List Tm) (x : BF), (∀ k ∈ l, k ∈ t.kids) → bnd ((l.map downF).foldl (fun x g => g x) x).1 s = bnd x.1 s := by
    intro l
    induction l with
    | nil => intro x _; rfl
    | cons k l ihl =>
      intro x hk
      rw [List.map_cons, List.foldl_cons, ihl _ (fun y hy => hk y (List.mem_cons_of_mem _ hy))]
      exact ih k (hk k List.mem_cons_self) x s
  rw [downF_eq]
  unfold downK
  split
  · split <;> rfl
  · split
    · exact hw _ _ _ hhead
    · split
      · exact hw _ _ _ hhead
      · split
        · rw [hw _ _ _ hone, hhead]
        · exact hfold _ _ (fun k h => h)
def foldD (l : List Tm) (x : BF) : BF := (l.map downF).foldl (fun x g => g x) x
theorem foldD_step {l : List Tm} {i : Nat} (h : i < l.length) (x : BF) : foldD (l.take (i + 1)) x = downF l[i] (foldD (l.take i) x) := by
  unfold foldD
  rw [List.take_succ_eq_append_getElem h, List.map_append, List.foldl_append]; rfl
theorem foldD_same (s : ByteArray) : ∀ (l : List Tm) (x : BF), bnd (foldD l x).1 s = bnd x.1 s
  | [], _ => rfl
  | k :: l, x => by
    show bnd (foldD l (downF k x)).1 s = _
    rw [foldD_same s l, down_same]
theorem down_var {t : Tm} (h : t.op = 32) (x : BF) : downF t x = if bnd x.1 t.name = 0 then (x.1, putK x.2 t.name true) else x := by rw [downF_eq, downK, if_pos h]
theorem headD_map {l : List Tm} (h : 0 < l.length) : (l.map downF).headD id = downF l[0] := by
  cases l with
  | nil => cases h
  | cons k l => rfl
theorem oneD_map {l : List Tm} (h : 1 < l.length) : ((l.map downF)[1]?).getD id = downF l[1] := by
  rw [List.getElem?_map, List.getElem?_eq_getElem h]; rfl
theorem down_one {t : Tm} (h : t.op = 35 ∨ t.op = 49 ∨ t.op = 50) (h1 : 0 < t.kids.length) (x : BF) : downF t x = withF (downF t.kids[0]) [t.arg] x := by
  rw [downF_eq, downK, if_neg (by omega), if_pos h, headD_map h1]
theorem down_rec {t : Tm} (h : t.op = 36) (h1 : 0 < t.kids.length) (x : BF) : downF t x = withF (downF t.kids[0]) [t.name, t.arg] x := by
  rw [downF_eq, downK, if_neg (by omega), if_neg (by omega), if_pos h, headD_map h1]
theorem down_let {t : Tm} (h : t.op = 38) (h1 : 1 < t.kids.length) (x : BF) : downF t x = withF (downF t.kids[1]) [t.name] (downF t.kids[0] x) := by
  rw [downF_eq, downK, if_neg (by omega), if_neg (by omega), if_neg (by omega), if_pos h, headD_map (by omega), oneD_map h1]
theorem down_else {t : Tm} (h : t.op ≠ 32 ∧ t.op ≠ 35 ∧ t.op ≠ 49 ∧ t.op ≠ 50 ∧ t.op ≠ 36 ∧ t.op ≠ 38) (x : BF) : downF t x = foldD t.kids x := by
  rw [downF_eq, downK, if_neg (by omega), if_neg (by omega), if_neg (by omega), if_neg (by omega)]; rfl
theorem kidsT_each {op : Int} : ∀ (l : List Tm) (i : Nat), kidsT op i (kidL l) = true → ∀ k ∈ l, ∃ b, rightT k b = true
  | [], _, _, k, hk => by cases hk
  | y :: l, i, h, k, hk => by
    have h' : kidsT op i ((y.op, rightT y) :: kidL l) = true := h
    rw [kidsT] at h'
    simp only [Bool.and_eq_true] at h'
    rcases List.mem_cons.1 hk with rfl | hk
    · exact ⟨_, h'.2.1⟩
    · exact kidsT_each l _ h'.2.2 k hk
theorem right_kids {t : Tm} {b : Bool} (h : rightT t b = true) : (t.op ≠ 48 → (t.kids.length : Int) = (shp t.op).2.2.1) ∧ (∀ k ∈ t.kids, ∃ b', rightT k b' = true) ∧ (32 ≤ t.op ∧ t.op < 52) ∧ (t.op = 48 → 0 < t.kids.length) := by
  rw [rightT_eq] at h
  simp only [Bool.and_eq_true] at h
  obtain ⟨hh, hk⟩ := h
  unfold headT at hh
  simp only [Bool.and_eq_true] at hh
  have hv : ¬ (t.op < 32 ∨ 52 ≤ t.op) := fun e => by rw [shp_no e] at hh; exact absurd hh.1 (by simp)
  have hl := hh.2.2.2.2.2.2
  refine ⟨fun e => ?_, kidsT_each _ _ hk, by omega, fun e => ?_⟩
  · have h1 := ((shp_parts hv).2.2 e).1
    rw [h1, decide_eq_true (show (0 : Int) ≤ _ by omega)] at hl
    rw [h1]
    simpa using hl
  · rw [e] at hl
    simp [shp] at hl
    exact List.length_pos_iff.2 hl
theorem shp_one {op : Int} (h : op = 35 ∨ op = 36 ∨ op = 49 ∨ op = 50 ∨ op = 46) : (shp op).2.2.1 = 1 ∧ op ≠ 48 := by
  rcases h with h | h | h | h | h <;> subst h <;> exact ⟨by decide, by decide⟩
theorem shp_two {op : Int} (h : op = 38 ∨ op = 42) : (shp op).2.2.1 = 2 ∧ op ≠ 48 := by
  rcases h with h | h <;> subst h <;> exact ⟨by decide, by decide⟩
end Rw
namespace Go.Proofs.Ytohfnpmehgpphaa
open Go Rw Go.RowKit
set_option maxRecDepth 100000
/-- What down does of an expression. -/
def DownC (t : Tm) : Prop := ∀ (K : Nat) (x : BF) (M : Nat → Prop) (w : World) (B : Nat) (v : Value) (np bm fm : Nat) (b : Bool), rightT t b = true → Rep.R M w v t → At M w np 0 [.map (some bm), .map (some fm)] → OM (κ := ByteArray) (fun x : Int => Value.int .i64 x) B M w bm x.1 → OM (κ := ByteArray) (fun x : Bool => Value.bool x) B M w fm x.2 → bm ≠ fm → Low M w → B ≤ w.heap.size → (∀ s, 0 ≤ bnd x.1 s ∧ bnd x.1 s ≤ K) → K + 2 * nsz t ≤ 1000000000 →
  Calls Try.prog 110 #[.pointer (some ⟨np, 0, none⟩), v] w (Ret fun r w' => r = .tuple #[] ∧ OM (κ := ByteArray) (fun x : Int => Value.int .i64 x) B M w' bm (downF t x).1 ∧ OM (κ := ByteArray) (fun x : Bool => Value.bool x) B M w' fm (downF t x).2 ∧ Stp B M M w w' ∧ Kept w w' (Out (fun z => z = bm ∨ z = fm) w))
theorem within_of (t : Tm) (hd : DownC t) (l : List ByteArray) (K : Nat) (x : BF) (M : Nat → Prop) (w : World) (B : Nat) (v vl : Value) (np bm fm : Nat) (b : Bool) (hr : rightT t b = true) (ht : Rep.R M w v t) (hs : Sl M w vl l) : At M w np 0 [.map (some bm), .map (some fm)] → OM (κ := ByteArray) (fun x : Int => Value.int .i64 x) B M w bm x.1 → OM (κ := ByteArray) (fun x : Bool => Value.bool x) B M w fm x.2 → bm ≠ fm → Low M w → B ≤ w.heap.size → (∀ s, 0 ≤ bnd x.1 s ∧ bnd x.1 s ≤ K) → l.length ≤ 2 → K + 2 + 2 * nsz t ≤ 1000000000 →
  Calls Try.prog 126 #[.pointer (some ⟨np, 0, none⟩), v, vl] w (Ret fun r w' => r = .tuple #[] ∧ OM (κ := ByteArray) (fun x : Int => Value.int .i64 x) B M w' bm (withF (downF t) l x).1 ∧ OM (κ := ByteArray) (fun x : Bool => Value.bool x) B M w' fm (withF (downF t) l x).2 ∧ Stp B M M w w' ∧ Kept w w' (Out (fun z => z = bm ∨ z = fm) w)) := by
 intro hn hm hf hne hlow hB hbx hll hK
 have hT : Stp B M M w w := Stp.refl hlow
 have hfr : Kept w w (Out (fun z => z = bm ∨ z = fm) w) := Kept.refl (fun x hx => hx.1)
 have d_hfr_hm : ∀ x, (Out (fun z => z = bm ∨ z = fm) w) x → x ≠ bm := fun x hx e => hx.2 (.inl e)
 have d_hfr_hf : ∀ x, (Out (fun z => z = bm ∨ z = fm) w) x → x ≠ fm := fun x hx e => hx.2 (.inr e)
 have ne_hm_hf := hne
 obtain ⟨akv, kv, rfl, op, nm, ag, n64, ha, hk⟩ := tm_open ht
 refine c_enter (n := 41) Try.func126 rfl rfl rfl ?_
 refine q0 ?_
 refine lC (o_box rfl rfl rfl ?_)
 intro b4 w1 hb_b4 ew1 h4
 replace h4 : Box _ b4 84 [.int .u8 t.op, .string t.name, .string t.arg, .int .i64 t.n, .bool t.has, .int .u8 t.ann.op, .string t.ann.name, .int .i64 t.ann.n, akv, kv] := h4
 replace h4 := h4.at (nM_of hlow hb_b4)
 replace hT := hT.then (Stp.ext ew1 hlow hB)
 replace hfr := hfr.ext hlow hB ew1
 replace hm := hm.ext hlow hB ew1
 replace hf := hf.ext hlow hB ew1
 replace hn := hn.ext ew1
 replace ht := Rep.ext ht ew1
 replace ha := Rep.ext ha ew1
 replace hk := hk.ext ew1
 replace hs := hs.ext ew1
 replace hlow := hlow.ext ew1
 replace hB := ew1.z hB
 refine q1 (c_seq (q0 (l_p 1 tK rfl ?_)))
 refine lC (o_len tK hs rfl rfl rfl rfl rfl ?_)
 refine l_p 1 tK rfl (q1 (c_blk ?_))
 refine c_loop (X := Nat) (fun i => [(0, .pointer (some ⟨np, 0, none⟩)), (2, vl), (10, vl), (11, .int .i64 (l.length : Int)), (12, .int .i64 (i : Nat)), (4, .pointer (some ⟨b4, 0, none⟩))]) (fun i w' => i ≤ l.length ∧ OM (κ := ByteArray) (fun x : Int => Value.int .i64 x) B M w' bm (incs x.1 (l.take i) (1)) ∧ OM (κ := ByteArray) (fun x : Bool => Value.bool x) B M w' fm (x.2) ∧ At M w' np 0 [.map (some bm), .map (some fm)] ∧ Stp B M M w w' ∧ Kept w w' (Out (fun z => z = bm ∨ z = fm) w) ∧ Low M w' ∧ B ≤ w'.heap.size ∧ At M w' b4 0 [.int .u8 t.op, .string t.name, .string t.arg, .int .i64 t.n, .bool t.has, .int .u8 t.ann.op, .string t.ann.name, .int .i64 t.ann.n, akv, kv] ∧ Rep.R M w' (.agg #[.int .u8 t.op, .string t.name, .string t.arg, .int .i64 t.n, .bool t.has, .int .u8 t.ann.op, .string t.ann.name, .int .i64 t.ann.n, akv, kv]) t ∧ Rep.R M w' (.agg #[.int .u8 t.ann.op, .string t.ann.name, .int .i64 t.ann.n, akv]) t.ann ∧ Sl M w' kv t.kids ∧ Sl M w' vl l) (fun i => l.length - i) (0) (s6 rfl rfl rfl rfl rfl rfl) ?_ ?_
 ·exact ⟨Nat.zero_le _, hm, hf, hn, hT, hfr, hlow, hB, h4, ht, ha, hk, hs⟩
 clear hm hf hn hT hfr hlow hB h4 ht ha hk hs
 rintro i w2 ⟨hi, hm, hf, hn, hT, hfr, hlow, hB, h4, ht, ha, hk, hs⟩
 refine q0 (l_p 1 tK rfl (q1 (c_seq ?_)))
 refine c_ifP _ rfl (fun c1 => ?_) (fun c1 => ?_)
 ·refine c_skip (x_seq (c_seq (c_blk (q0 ?_))))
  have hil : i < l.length := by omega
  refine lC (o_ixS tK hs (List.getElem?_eq_getElem hil) rfl rfl rfl rfl rfl rfl rfl rfl rfl ?_)
  intro eb eo eu hr2 hat
  obtain ⟨rfl, _⟩ := hr2
  refine lC (o_ld tK (hat.cell 0 _ rfl) rfl rfl rfl rfl rfl ?_)
  refine l_p 1 tK rfl (q1 (c_reg (l_p 3 tK rfl ?_)))
  refine lC (o_ld tK (hn.cell 0 _ rfl) rfl rfl rfl rfl rfl ?_)
  refine l_p 1 tK rfl ?_
  have hti := times_le (l.take i) l[i]
  have hbi := bnd_incs (1) l[i] (l.take i) (x.1)
  have hbx2 := hbx l[i]
  rw [List.length_take] at hti
  have hg : (getK (incs x.1 (l.take i) (1)) l[i]).getD 0 = bnd (incs x.1 (l.take i) (1)) l[i] := rfl
  refine lC (o_look (z := 0) tK hm.map (k := l[i]) rfl rfl rfl rfl ⟨_, Try.underlying9, rfl⟩ rfl rfl rfl rfl ?_)
  refine lC (o_ar rfl rfl rfl (z := bnd (incs x.1 (l.take i) (1)) l[i] + (1)) (by rw [hg]; exact IntWalk.i64_in _ (by omega)) rfl rfl ?_)
  refine lC (o_mupd tK hm.map (k := l[i]) (v := bnd (incs x.1 (l.take i) (1)) l[i] + (1)) rfl rfl rfl rfl rfl ⟨_, Try.underlying9, rfl⟩ rfl ?_)
  intro w3 hw3 qw3 bew3
  have uw3 : UpdB _ _ _ := ⟨qw3, bew3⟩
  have sw3 := uw3.stp hm.inM hlow hm.ge
  have frw3 := qw3.2
  replace hT := hT.then sw3
  replace hfr := hfr.stp sw3 (fun x hx => frw3 x (hfr.lt x hx).2 (d_hfr_hm x hx))
  replace hf := hf.stp sw3 (frw3 fm hf.lt ne_hm_hf.symm)
  replace hn := hn.stp sw3
  replace h4 := h4.stp sw3
  replace ht := Rep.stp ht sw3
  replace ha := Rep.stp ha sw3
  replace hk := hk.stp sw3
  replace hs := hs.stp sw3
  replace hlow := sw3.low
  replace hB := sw3.z hB
  replace hm : OM _ _ _ w3 _ (putK (incs x.1 (l.take i) (1)) l[i] (bnd (incs x.1 (l.take i) (1)) l[i] + (1))) := ⟨hw3, hm.inM, hm.ge⟩
  refine q2 (x_seq (c_reg ?_))
  refine lC (o_ai rfl rfl rfl (by omega) rfl rfl ?_)
  refine l_p 1 tK rfl (l_nil ?_)
  exact x_round (i + 1) (s6 rfl rfl rfl rfl (get_num rfl (by omega)) rfl) ⟨by omega, by rw [incs_step hil]; exact hm, hf, hn, hT, hfr, hlow, hB, h4, ht, ha, hk, hs⟩ (by omega)
 refine c_exit (x_seqE (x_seqE (x_blkE (x_seq (q0 (l_p 1 tK rfl ?_))))))
 refine lC (o_lds tK (fun j v hv => h4.cell j v hv) rfl rfl rfl rfl rfl rfl ?_)
 obtain rfl : i = l.length := by omega
 rw [List.take_of_length_le (Nat.le_refl _)] at hm
 have hbk : ∀ s, 0 ≤ bnd (incs x.1 l 1) s ∧ bnd (incs x.1 l 1) s ≤ ((K + 2 : Nat) : Int) := fun s => by
  have h1 := times_le l s
  have h2 := hbx s
  rw [bnd_incs]; omega
 refine lC (o_call fo110 rfl rfl rfl (hd (K + 2) (incs x.1 l 1, x.2) M _ B _ np bm fm b hr ht hn hm hf hne hlow hB hbk (by omega)) ?_)
 rintro _ w4 ⟨rfl, hmw4, hfw4, sw4, kw4⟩
 have frw4 : ∀ x, x < w2.heap.size → ¬ (x = bm ∨ x = fm) → w4.heap[x]? = w2.heap[x]? := fun x hx hn => kw4.blk x ⟨hx, hn⟩
 replace hT := hT.then sw4
 replace hfr := hfr.stp sw4 (fun x hx => frw4 x (hfr.lt x hx).2 hx.2)
 replace hn := hn.stp sw4
 replace h4 := h4.stp sw4
 replace ht := Rep.stp ht sw4
 replace ha := Rep.stp ha sw4
 replace hk := hk.stp sw4
 replace hs := hs.stp sw4
 replace hlow := sw4.low
 replace hB := sw4.z hB
 replace hm := hmw4
 replace hf := hfw4
 clear hmw4 hfw4
 refine q1 (q0 (l_p 1 tK rfl ?_))
 refine lC (o_len tK hs rfl rfl rfl rfl rfl ?_)
 refine l_p 1 tK rfl (q1 (c_blk ?_))
 refine c_loop (X := Nat) (fun i => [(0, .pointer (some ⟨np, 0, none⟩)), (2, vl), (27, vl), (28, .int .i64 (l.length : Int)), (29, .int .i64 (i : Nat))]) (fun i w' => i ≤ l.length ∧ OM (κ := ByteArray) (fun x : Int => Value.int .i64 x) B M w' bm (incs (downF t (incs x.1 l 1, x.2)).1 (l.take i) (-1)) ∧ OM (κ := ByteArray) (fun x : Bool => Value.bool x) B M w' fm ((downF t (incs x.1 l 1, x.2)).2) ∧ At M w' np 0 [.map (some bm), .map (some fm)] ∧ Stp B M M w w' ∧ Kept w w' (Out (fun z => z = bm ∨ z = fm) w) ∧ Low M w' ∧ B ≤ w'.heap.size ∧ Sl M w' vl l) (fun i => l.length - i) (0) (s5 rfl rfl rfl rfl rfl) ?_ ?_
 ·exact ⟨Nat.zero_le _, hm, hf, hn, hT, hfr, hlow, hB, hs⟩
 clear hm hf hn hT hfr hlow hB hs
 rintro i w5 ⟨hi, hm, hf, hn, hT, hfr, hlow, hB, hs⟩
 refine q0 (l_p 1 tK rfl (q1 (c_seq ?_)))
 refine c_ifP _ rfl (fun c2 => ?_) (fun c2 => ?_)
 ·refine c_skip (x_seq (c_seq (c_blk (q0 ?_))))
  have hil : i < l.length := by omega
  refine lC (o_ixS tK hs (List.getElem?_eq_getElem hil) rfl rfl rfl rfl rfl rfl rfl rfl rfl ?_)
  intro eb eo eu hr2 hat
  obtain ⟨rfl, _⟩ := hr2
  refine lC (o_ld tK (hat.cell 0 _ rfl) rfl rfl rfl rfl rfl ?_)
  refine l_p 1 tK rfl (q1 (c_reg (l_p 3 tK rfl ?_)))
  refine lC (o_ld tK (hn.cell 0 _ rfl) rfl rfl rfl rfl rfl ?_)
  refine l_p 1 tK rfl ?_
  have hti := times_le (l.take i) l[i]
  have hbi := bnd_incs (-1) l[i] (l.take i) ((downF t (incs x.1 l 1, x.2)).1)
  have hbx2 := hbx l[i]
  rw [List.length_take] at hti
  have hg : (getK (incs (downF t (incs x.1 l 1, x.2)).1 (l.take i) (-1)) l[i]).getD 0 = bnd (incs (downF t (incs x.1 l 1, x.2)).1 (l.take i) (-1)) l[i] := rfl
  have htl := times_le l l[i]
  have hbd : bnd (downF t (incs x.1 l 1, x.2)).1 l[i] = bnd x.1 l[i] + times l l[i] * 1 := by rw [down_same, bnd_incs]
  refine lC (o_look (z := 0) tK hm.map (k := l[i]) rfl rfl rfl rfl ⟨_, Try.underlying9, rfl⟩ rfl rfl rfl rfl ?_)
  refine lC (o_ar rfl rfl rfl (z := bnd (incs (downF t (incs x.1 l 1, x.2)).1 (l.take i) (-1)) l[i] + (-1)) (by rw [hg, show bnd (incs (downF t (incs x.1 l 1, x.2)).1 (l.take i) (-1)) l[i] - 1 = bnd (incs (downF t (incs x.1 l 1, x.2)).1 (l.take i) (-1)) l[i] + (-1) by omega]; exact IntWalk.i64_in _ (by omega)) rfl rfl ?_)
  refine lC (o_mupd tK hm.map (k := l[i]) (v := bnd (incs (downF t (incs x.1 l 1, x.2)).1 (l.take i) (-1)) l[i] + (-1)) rfl rfl rfl rfl rfl ⟨_, Try.underlying9, rfl⟩ rfl ?_)
  intro w6 hw6 qw6 bew6
  have uw6 : UpdB _ _ _ := ⟨qw6, bew6⟩
  have sw6 := uw6.stp hm.inM hlow hm.ge
  have frw6 := qw6.2
  replace hT := hT.then sw6
  replace hfr := hfr.stp sw6 (fun x hx => frw6 x (hfr.lt x hx).2 (d_hfr_hm x hx))
  replace hf := hf.stp sw6 (frw6 fm hf.lt ne_hm_hf.symm)
  replace hn := hn.stp sw6
  replace hs := hs.stp sw6
  replace hlow := sw6.low
  replace hB := sw6.z hB
  replace hm : OM _ _ _ w6 _ (putK (incs (downF t (incs x.1 l 1, x.2)).1 (l.take i) (-1)) l[i] (bnd (incs (downF t (incs x.1 l 1, x.2)).1 (l.take i) (-1)) l[i] + (-1))) := ⟨hw6, hm.inM, hm.ge⟩
  refine q2 (x_seq (c_reg ?_))
  refine lC (o_ai rfl rfl rfl (by omega) rfl rfl ?_)
  refine l_p 1 tK rfl (l_nil ?_)
  exact x_round (i + 1) (s5 rfl rfl rfl rfl (get_num rfl (by omega))) ⟨by omega, by rw [incs_step hil]; exact hm, hf, hn, hT, hfr, hlow, hB, hs⟩ (by omega)
 refine c_exit (x_seqE (x_seqE (x_blkE ?_)))
 refine x_ret0n rfl ?_
 obtain rfl : i = l.length := by omega
 rw [List.take_of_length_le (Nat.le_refl _)] at hm
 exact ⟨rfl, hm, hf, hT, hfr⟩
theorem down_spec : ∀ (t : Tm), DownC t := by
 refine Tm.ind fun t ih => ?_
 intro K x M w B v np bm fm b hr ht hn hm hf hne hlow hB hbx hK
 obtain ⟨hrl, hrk, hro, _⟩ := right_kids hr
 have hkz := fun k (hk : k ∈ t.kids) => kid_nsz hk
 have hT : Stp B M M w w := Stp.refl hlow
 have hfr : Kept w w (Out (fun z => z = bm ∨ z = fm) w) := Kept.refl (fun x hx => hx.1)
 have d_hfr_hm : ∀ x, (Out (fun z => z = bm ∨ z = fm) w) x → x ≠ bm := fun x hx e => hx.2 (.inl e)
 have d_hfr_hf : ∀ x, (Out (fun z => z = bm ∨ z = fm) w) x → x ≠ fm := fun x hx e => hx.2 (.inr e)
 have ne_hm_hf := hne
 obtain ⟨akv, kv, rfl, op, nm, ag, n64, ha, hk⟩ := tm_open ht
 have hlt := hk.lt
 refine c_enter (n := 78) Try.func110 rfl rfl rfl ?_
 refine q0 ?_
 refine lC (o_box rfl rfl rfl ?_)
 intro b3 w1 hb_b3 ew1 h3
 replace h3 : Box _ b3 84 [.int .u8 t.op, .string t.name, .string t.arg, .int .i64 t.n, .bool t.has, .int .u8 t.ann.op, .string t.ann.name, .int .i64 t.ann.n, akv, kv] := h3
 replace h3 := h3.at (nM_of hlow hb_b3)
 replace hT := hT.then (Stp.ext ew1 hlow hB)
 replace hfr := hfr.ext hlow hB ew1
 replace hm := hm.ext hlow hB ew1
 replace hf := hf.ext hlow hB ew1
 replace hn := hn.ext ew1
 replace ht := Rep.ext ht ew1
 replace ha := Rep.ext ha ew1
 replace hk := hk.ext ew1
 replace hlow := hlow.ext ew1
 replace hB := ew1.z hB
 refine q1 (q0 (l_p 1 tK rfl ?_))
 refine lC (o_ld tK (h3.cell 0 _ rfl) rfl rfl rfl rfl rfl ?_)
 refine q1 (c_blk (q0 (l_p 2 tK rfl (q1 ?_))))
 refine c_ifP _ rfl (fun c1 => ?_) (fun c1 => ?_)
 ·refine c_seq ?_
  refine a_beg Ext rfl ?_
  intro w2 ew2
  replace hT := hT.then (Stp.ext ew2 hlow hB)
  replace hfr := hfr.ext hlow hB ew2
  replace hm := hm.ext hlow hB ew2
  replace hf := hf.ext hlow hB ew2
  replace hn := hn.ext ew2
  replace ht := Rep.ext ht ew2
  replace ha := Rep.ext ha ew2
  replace hk := hk.ext ew2
  replace h3 := h3.ext ew2
  replace hlow := hlow.ext ew2
  replace hB := ew2.z hB
  have hS : Ext w2 w2 := ext_refl _
  have D_hn := hn
  have D_hk := hk
  have D_h3 := h3
  refine a_p 0 tK rfl rfl rfl rfl (by kernel_rfl) (fun _ _ _ h => h) hS ?_
  refine a_p 1 tK rfl rfl rfl rfl (by kernel_rfl) (fun _ _ _ h => h) hS ?_
  refine a_p 2 tK rfl rfl rfl rfl (by kernel_rfl) (fun _ _ _ h => h) hS ?_
  refine a_ld 3 tK (fun _ hs => (D_hn.ext hs).cell 0 _ rfl) rfl rfl rfl rfl rfl rfl (by kernel_rfl) (fun _ _ _ h => h) hS ?_
  refine a_p 4 tK rfl rfl rfl rfl (by kernel_rfl) (fun _ _ _ h => h) hS ?_
  refine a_ld 5 tK (fun _ hs => (D_h3.ext hs).cell 1 _ rfl) rfl rfl rfl rfl rfl rfl (by kernel_rfl) (fun _ _ _ h => h) hS ?_
  refine a_bar 6 rfl (by kernel_rfl) (by kernel_rfl) (o_look (z := 0) tK hm.map (k := t.name) rfl rfl rfl rfl ⟨_, Try.underlying9, rfl⟩ rfl rfl rfl rfl ?_)
  refine a_p 7 tK rfl rfl rfl rfl (by kernel_rfl) (fun _ _ _ h => h) hS ?_
  refine a_end (by kernel_rfl) ?_
  refine x_seq ?_
  refine c_ifP _ rfl (fun c2 => ?_) (fun c2 => ?_)
  ·refine a_beg Ext rfl ?_
   intro w3 ew3
   replace hT := hT.then (Stp.ext ew3 hlow hB)
   replace hfr := hfr.ext hlow hB ew3
   replace hm := hm.ext hlow hB ew3
   replace hf := hf.ext hlow hB ew3
   replace hn := hn.ext ew3
   replace ht := Rep.ext ht ew3
   replace ha := Rep.ext ha ew3
   replace hk := hk.ext ew3
   replace h3 := h3.ext ew3
   replace hlow := hlow.ext ew3
   replace hB := ew3.z hB
   have hS : Ext w3 w3 := ext_refl _
   have D_hn := hn
   have D_hk := hk
   have D_h3 := h3
   refine a_p 0 tK rfl rfl rfl rfl (by kernel_rfl) (fun _ _ _ h => h) hS ?_
   refine a_p 1 tK rfl rfl rfl rfl (by kernel_rfl) (fun _ _ _ h => h) hS ?_
   refine a_p 2 tK rfl rfl rfl rfl (by kernel_rfl) (fun _ _ _ h => h) hS ?_
   refine a_ld 3 tK (fun _ hs => (D_hn.ext hs).cell 1 _ rfl) rfl rfl rfl rfl rfl rfl (by kernel_rfl) (fun _ _ _ h => h) hS ?_
   refine a_p 4 tK rfl rfl rfl rfl (by kernel_rfl) (fun _ _ _ h => h) hS ?_
   refine a_ld 5 tK (fun _ hs => (D_h3.ext hs).cell 1 _ rfl) rfl rfl rfl rfl rfl rfl (by kernel_rfl) (fun _ _ _ h => h) hS ?_
   refine a_barS Ext 6 rfl (by kernel_rfl) (by kernel_rfl) (o_mupd tK hf.map (k := t.name) (v := true) rfl rfl rfl rfl rfl ⟨_, Try.underlying9, rfl⟩ rfl ?_)
   intro w4 hw4 qw4 bew4
   have uw4 : UpdB _ _ _ := ⟨qw4, bew4⟩
   have sw4 := uw4.stp hf.inM hlow hf.ge
   have frw4 := qw4.2
   replace hT := hT.then sw4
   replace hfr := hfr.stp sw4 (fun x hx => frw4 x (hfr.lt x hx).2 (d_hfr_hf x hx))
   replace hm := hm.stp sw4 (frw4 bm hm.lt ne_hm_hf)
   replace hn := hn.stp sw4
   replace ht := Rep.stp ht sw4
   replace ha := Rep.stp ha sw4
   replace hk := hk.stp sw4
   replace h3 := h3.stp sw4
   replace hlow := sw4.low
   replace hB := sw4.z hB
   replace hS : Ext w4 w4 := ext_refl _
   replace hf : OM _ _ _ w4 _ (putK x.2 t.name true) := ⟨hw4, hf.inM, hf.ge⟩
   have D_hn := hn
   have D_hk := hk
   have D_h3 := h3
   refine a_end (by kernel_rfl) ?_
   refine x_blk ?_
   refine x_ret0n rfl ?_
   have hz0 : bnd x.1 t.name = 0 := by assumption
   rw [down_var (by omega), if_pos hz0]
   exact ⟨rfl, hm, hf, hT, hfr⟩
  refine c_skip (x_blk ?_)
  refine x_ret0n rfl ?_
  have hz0 : ¬ bnd x.1 t.name = 0 := by assumption
  rw [down_var (by omega), if_neg hz0]
  exact ⟨rfl, hm, hf, hT, hfr⟩
 refine c_seq (q0 (l_p 2 tK rfl (q1 ?_)))
 refine c_splitP 35 _ rfl (fun c3 => c_ifT rfl ?_) (fun c3 => c_ifF rfl ?_)
 ·refine c_skip (x_seq (c_ifT rfl ?_))
  refine a_beg Ext rfl ?_
  intro w5 ew5
  replace hT := hT.then (Stp.ext ew5 hlow hB)
  replace hfr := hfr.ext hlow hB ew5
  replace hm := hm.ext hlow hB ew5
  replace hf := hf.ext hlow hB ew5
  replace hn := hn.ext ew5
  replace ht := Rep.ext ht ew5
  replace ha := Rep.ext ha ew5
  replace hk := hk.ext ew5
  replace h3 := h3.ext ew5
  replace hlow := hlow.ext ew5
  replace hB := ew5.z hB
  have hS : Ext w5 w5 := ext_refl _
  have D_hn := hn
  have D_hk := hk
  have D_h3 := h3
  refine a_p 0 tK rfl rfl rfl rfl (by kernel_rfl) (fun _ _ _ h => h) hS ?_
  refine a_p 1 tK rfl rfl rfl rfl (by kernel_rfl) (fun _ _ _ h => h) hS ?_
  refine a_ld 2 tK (fun _ hs => (D_h3.ext hs).cell 9 _ rfl) rfl rfl rfl rfl rfl rfl (by kernel_rfl) (fun _ _ _ h => h) hS ?_
  have hl1 : (t.kids.length : Int) = 1 := by
   have h8 := shp_one (op := t.op) (by omega)
   rw [hrl h8.2, h8.1]
  have h0k : 0 < t.kids.length := by omega
  refine a_ixS 3 tK D_hk (List.getElem?_eq_getElem h0k) rfl rfl rfl rfl rfl rfl rfl rfl rfl rfl (by kernel_rfl) (fun _ _ _ _ h => h) hS ?_
  intro ebx0 eox0 eux0 hyx0 hatx0
  obtain ⟨akvx0, kvx0, rfl, opx0, nmx0, agx0, n64x0, hax0, hkx0⟩ := tm_open hyx0
  replace hatx0 : At M w5 ebx0 eox0 [.int .u8 t.kids[0].op, .string t.kids[0].name, .string t.kids[0].arg, .int .i64 t.kids[0].n, .bool t.kids[0].has, .int .u8 t.kids[0].ann.op, .string t.kids[0].ann.name, .int .i64 t.kids[0].ann.n, akvx0, kvx0] := hatx0
  refine a_lds 4 tK (fun _ hs j v hv => (hatx0.ext hs).cell j v hv) rfl rfl rfl rfl rfl rfl rfl (by kernel_rfl) (fun _ _ _ h => h) hS ?_
  refine a_p 5 tK rfl rfl rfl rfl (by kernel_rfl) (fun _ _ _ h => h) hS ?_
  refine a_ld 6 tK (fun _ hs => (D_h3.ext hs).cell 2 _ rfl) rfl rfl rfl rfl rfl rfl (by kernel_rfl) (fun _ _ _ h => h) hS ?_
  refine a_one 7 rfl (by kernel_rfl) (o_bs tK rfl rfl rfl rfl rfl rfl rfl (sz1 rfl) rfl rfl rfl ?_)
  intro bw6 w6 qbw6 ew6 hbw6
  have nbw6 := nM_of hlow qbw6
  replace hS := hS.then ew6
  replace hT := hT.then (Stp.ext ew6 hlow hB)
  replace hfr := hfr.ext hlow hB ew6
  replace hm := hm.ext hlow hB ew6
  replace hf := hf.ext hlow hB ew6
  replace hn := hn.ext ew6
  replace ht := Rep.ext ht ew6
  replace ha := Rep.ext ha ew6
  replace hk := hk.ext ew6
  replace h3 := h3.ext ew6
  replace hyx0 := Rep.ext hyx0 ew6
  replace hax0 := Rep.ext hax0 ew6
  replace hkx0 := hkx0.ext ew6
  replace hatx0 := hatx0.ext ew6
  replace hlow := hlow.ext ew6
  replace hB := ew6.z hB
  refine ⟨hS, ?_⟩
  have hs : Sl M w6 (.slice (some ⟨bw6, 0, none⟩) 1 1) [t.arg] := lit_sl hbw6 nbw6 (show Rs _ _ [_] [t.arg] from ⟨⟨rfl, ag⟩, trivial⟩) (by simp)
  obtain ⟨bk, hbk⟩ := hrk _ (List.getElem_mem h0k)
  have hz9 := hkz _ (List.getElem_mem h0k)
  refine a_barS Ext 8 rfl (by kernel_rfl) (by kernel_rfl) (o_call fo126 rfl rfl rfl (within_of t.kids[0] (ih _ (List.getElem_mem h0k)) [t.arg] K x M _ B _ _ np bm fm bk hbk hyx0 hs hn hm hf hne hlow hB hbx (by simp) (by omega)) ?_)
  rintro _ w7 ⟨rfl, hmw7, hfw7, sw7, kw7⟩
  have frw7 : ∀ x, x < w6.heap.size → ¬ (x = bm ∨ x = fm) → w7.heap[x]? = w6.heap[x]? := fun x hx hn => kw7.blk x ⟨hx, hn⟩
  replace hT := hT.then sw7
  replace hfr := hfr.stp sw7 (fun x hx => frw7 x (hfr.lt x hx).2 hx.2)
  replace hn := hn.stp sw7
  replace ht := Rep.stp ht sw7
  replace ha := Rep.stp ha sw7
  replace hk := hk.stp sw7
  replace h3 := h3.stp sw7
  replace hyx0 := Rep.stp hyx0 sw7
  replace hax0 := Rep.stp hax0 sw7
  replace hkx0 := hkx0.stp sw7
  replace hatx0 := hatx0.stp sw7
  replace hs := hs.stp sw7
  replace hlow := sw7.low
  replace hB := sw7.z hB
  replace hS : Ext w7 w7 := ext_refl _
  replace hm := hmw7
  replace hf := hfw7
  clear hmw7 hfw7
  have D_hn := hn
  have D_hk := hk
  have D_h3 := h3
  have D_hkx0 := hkx0
  have D_hatx0 := hatx0
  have D_hs := hs
  refine a_end (by kernel_rfl) ?_
  refine x_blk ?_
  refine x_ret0n rfl ?_
  rw [down_one (by omega) h0k]
  exact ⟨rfl, hm, hf, hT, hfr⟩
 refine q0 (l_p 2 tK rfl (q1 ?_))
 refine c_splitP 35 _ rfl (fun c4 => c_ifT rfl ?_) (fun c4 => c_ifF rfl ?_)
 ·refine c_skip (x_seq (c_ifT rfl ?_))
  refine a_beg Ext rfl ?_
  intro w8 ew8
  replace hT := hT.then (Stp.ext ew8 hlow hB)
  replace hfr := hfr.ext hlow hB ew8
  replace hm := hm.ext hlow hB ew8
  replace hf := hf.ext hlow hB ew8
  replace hn := hn.ext ew8
  replace ht := Rep.ext ht ew8
  replace ha := Rep.ext ha ew8
  replace hk := hk.ext ew8
  replace h3 := h3.ext ew8
  replace hlow := hlow.ext ew8
  replace hB := ew8.z hB
  have hS : Ext w8 w8 := ext_refl _
  have D_hn := hn
  have D_hk := hk
  have D_h3 := h3
  refine a_p 0 tK rfl rfl rfl rfl (by kernel_rfl) (fun _ _ _ h => h) hS ?_
  refine a_p 1 tK rfl rfl rfl rfl (by kernel_rfl) (fun _ _ _ h => h) hS ?_
  refine a_ld 2 tK (fun _ hs => (D_h3.ext hs).cell 9 _ rfl) rfl rfl rfl rfl rfl rfl (by kernel_rfl) (fun _ _ _ h => h) hS ?_
  have hl1 : (t.kids.length : Int) = 1 := by
   have h8 := shp_one (op := t.op) (by omega)
   rw [hrl h8.2, h8.1]
  have h0k : 0 < t.kids.length := by omega
  refine a_ixS 3 tK D_hk (List.getElem?_eq_getElem h0k) rfl rfl rfl rfl rfl rfl rfl rfl rfl rfl (by kernel_rfl) (fun _ _ _ _ h => h) hS ?_
  intro ebx0 eox0 eux0 hyx0 hatx0
  obtain ⟨akvx0, kvx0, rfl, opx0, nmx0, agx0, n64x0, hax0, hkx0⟩ := tm_open hyx0
  replace hatx0 : At M w8 ebx0 eox0 [.int .u8 t.kids[0].op, .string t.kids[0].name, .string t.kids[0].arg, .int .i64 t.kids[0].n, .bool t.kids[0].has, .int .u8 t.kids[0].ann.op, .string t.kids[0].ann.name, .int .i64 t.kids[0].ann.n, akvx0, kvx0] := hatx0
  refine a_lds 4 tK (fun _ hs j v hv => (hatx0.ext hs).cell j v hv) rfl rfl rfl rfl rfl rfl rfl (by kernel_rfl) (fun _ _ _ h => h) hS ?_
  refine a_p 5 tK rfl rfl rfl rfl (by kernel_rfl) (fun _ _ _ h => h) hS ?_
  refine a_ld 6 tK (fun _ hs => (D_h3.ext hs).cell 2 _ rfl) rfl rfl rfl rfl rfl rfl (by kernel_rfl) (fun _ _ _ h => h) hS ?_
  refine a_one 7 rfl (by kernel_rfl) (o_bs tK rfl rfl rfl rfl rfl rfl rfl (sz1 rfl) rfl rfl rfl ?_)
  intro bw9 w9 qbw9 ew9 hbw9
  have nbw9 := nM_of hlow qbw9
  replace hS := hS.then ew9
  replace hT := hT.then (Stp.ext ew9 hlow hB)
  replace hfr := hfr.ext hlow hB ew9
  replace hm := hm.ext hlow hB ew9
  replace hf := hf.ext hlow hB ew9
  replace hn := hn.ext ew9
  replace ht := Rep.ext ht ew9
  replace ha := Rep.ext ha ew9
  replace hk := hk.ext ew9
  replace h3 := h3.ext ew9
  replace hyx0 := Rep.ext hyx0 ew9
  replace hax0 := Rep.ext hax0 ew9
  replace hkx0 := hkx0.ext ew9
  replace hatx0 := hatx0.ext ew9
  replace hlow := hlow.ext ew9
  replace hB := ew9.z hB
  refine ⟨hS, ?_⟩
  have hs : Sl M w9 (.slice (some ⟨bw9, 0, none⟩) 1 1) [t.arg] := lit_sl hbw9 nbw9 (show Rs _ _ [_] [t.arg] from ⟨⟨rfl, ag⟩, trivial⟩) (by simp)
  obtain ⟨bk, hbk⟩ := hrk _ (List.getElem_mem h0k)
  have hz9 := hkz _ (List.getElem_mem h0k)
  refine a_barS Ext 8 rfl (by kernel_rfl) (by kernel_rfl) (o_call fo126 rfl rfl rfl (within_of t.kids[0] (ih _ (List.getElem_mem h0k)) [t.arg] K x M _ B _ _ np bm fm bk hbk hyx0 hs hn hm hf hne hlow hB hbx (by simp) (by omega)) ?_)
  rintro _ w10 ⟨rfl, hmw10, hfw10, sw10, kw10⟩
  have frw10 : ∀ x, x < w9.heap.size → ¬ (x = bm ∨ x = fm) → w10.heap[x]? = w9.heap[x]? := fun x hx hn => kw10.blk x ⟨hx, hn⟩
  replace hT := hT.then sw10
  replace hfr := hfr.stp sw10 (fun x hx => frw10 x (hfr.lt x hx).2 hx.2)
  replace hn := hn.stp sw10
  replace ht := Rep.stp ht sw10
  replace ha := Rep.stp ha sw10
  replace hk := hk.stp sw10
  replace h3 := h3.stp sw10
  replace hyx0 := Rep.stp hyx0 sw10
  replace hax0 := Rep.stp hax0 sw10
  replace hkx0 := hkx0.stp sw10
  replace hatx0 := hatx0.stp sw10
  replace hs := hs.stp sw10
  replace hlow := sw10.low
  replace hB := sw10.z hB
  replace hS : Ext w10 w10 := ext_refl _
  replace hm := hmw10
  replace hf := hfw10
  clear hmw10 hfw10
  have D_hn := hn
  have D_hk := hk
  have D_h3 := h3
  have D_hkx0 := hkx0
  have D_hatx0 := hatx0
  have D_hs := hs
  refine a_end (by kernel_rfl) ?_
  refine x_blk ?_
  refine x_ret0n rfl ?_
  rw [down_one (by omega) h0k]
  exact ⟨rfl, hm, hf, hT, hfr⟩
 refine c_reg (l_p 2 tK rfl (q1 ?_))
 refine c_splitP 35 _ rfl (fun c5 => c_ifT rfl ?_) (fun c5 => c_ifF rfl ?_)
 ·refine a_beg Ext rfl ?_
  intro w11 ew11
  replace hT := hT.then (Stp.ext ew11 hlow hB)
  replace hfr := hfr.ext hlow hB ew11
  replace hm := hm.ext hlow hB ew11
  replace hf := hf.ext hlow hB ew11
  replace hn := hn.ext ew11
  replace ht := Rep.ext ht ew11
  replace ha := Rep.ext ha ew11
  replace hk := hk.ext ew11
  replace h3 := h3.ext ew11
  replace hlow := hlow.ext ew11
  replace hB := ew11.z hB
  have hS : Ext w11 w11 := ext_refl _
  have D_hn := hn
  have D_hk := hk
  have D_h3 := h3
  refine a_p 0 tK rfl rfl rfl rfl (by kernel_rfl) (fun _ _ _ h => h) hS ?_
  refine a_p 1 tK rfl rfl rfl rfl (by kernel_rfl) (fun _ _ _ h => h) hS ?_
  refine a_ld 2 tK (fun _ hs => (D_h3.ext hs).cell 9 _ rfl) rfl rfl rfl rfl rfl rfl (by kernel_rfl) (fun _ _ _ h => h) hS ?_
  have hl1 : (t.kids.length : Int) = 1 := by
   have h8 := shp_one (op := t.op) (by omega)
   rw [hrl h8.2, h8.1]
  have h0k : 0 < t.kids.length := by omega
  refine a_ixS 3 tK D_hk (List.getElem?_eq_getElem h0k) rfl rfl rfl rfl rfl rfl rfl rfl rfl rfl (by kernel_rfl) (fun _ _ _ _ h => h) hS ?_
  intro ebx0 eox0 eux0 hyx0 hatx0
  obtain ⟨akvx0, kvx0, rfl, opx0, nmx0, agx0, n64x0, hax0, hkx0⟩ := tm_open hyx0
  replace hatx0 : At M w11 ebx0 eox0 [.int .u8 t.kids[0].op, .string t.kids[0].name, .string t.kids[0].arg, .int .i64 t.kids[0].n, .bool t.kids[0].has, .int .u8 t.kids[0].ann.op, .string t.kids[0].ann.name, .int .i64 t.kids[0].ann.n, akvx0, kvx0] := hatx0
  refine a_lds 4 tK (fun _ hs j v hv => (hatx0.ext hs).cell j v hv) rfl rfl rfl rfl rfl rfl rfl (by kernel_rfl) (fun _ _ _ h => h) hS ?_
  refine a_p 5 tK rfl rfl rfl rfl (by kernel_rfl) (fun _ _ _ h => h) hS ?_
  refine a_ld 6 tK (fun _ hs => (D_h3.ext hs).cell 2 _ rfl) rfl rfl rfl rfl rfl rfl (by kernel_rfl) (fun _ _ _ h => h) hS ?_
  refine a_one 7 rfl (by kernel_rfl) (o_bs tK rfl rfl rfl rfl rfl rfl rfl (sz1 rfl) rfl rfl rfl ?_)
  intro bw12 w12 qbw12 ew12 hbw12
  have nbw12 := nM_of hlow qbw12
  replace hS := hS.then ew12
  replace hT := hT.then (Stp.ext ew12 hlow hB)
  replace hfr := hfr.ext hlow hB ew12
  replace hm := hm.ext hlow hB ew12
  replace hf := hf.ext hlow hB ew12
  replace hn := hn.ext ew12
  replace ht := Rep.ext ht ew12
  replace ha := Rep.ext ha ew12
  replace hk := hk.ext ew12
  replace h3 := h3.ext ew12
  replace hyx0 := Rep.ext hyx0 ew12
  replace hax0 := Rep.ext hax0 ew12
  replace hkx0 := hkx0.ext ew12
  replace hatx0 := hatx0.ext ew12
  replace hlow := hlow.ext ew12
  replace hB := ew12.z hB
  refine ⟨hS, ?_⟩
  have hs : Sl M w12 (.slice (some ⟨bw12, 0, none⟩) 1 1) [t.arg] := lit_sl hbw12 nbw12 (show Rs _ _ [_] [t.arg] from ⟨⟨rfl, ag⟩, trivial⟩) (by simp)
  obtain ⟨bk, hbk⟩ := hrk _ (List.getElem_mem h0k)
  have hz9 := hkz _ (List.getElem_mem h0k)
  refine a_barS Ext 8 rfl (by kernel_rfl) (by kernel_rfl) (o_call fo126 rfl rfl rfl (within_of t.kids[0] (ih _ (List.getElem_mem h0k)) [t.arg] K x M _ B _ _ np bm fm bk hbk hyx0 hs hn hm hf hne hlow hB hbx (by simp) (by omega)) ?_)
  rintro _ w13 ⟨rfl, hmw13, hfw13, sw13, kw13⟩
  have frw13 : ∀ x, x < w12.heap.size → ¬ (x = bm ∨ x = fm) → w13.heap[x]? = w12.heap[x]? := fun x hx hn => kw13.blk x ⟨hx, hn⟩
  replace hT := hT.then sw13
  replace hfr := hfr.stp sw13 (fun x hx => frw13 x (hfr.lt x hx).2 hx.2)
  replace hn := hn.stp sw13
  replace ht := Rep.stp ht sw13
  replace ha := Rep.stp ha sw13
  replace hk := hk.stp sw13
  replace h3 := h3.stp sw13
  replace hyx0 := Rep.stp hyx0 sw13
  replace hax0 := Rep.stp hax0 sw13
  replace hkx0 := hkx0.stp sw13
  replace hatx0 := hatx0.stp sw13
  replace hs := hs.stp sw13
  replace hlow := sw13.low
  replace hB := sw13.z hB
  replace hS : Ext w13 w13 := ext_refl _
  replace hm := hmw13
  replace hf := hfw13
  clear hmw13 hfw13
  have D_hn := hn
  have D_hk := hk
  have D_h3 := h3
  have D_hkx0 := hkx0
  have D_hatx0 := hatx0
  have D_hs := hs
  refine a_end (by kernel_rfl) ?_
  refine x_blk ?_
  refine x_ret0n rfl ?_
  rw [down_one (by omega) h0k]
  exact ⟨rfl, hm, hf, hT, hfr⟩
 refine q0 (l_p 2 tK rfl (q1 ?_))
 refine c_ifP _ rfl (fun c6 => ?_) (fun c6 => ?_)
 ·refine a_beg Ext rfl ?_
  intro w14 ew14
  replace hT := hT.then (Stp.ext ew14 hlow hB)
  replace hfr := hfr.ext hlow hB ew14
  replace hm := hm.ext hlow hB ew14
  replace hf := hf.ext hlow hB ew14
  replace hn := hn.ext ew14
  replace ht := Rep.ext ht ew14
  replace ha := Rep.ext ha ew14
  replace hk := hk.ext ew14
  replace h3 := h3.ext ew14
  replace hlow := hlow.ext ew14
  replace hB := ew14.z hB
  have hS : Ext w14 w14 := ext_refl _
  have D_hn := hn
  have D_hk := hk
  have D_h3 := h3
  refine a_p 0 tK rfl rfl rfl rfl (by kernel_rfl) (fun _ _ _ h => h) hS ?_
  refine a_p 1 tK rfl rfl rfl rfl (by kernel_rfl) (fun _ _ _ h => h) hS ?_
  refine a_ld 2 tK (fun _ hs => (D_h3.ext hs).cell 9 _ rfl) rfl rfl rfl rfl rfl rfl (by kernel_rfl) (fun _ _ _ h => h) hS ?_
  have hl1 : (t.kids.length : Int) = 1 := by
   have h8 := shp_one (op := t.op) (by omega)
   rw [hrl h8.2, h8.1]
  have h0k : 0 < t.kids.length := by omega
  refine a_ixS 3 tK D_hk (List.getElem?_eq_getElem h0k) rfl rfl rfl rfl rfl rfl rfl rfl rfl rfl (by kernel_rfl) (fun _ _ _ _ h => h) hS ?_
  intro ebx0 eox0 eux0 hyx0 hatx0
  obtain ⟨akvx0, kvx0, rfl, opx0, nmx0, agx0, n64x0, hax0, hkx0⟩ := tm_open hyx0
  replace hatx0 : At M w14 ebx0 eox0 [.int .u8 t.kids[0].op, .string t.kids[0].name, .string t.kids[0].arg, .int .i64 t.kids[0].n, .bool t.kids[0].has, .int .u8 t.kids[0].ann.op, .string t.kids[0].ann.name, .int .i64 t.kids[0].ann.n, akvx0, kvx0] := hatx0
  refine a_lds 4 tK (fun _ hs j v hv => (hatx0.ext hs).cell j v hv) rfl rfl rfl rfl rfl rfl rfl (by kernel_rfl) (fun _ _ _ h => h) hS ?_
  refine a_p 5 tK rfl rfl rfl rfl (by kernel_rfl) (fun _ _ _ h => h) hS ?_
  refine a_ld 6 tK (fun _ hs => (D_h3.ext hs).cell 1 _ rfl) rfl rfl rfl rfl rfl rfl (by kernel_rfl) (fun _ _ _ h => h) hS ?_
  refine a_p 7 tK rfl rfl rfl rfl (by kernel_rfl) (fun _ _ _ h => h) hS ?_
  refine a_ld 8 tK (fun _ hs => (D_h3.ext hs).cell 2 _ rfl) rfl rfl rfl rfl rfl rfl (by kernel_rfl) (fun _ _ _ h => h) hS ?_
  refine a_one 9 rfl (by kernel_rfl) (o_bs tK rfl rfl rfl rfl rfl rfl rfl (by intro v hv; simp at hv; rcases hv with rfl | rfl <;> rfl) rfl rfl rfl ?_)
  intro bw15 w15 qbw15 ew15 hbw15
  have nbw15 := nM_of hlow qbw15
  replace hS := hS.then ew15
  replace hT := hT.then (Stp.ext ew15 hlow hB)
  replace hfr := hfr.ext hlow hB ew15
  replace hm := hm.ext hlow hB ew15
  replace hf := hf.ext hlow hB ew15
  replace hn := hn.ext ew15
  replace ht := Rep.ext ht ew15
  replace ha := Rep.ext ha ew15
  replace hk := hk.ext ew15
  replace h3 := h3.ext ew15
  replace hyx0 := Rep.ext hyx0 ew15
  replace hax0 := Rep.ext hax0 ew15
  replace hkx0 := hkx0.ext ew15
  replace hatx0 := hatx0.ext ew15
  replace hlow := hlow.ext ew15
  replace hB := ew15.z hB
  refine ⟨hS, ?_⟩
  have hs : Sl M w15 (.slice (some ⟨bw15, 0, none⟩) 2 2) [t.name, t.arg] := lit_sl hbw15 nbw15 (show Rs _ _ [_, _] [t.name, t.arg] from ⟨⟨rfl, nm⟩, ⟨rfl, ag⟩, trivial⟩) (by simp)
  obtain ⟨bk, hbk⟩ := hrk _ (List.getElem_mem h0k)
  have hz9 := hkz _ (List.getElem_mem h0k)
  refine a_barS Ext 10 rfl (by kernel_rfl) (by kernel_rfl) (o_call fo126 rfl rfl rfl (within_of t.kids[0] (ih _ (List.getElem_mem h0k)) [t.name, t.arg] K x M _ B _ _ np bm fm bk hbk hyx0 hs hn hm hf hne hlow hB hbx (by simp) (by omega)) ?_)
  rintro _ w16 ⟨rfl, hmw16, hfw16, sw16, kw16⟩
  have frw16 : ∀ x, x < w15.heap.size → ¬ (x = bm ∨ x = fm) → w16.heap[x]? = w15.heap[x]? := fun x hx hn => kw16.blk x ⟨hx, hn⟩
  replace hT := hT.then sw16
  replace hfr := hfr.stp sw16 (fun x hx => frw16 x (hfr.lt x hx).2 hx.2)
  replace hn := hn.stp sw16
  replace ht := Rep.stp ht sw16
  replace ha := Rep.stp ha sw16
  replace hk := hk.stp sw16
  replace h3 := h3.stp sw16
  replace hyx0 := Rep.stp hyx0 sw16
  replace hax0 := Rep.stp hax0 sw16
  replace hkx0 := hkx0.stp sw16
  replace hatx0 := hatx0.stp sw16
  replace hs := hs.stp sw16
  replace hlow := sw16.low
  replace hB := sw16.z hB
  replace hS : Ext w16 w16 := ext_refl _
  replace hm := hmw16
  replace hf := hfw16
  clear hmw16 hfw16
  have D_hn := hn
  have D_hk := hk
  have D_h3 := h3
  have D_hkx0 := hkx0
  have D_hatx0 := hatx0
  have D_hs := hs
  refine a_end (by kernel_rfl) ?_
  refine x_blk ?_
  refine x_ret0n rfl ?_
  rw [down_rec (by omega) h0k]
  exact ⟨rfl, hm, hf, hT, hfr⟩
 refine q0 (l_p 2 tK rfl (q1 ?_))
 refine c_ifP _ rfl (fun c7 => ?_) (fun c7 => ?_)
 ·refine q0 (l_p 2 tK rfl ?_)
  refine lC (o_ld tK (h3.cell 9 _ rfl) rfl rfl rfl rfl rfl ?_)
  have hl1 : (t.kids.length : Int) = 2 := by
   have h8 := shp_two (op := t.op) (by omega)
   rw [hrl h8.2, h8.1]
  have h0k : 0 < t.kids.length := by omega
  refine lC (o_ixS tK hk (List.getElem?_eq_getElem h0k) rfl rfl rfl rfl rfl rfl rfl rfl rfl ?_)
  intro ebx0 eox0 eux0 hyx0 hatx0
  obtain ⟨akvx0, kvx0, rfl, opx0, nmx0, agx0, n64x0, hax0, hkx0⟩ := tm_open hyx0
  replace hatx0 : At M w1 ebx0 eox0 [.int .u8 t.kids[0].op, .string t.kids[0].name, .string t.kids[0].arg, .int .i64 t.kids[0].n, .bool t.kids[0].has, .int .u8 t.kids[0].ann.op, .string t.kids[0].ann.name, .int .i64 t.kids[0].ann.n, akvx0, kvx0] := hatx0
  refine lC (o_lds tK (fun j v hv => hatx0.cell j v hv) rfl rfl rfl rfl rfl rfl ?_)
  obtain ⟨bk0, hbk0⟩ := hrk _ (List.getElem_mem h0k)
  have hz8 := hkz _ (List.getElem_mem h0k)
  refine lC (o_call fo110 rfl rfl rfl (ih _ (List.getElem_mem h0k) K x M _ B _ np bm fm bk0 hbk0 hyx0 hn hm hf hne hlow hB hbx (by omega)) ?_)
  rintro _ w17 ⟨rfl, hmw17, hfw17, sw17, kw17⟩
  have frw17 : ∀ x, x < w1.heap.size → ¬ (x = bm ∨ x = fm) → w17.heap[x]? = w1.heap[x]? := fun x hx hn => kw17.blk x ⟨hx, hn⟩
  replace hT := hT.then sw17
  replace hfr := hfr.stp sw17 (fun x hx => frw17 x (hfr.lt x hx).2 hx.2)
  replace hn := hn.stp sw17
  replace ht := Rep.stp ht sw17
  replace ha := Rep.stp ha sw17
  replace hk := hk.stp sw17
  replace h3 := h3.stp sw17
  replace hyx0 := Rep.stp hyx0 sw17
  replace hax0 := Rep.stp hax0 sw17
  replace hkx0 := hkx0.stp sw17
  replace hatx0 := hatx0.stp sw17
  replace hlow := sw17.low
  replace hB := sw17.z hB
  replace hm := hmw17
  replace hf := hfw17
  clear hmw17 hfw17
  refine q1 ?_
  refine a_beg Ext rfl ?_
  intro w18 ew18
  replace hT := hT.then (Stp.ext ew18 hlow hB)
  replace hfr := hfr.ext hlow hB ew18
  replace hm := hm.ext hlow hB ew18
  replace hf := hf.ext hlow hB ew18
  replace hn := hn.ext ew18
  replace ht := Rep.ext ht ew18
  replace ha := Rep.ext ha ew18
  replace hk := hk.ext ew18
  replace h3 := h3.ext ew18
  replace hyx0 := Rep.ext hyx0 ew18
  replace hax0 := Rep.ext hax0 ew18
  replace hkx0 := hkx0.ext ew18
  replace hatx0 := hatx0.ext ew18
  replace hlow := hlow.ext ew18
  replace hB := ew18.z hB
  have hS : Ext w18 w18 := ext_refl _
  have D_hn := hn
  have D_hk := hk
  have D_h3 := h3
  have D_hkx0 := hkx0
  have D_hatx0 := hatx0
  refine a_p 0 tK rfl rfl rfl rfl (by kernel_rfl) (fun _ _ _ h => h) hS ?_
  refine a_p 1 tK rfl rfl rfl rfl (by kernel_rfl) (fun _ _ _ h => h) hS ?_
  refine a_ld 2 tK (fun _ hs => (D_h3.ext hs).cell 9 _ rfl) rfl rfl rfl rfl rfl rfl (by kernel_rfl) (fun _ _ _ h => h) hS ?_
  have h1k : 1 < t.kids.length := by omega
  refine a_ixS 3 tK D_hk (List.getElem?_eq_getElem h1k) rfl rfl rfl rfl rfl rfl rfl rfl rfl rfl (by kernel_rfl) (fun _ _ _ _ h => h) hS ?_
  intro ebx1 eox1 eux1 hyx1 hatx1
  obtain ⟨akvx1, kvx1, rfl, opx1, nmx1, agx1, n64x1, hax1, hkx1⟩ := tm_open hyx1
  replace hatx1 : At M w18 ebx1 eox1 [.int .u8 t.kids[1].op, .string t.kids[1].name, .string t.kids[1].arg, .int .i64 t.kids[1].n, .bool t.kids[1].has, .int .u8 t.kids[1].ann.op, .string t.kids[1].ann.name, .int .i64 t.kids[1].ann.n, akvx1, kvx1] := hatx1
  refine a_lds 4 tK (fun _ hs j v hv => (hatx1.ext hs).cell j v hv) rfl rfl rfl rfl rfl rfl rfl (by kernel_rfl) (fun _ _ _ h => h) hS ?_
  refine a_p 5 tK rfl rfl rfl rfl (by kernel_rfl) (fun _ _ _ h => h) hS ?_
  refine a_ld 6 tK (fun _ hs => (D_h3.ext hs).cell 1 _ rfl) rfl rfl rfl rfl rfl rfl (by kernel_rfl) (fun _ _ _ h => h) hS ?_
  refine a_one 7 rfl (by kernel_rfl) (o_bs tK rfl rfl rfl rfl rfl rfl rfl (sz1 rfl) rfl rfl rfl ?_)
  intro bw19 w19 qbw19 ew19 hbw19
  have nbw19 := nM_of hlow qbw19
  replace hS := hS.then ew19
  replace hT := hT.then (Stp.ext ew19 hlow hB)
  replace hfr := hfr.ext hlow hB ew19
  replace hm := hm.ext hlow hB ew19
  replace hf := hf.ext hlow hB ew19
  replace hn := hn.ext ew19
  replace ht := Rep.ext ht ew19
  replace ha := Rep.ext ha ew19
  replace hk := hk.ext ew19
  replace h3 := h3.ext ew19
  replace hyx0 := Rep.ext hyx0 ew19
  replace hax0 := Rep.ext hax0 ew19
  replace hkx0 := hkx0.ext ew19
  replace hatx0 := hatx0.ext ew19
  replace hyx1 := Rep.ext hyx1 ew19
  replace hax1 := Rep.ext hax1 ew19
  replace hkx1 := hkx1.ext ew19
  replace hatx1 := hatx1.ext ew19
  replace hlow := hlow.ext ew19
  replace hB := ew19.z hB
  refine ⟨hS, ?_⟩
  have hs : Sl M w19 (.slice (some ⟨bw19, 0, none⟩) 1 1) [t.name] := lit_sl hbw19 nbw19 (show Rs _ _ [_] [t.name] from ⟨⟨rfl, nm⟩, trivial⟩) (by simp)
  obtain ⟨bk, hbk⟩ := hrk _ (List.getElem_mem h1k)
  have hz9 := hkz _ (List.getElem_mem h1k)
  refine a_barS Ext 8 rfl (by kernel_rfl) (by kernel_rfl) (o_call fo126 rfl rfl rfl (within_of t.kids[1] (ih _ (List.getElem_mem h1k)) [t.name] K (downF t.kids[0] x) M _ B _ _ np bm fm bk hbk hyx1 hs hn hm hf hne hlow hB (fun s => by rw [down_same]; exact hbx s) (by simp) (by omega)) ?_)
  rintro _ w20 ⟨rfl, hmw20, hfw20, sw20, kw20⟩
  have frw20 : ∀ x, x < w19.heap.size → ¬ (x = bm ∨ x = fm) → w20.heap[x]? = w19.heap[x]? := fun x hx hn => kw20.blk x ⟨hx, hn⟩
  replace hT := hT.then sw20
  replace hfr := hfr.stp sw20 (fun x hx => frw20 x (hfr.lt x hx).2 hx.2)
  replace hn := hn.stp sw20
  replace ht := Rep.stp ht sw20
  replace ha := Rep.stp ha sw20
  replace hk := hk.stp sw20
  replace h3 := h3.stp sw20
  replace hyx0 := Rep.stp hyx0 sw20
  replace hax0 := Rep.stp hax0 sw20
  replace hkx0 := hkx0.stp sw20
  replace hatx0 := hatx0.stp sw20
  replace hyx1 := Rep.stp hyx1 sw20
  replace hax1 := Rep.stp hax1 sw20
  replace hkx1 := hkx1.stp sw20
  replace hatx1 := hatx1.stp sw20
  replace hs := hs.stp sw20
  replace hlow := sw20.low
  replace hB := sw20.z hB
  replace hS : Ext w20 w20 := ext_refl _
  replace hm := hmw20
  replace hf := hfw20
  clear hmw20 hfw20
  have D_hn := hn
  have D_hk := hk
  have D_h3 := h3
  have D_hkx0 := hkx0
  have D_hatx0 := hatx0
  have D_hkx1 := hkx1
  have D_hatx1 := hatx1
  have D_hs := hs
  refine a_end (by kernel_rfl) ?_
  refine x_blk ?_
  refine x_ret0n rfl ?_
  rw [down_let (by omega) h1k]
  exact ⟨rfl, hm, hf, hT, hfr⟩
 refine q0 (l_p 1 tK rfl ?_)
 refine lC (o_ld tK (h3.cell 9 _ rfl) rfl rfl rfl rfl rfl ?_)
 refine lC (o_len tK hk rfl rfl rfl rfl rfl ?_)
 refine l_p 1 tK rfl (q1 (c_blk ?_))
 refine c_loop (X := Nat) (fun i => [(0, .pointer (some ⟨np, 0, none⟩)), (9, kv), (10, .int .i64 (t.kids.length : Int)), (11, .int .i64 (i : Nat))]) (fun i w' => i ≤ t.kids.length ∧ OM (κ := ByteArray) (fun x : Int => Value.int .i64 x) B M w' bm ((foldD (t.kids.take i) x).1) ∧ OM (κ := ByteArray) (fun x : Bool => Value.bool x) B M w' fm ((foldD (t.kids.take i) x).2) ∧ At M w' np 0 [.map (some bm), .map (some fm)] ∧ Stp B M M w w' ∧ Kept w w' (Out (fun z => z = bm ∨ z = fm) w) ∧ Low M w' ∧ B ≤ w'.heap.size ∧ Sl M w' kv t.kids) (fun i => t.kids.length - i) (0) (s4 rfl rfl rfl rfl) ?_ ?_
 ·exact ⟨Nat.zero_le _, hm, hf, hn, hT, hfr, hlow, hB, hk⟩
 clear hm hf hn hT hfr hlow hB hk ht ha h3
 rintro i w21 ⟨hi, hm, hf, hn, hT, hfr, hlow, hB, hk⟩
 refine q0 (l_p 1 tK rfl (q1 (c_seq ?_)))
 refine c_ifP _ rfl (fun c8 => ?_) (fun c8 => ?_)
 ·refine c_skip (x_seq (c_seq (c_blk (q0 ?_))))
  have hik : i < t.kids.length := by omega
  refine lC (o_ixS tK hk (List.getElem?_eq_getElem hik) rfl rfl rfl rfl rfl rfl rfl rfl rfl ?_)
  intro ebx eox eux hyx hatx
  obtain ⟨akvx, kvx, rfl, opx, nmx, agx, n64x, hax, hkx⟩ := tm_open hyx
  replace hatx : At M w21 ebx eox [.int .u8 t.kids[i].op, .string t.kids[i].name, .string t.kids[i].arg, .int .i64 t.kids[i].n, .bool t.kids[i].has, .int .u8 t.kids[i].ann.op, .string t.kids[i].ann.name, .int .i64 t.kids[i].ann.n, akvx, kvx] := hatx
  refine lC (o_lds tK (fun j v hv => hatx.cell j v hv) rfl rfl rfl rfl rfl rfl ?_)
  refine lC (o_new tK rfl rfl rfl ?_)
  intro b5 w22 qb5 ew22 hb5
  have nb5 := nM_of hlow qb5
  refine lC (o_st tK hb5 rfl rfl rfl rfl (Rep.one hyx) rfl rfl ?_)
  intro w23 h5 uw23 bew23
  have ew23 : Ext w21 w23 := ew22.trans (bew23 _ (Nat.le_of_eq qb5.symm))
  replace hT := hT.then (Stp.ext ew23 hlow hB)
  replace hfr := hfr.ext hlow hB ew23
  replace hm := hm.ext hlow hB ew23
  replace hf := hf.ext hlow hB ew23
  replace hn := hn.ext ew23
  replace hk := hk.ext ew23
  replace hyx := Rep.ext hyx ew23
  replace hax := Rep.ext hax ew23
  replace hkx := hkx.ext ew23
  replace hatx := hatx.ext ew23
  replace hlow := hlow.ext ew23
  replace hB := ew23.z hB
  replace h5 : Box w23 b5 84 [.int .u8 t.kids[i].op, .string t.kids[i].name, .string t.kids[i].arg, .int .i64 t.kids[i].n, .bool t.kids[i].has, .int .u8 t.kids[i].ann.op, .string t.kids[i].ann.name, .int .i64 t.kids[i].ann.n, akvx, kvx] := h5
  replace h5 := h5.at nb5
  refine q1 (c_reg (l_p 1 tK rfl ?_))
  refine lC (o_lds tK (fun j v hv => h5.cell j v hv) rfl rfl rfl rfl rfl rfl ?_)
  obtain ⟨bk, hbk⟩ := hrk _ (List.getElem_mem hik)
  have hz9 := hkz _ (List.getElem_mem hik)
  refine lC (o_call fo110 rfl rfl rfl (ih _ (List.getElem_mem hik) K (foldD (t.kids.take i) x) M _ B _ np bm fm bk hbk hyx hn hm hf hne hlow hB (fun s => by rw [foldD_same]; exact hbx s) (by omega)) ?_)
  rintro _ w24 ⟨rfl, hmw24, hfw24, sw24, kw24⟩
  have frw24 : ∀ x, x < w23.heap.size → ¬ (x = bm ∨ x = fm) → w24.heap[x]? = w23.heap[x]? := fun x hx hn => kw24.blk x ⟨hx, hn⟩
  replace hT := hT.then sw24
  replace hfr := hfr.stp sw24 (fun x hx => frw24 x (hfr.lt x hx).2 hx.2)
  replace hn := hn.stp sw24
  replace hk := hk.stp sw24
  replace hyx := Rep.stp hyx sw24
  replace hax := Rep.stp hax sw24
  replace hkx := hkx.stp sw24
  replace hatx := hatx.stp sw24
  replace h5 := h5.stp sw24
  replace hlow := sw24.low
  replace hB := sw24.z hB
  replace hm := hmw24
  replace hf := hfw24
  clear hmw24 hfw24
  refine q2 (x_seq (c_reg ?_))
  refine lC (o_ai rfl rfl rfl (by omega) rfl rfl ?_)
  refine l_p 1 tK rfl (l_nil ?_)
  exact x_round (i + 1) (s4 rfl rfl rfl (get_num rfl (by omega))) ⟨by omega, by rw [foldD_step hik]; exact hm, by rw [foldD_step hik]; exact hf, hn, hT, hfr, hlow, hB, hk⟩ (by omega)
 refine c_exit (x_seqE (x_seqE (x_blkE (x_blk ?_))))
 refine x_ret0n rfl ?_
 obtain rfl : i = t.kids.length := by omega
 rw [List.take_of_length_le (Nat.le_refl _)] at hm hf
 rw [down_else (by omega)]
 exact ⟨rfl, hm, hf, hT, hfr⟩
end Go.Proofs.Ytohfnpmehgpphaa
namespace Rw
open Go Go.RowKit
def strT (x : List UInt8) : ByteArray := ⟨x.toArray⟩
/-- Texts, sorted. -/
def sortB (l : List ByteArray) : List ByteArray := ((l.map (·.data.toList)).mergeSort leB).map strT
theorem strT_data (s : ByteArray) : strT s.data.toList = s := by cases s; simp [strT]
theorem sortB_perm (l : List ByteArray) : (sortB l).Perm l := by
  have h := ((List.mergeSort_perm (l.map (·.data.toList)) leB)).map strT
  rw [List.map_map, show (strT ∘ fun x : ByteArray => x.data.toList) = id from funext strT_data, List.map_id] at h
  exact h
theorem sort_of_perm {ss : List (List UInt8)} {l : List ByteArray} (h : ss.Perm (l.map (·.data.toList))) : (ss.mergeSort leB).map strT = sortB l := by
  rw [sortB, mergeSort_of_perm h]
section
variable {ν : Type} {va : ν → Value} {w : World} {b : Nat} {l : List (ByteArray × ν)} {P : Program} {k : TypeId}
theorem maps_own (hk : P.underlying k = some .string) (hm : MapL va w b l) (hl : l.length ≤ maxLen) (hs : ∀ p ∈ l, p.1.size ≤ maxLen) :
    ∃ D : DataW Unit, w.ownsMap P k (fun _ => some (.nil, [])) b l.length D ∧ Maps.size D = l.length ∧ (strKeys D).Perm (l.map (·.1.data.toList)) := by
  obtain ⟨es, clock, hb, hl2, hborn, hnd⟩ := hm.ex
  have hsz : es.size = l.length := by have := congrArg List.length hl2; simpa using this
  have hkeys : es.toList.map (·.key) = l.map (fun p => Value.string p.1) := by
    have := congrArg (List.map Prod.fst) hl2
    simpa [List.map_map, Function.comp_def, Key.val] using this
  have hkey : ∀ s : ByteArray, s.size ≤ maxLen → keyOf P k (.string s) = some (.string s.data.toList) := by
    intro s hs
    simp [keyOf, hk, mapKey, hs]
  have hrd : ∀ x ∈ es.toList, ∃ s : ByteArray, x.key = .string s ∧ WideElems.rd P k (fun _ => some ((.nil : DataW Unit), [])) x = some (.string s.data.toList, .nil) := by
    intro x hx
    have h1 : x.key ∈ l.map (fun p => Value.string p.1) := by rw [← hkeys]; exact List.mem_map.2 ⟨x, hx, rfl⟩
    obtain ⟨p, hp, he⟩ := List.mem_map.1 h1
    refine ⟨p.1, he.symm, ?_⟩
    unfold WideElems.rd
    rw [← he, hkey _ (hs p hp)]
    rfl
  have hmap : es.toList.map (fun x => strOf (WideElems.rg P k (fun _ => some ((.nil : DataW Unit), [])) x).1) = l.map (·.1.data.toList) := by
    have h2 : es.toList.map (fun x => strOf (WideElems.rg P k (fun _ => some ((.nil : DataW Unit), [])) x).1) = (es.toList.map (·.key)).map (fun v => match v with | .string s => s.data.toList | _ => []) := by
      rw [List.map_map]
      refine List.map_congr_left fun x hx => ?_
      obtain ⟨s, h3, h4⟩ := hrd x hx
      simp [WideElems.rg, h4, h3, strOf]
    rw [h2, hkeys, List.map_map]
    rfl
  refine ⟨.map ((es.toList.map (WideElems.rg P k (fun _ => some ((.nil : DataW Unit), [])))).foldr DataW.insert []), ⟨es, clock, hb, ⟨by omega, ⟨hborn, hnd, ?_⟩, fun x hx => let ⟨s, _, h⟩ := hrd x hx; ⟨_, h⟩⟩, by omega, rfl⟩, ?_, ?_⟩
  · rw [hkeys]
    have := hm.keys
    rw [show l.map (fun p => Value.string p.1) = (l.map (·.1)).map Value.string by rw [List.map_map]; rfl]
    exact (List.pairwise_map.2 (this.imp fun h e => h (by injection e)))
  · rw [Maps.size_eq, length_sorted, List.length_map, Array.length_toList, hsz]
  · show (List.map (fun p : Lit × DataW Unit => strOf p.1) _).Perm _
    rw [← hmap]
    have hins : ∀ L : List (Lit × DataW Unit), (L.foldr DataW.insert []).Perm L := by
      intro L
      induction L with
      | nil => exact .refl _
      | cons x L ih =>
        have h1 : ∀ (x : Lit × DataW Unit) (r : List (Lit × DataW Unit)), (DataW.insert x r).Perm (x :: r) := by
          intro x r
          induction r with
          | nil => exact .refl _
          | cons y r ihr =>
            unfold DataW.insert
            split
            · exact .refl _
            · exact (ihr.cons y).trans (.swap _ _ _)
        exact (h1 _ _).trans (ih.cons x)
    have := (hins (es.toList.map (WideElems.rg P k (fun _ => some ((.nil : DataW Unit), []))))).map (fun p => strOf p.1)
    rwa [List.map_map] at this
end
theorem row_texts {e B : Nat} {M : Nat → Prop} {w : World} {v : Value} {l : List ByteArray} (h : w.ownsRow B e 1 v l.length (l.map fun x => .string x)) (hl : l.length < 140737488355328) (hs : ∀ x ∈ l, x.size < 140737488355328) (hM : ∀ b, M b → b < B) : Sl M w v l := by
  have hR : ∀ l : List ByteArray, (∀ x ∈ l, x.size < 140737488355328) → Rs (fun _ => True) w (l.map fun x => .string x) l := by
    intro l
    induction l with
    | nil => intro _; trivial
    | cons x l ih => intro hs; exact ⟨⟨rfl, hs x List.mem_cons_self⟩, ih fun y hy => hs y (List.mem_cons_of_mem _ hy)⟩
  have hf : flat (l.map fun x => Value.string x) = l.map fun x => .string x := by
    clear h hl hs hR
    unfold flat
    induction l with
    | nil => rfl
    | cons x l ih => rw [List.map_cons, List.flatMap_cons, ih]; rfl
  have h2 : OwnSl e B (fun _ => True) w v l := ⟨⟨_, by rw [hf]; exact h, hR l hs⟩, fun _ _ => trivial⟩
  exact h2.sl hl hM (fun _ _ => trivial)
theorem rep_names (t : Tm) {M : Nat → Prop} {w : World} {v : Value} (h : Rep.R M w v t) : ∀ x ∈ nodesL t, x.name.size < 140737488355328 := by
  have h' : TmR M w t v := h
  clear h
  induction h' with
  | mk b off u hop hs hg hn hann hl hc ha hu hA ih =>
    intro x hx
    rw [nodesL_eq] at hx
    rcases List.mem_cons.1 hx with rfl | hx
    · exact hs
    · obtain ⟨k, hk, hx⟩ := List.mem_flatMap.1 hx
      obtain ⟨i, hi⟩ := List.mem_iff_getElem?.1 hk
      exact ih i k hi x hx
/-- What down makes of the names that are free. -/
def NK (n : Nat) (l : List (ByteArray × Bool)) : Prop := l.length ≤ n ∧ ∀ p ∈ l, p.1.size < 140737488355328
theorem NK.put {n : Nat} {l : List (ByteArray × Bool)} (h : NK n l) {s : ByteArray} (hs : s.size < 140737488355328) : NK (n + 1) (putK l s true) := by
  unfold putK
  split
  · refine ⟨by rw [List.length_set]; have := h.1; omega, fun p hp => ?_⟩
    rcases List.mem_or_eq_of_mem_set hp with hp | rfl
    · exact h.2 p hp
    · exact hs
  · refine ⟨by rw [List.length_append]; have := h.1; simp; omega, fun p hp => ?_⟩
    rcases List.mem_append.1 hp with hp | hp
    · exact h.2 p hp
    · simp at hp; subst hp; exact hs
theorem NK.mono {n m : Nat} {l : List (ByteArray × Bool)} (h : NK n l) (hn : n ≤ m) : NK m l := ⟨Nat.le_trans h.1 hn, h.2⟩
theorem NK.down (t : Tm) : (∀ x ∈ nodesL t, x.name.size < 140737488355328) → ∀ (n : Nat) (x : BF), NK n x.2 → NK (n + nsz t) (downF t x).2 := by
  refine Tm.ind (p := fun t => (∀ x ∈ nodesL t, x.name.size < 140737488355328) → ∀ (n : Nat) (x : BF), NK n x.2 → NK (n + nsz t) (downF t x).2) (fun t ih => ?_) t
  intro hs n x hx
  have hself : t.name.size < 140737488355328 := hs t (by rw [nodesL_eq]; exact List.mem_cons_self)
  have hkid : ∀ k ∈ t.kids, ∀ (n : Nat) (x : BF), NK n x.2 → NK (n + nsz k) (downF k x).2 := fun k hk => ih k hk fun y hy => hs y (by rw [nodesL_eq]; exact List.mem_cons_of_mem _ (List.mem_flatMap.2 ⟨k, hk, hy⟩))
  have hfold : ∀ (l : List Tm), (∀ k ∈ l, k ∈ t.kids) → ∀ (n : Nat) (x : BF), NK n x.2 → NK (n + nszs l) ((l.map downF).foldl (fun x g => g x) x).2 := by
    intro l
    induction l with
    | nil => intro _ n x h; exact h
    | cons k l ihl =>
      intro hk n x h
      rw [List.map_cons, List.foldl_cons, nszs_cons, ← Nat.add_assoc]
      exact ihl (fun y hy => hk y (List.mem_cons_of_mem _ hy)) _ _ (hkid k (hk k List.mem_cons_self) n x h)
  have hnz := nsz_eq t
  have hwith : ∀ (g : BF → BF) (ss : List ByteArray) (x : BF) (n m : Nat), (∀ x : BF, NK n x.2 → NK m (g x).2) → NK n x.2 → NK m (withF g ss x).2 := fun g ss x n m hg h => hg _ h
  have hhead : ∀ (n : Nat) (x : BF), NK n x.2 → NK (n + nszs t.kids) ((t.kids.map downF).headD id x).2 := by
    intro n x h
    cases hk : t.kids with
    | nil => exact h
    | cons k l => rw [nszs_cons]; exact (hkid k (by rw [hk]; exact List.mem_cons_self) n x h).mono (by omega)
  rw [downF_eq]
  unfold downK
  split
  · split
    · exact (hx.put hself).mono (by omega)
    · exact hx.mono (by omega)
  · split
    · exact (hwith _ _ _ n (n + nszs t.kids) (hhead n) hx).mono (by omega)
    · split
      · exact (hwith _ _ _ n (n + nszs t.kids) (hhead n) hx).mono (by omega)
      · split
        · cases hk : t.kids with
          | nil => exact hx.mono (by omega)
          | cons k l =>
            cases hl : l with
            | nil => 
              rw [hk, hl, nszs_cons, nszs_nil] at hnz
              exact (hkid k (by rw [hk]; exact List.mem_cons_self) n x hx).mono (by omega)
            | cons k2 l2 =>
              rw [hk, hl, nszs_cons, nszs_cons] at hnz
              have h1 := hkid k (by rw [hk]; exact List.mem_cons_self) n x hx
              exact (hwith (downF k2) [t.name] (downF k x) _ _ (fun x => hkid k2 (by rw [hk, hl]; simp) _ x) h1).mono (by omega)
        · exact (hfold t.kids (fun k h => h) n x hx).mono (by omega)
/-- The names that are free, sorted. -/
def freeS (t : Tm) : List ByteArray := sortB ((downF t ([], [])).2.map (·.1))
end Rw
namespace Go.Proofs
open Go.RowKit Go.Maps Go.Sort Go.Shelf
set_option maxRecDepth 100000
def Try.keys112_ren : Go.Shelf.Ren := ⟨fun | 7 => 112 | 10 => 129 | n => n, fun | 23 => 171 | 26 => 9 | 3 => 4 | 28 => 176 | 0 => 0 | 27 => 175 | 33 => 58 | 4 => 4 | n => n, fun | n => n⟩
theorem Try.keys112 : Go.Proofs.SlLaysZ.n7 Try.prog Try.keys112_ren := {
  mixed := by kernel_rfl
  f7 := ⟨Try.f112.name, by decide, Try.func112.trans (congrArg some (by kernel_rfl))⟩
  f10 := ⟨Try.f129.name, by decide, Try.func129.trans (congrArg some (by kernel_rfl))⟩
  t0 := Try.underlying0
  a0 := Try.isAgg0
  z0 := Try.sizeOf0
  v0 := Try.zeroValue0
  t4 := Try.underlying4
  a4 := Try.isAgg4
  z4 := Try.sizeOf4
  v4 := Try.zeroValue4
  t23 := Try.underlying171
  a23 := Try.isAgg171
  z23 := Try.sizeOf171
  v23 := Try.zeroValue171
  t26 := Try.underlying9
  a26 := Try.isAgg9
  z26 := Try.sizeOf9
  v26 := Try.zeroValue9
  t27 := Try.underlying175
  a27 := Try.isAgg175
  z27 := Try.sizeOf175
  v27 := Try.zeroValue175
  t28 := Try.underlying176
  a28 := Try.isAgg176
  z28 := Try.sizeOf176
  v28 := Try.zeroValue176
  t33 := Try.underlying58
  a33 := Try.isAgg58
  z33 := Try.sizeOf58
  v33 := Try.zeroValue58 }
def Try.sorted111_ren : Go.Shelf.Ren := ⟨fun | 6 => 111 | 8 => 127 | 9 => 128 | 11 => 135 | 13 => 137 | 12 => 136 | 23 => 152 | 24 => 153 | 14 => 143 | 15 => 144 | 16 => 145 | 17 => 146 | 18 => 147 | 19 => 148 | 20 => 149 | 21 => 150 | 22 => 151 | 25 => 158 | 26 => 159 | 27 => 160 | 28 => 161 | 29 => 162 | 30 => 163 | 31 => 166 | n => n, fun | 26 => 9 | 28 => 176 | 24 => 115 | 0 => 0 | 3 => 3 | 37 => 154 | 48 => 212 | 50 => 128 | 4 => 4 | 40 => 204 | 39 => 203 | 45 => 209 | 5 => 5 | 9 => 9 | 51 => 215 | 55 => 150 | 57 => 219 | 58 => 33 | 33 => 58 | n => n, fun | n => n⟩
theorem Try.sorted111 : Go.Proofs.SlLaysZ.n6 Try.prog Try.sorted111_ren := {
  mixed := by kernel_rfl
  f6 := ⟨Try.f111.name, by decide, Try.func111.trans (congrArg some (by kernel_rfl))⟩
  f8 := ⟨Try.f127.name, by decide, Try.func127.trans (congrArg some (by kernel_rfl))⟩
  f11 := ⟨Try.f135.name, by decide, Try.func135.trans (congrArg some (by kernel_rfl))⟩
  t0 := Try.underlying0
  a0 := Try.isAgg0
  z0 := Try.sizeOf0
  v0 := Try.zeroValue0
  t24 := Try.underlying115
  a24 := Try.isAgg115
  z24 := Try.sizeOf115
  v24 := Try.zeroValue115
  t26 := Try.underlying9
  a26 := Try.isAgg9
  z26 := Try.sizeOf9
  v26 := Try.zeroValue9
  t28 := Try.underlying176
  a28 := Try.isAgg176
  z28 := Try.sizeOf176
  v28 := Try.zeroValue176
  i26 := by kernel_rfl }
def Try.sort128_ren : Go.Shelf.Ren := ⟨fun | 6 => 128 | 8 => 137 | 9 => 136 | 19 => 152 | 20 => 153 | 21 => 143 | 22 => 144 | 23 => 145 | 24 => 146 | 25 => 147 | 26 => 148 | 27 => 149 | 28 => 150 | 29 => 151 | 36 => 158 | 31 => 159 | 32 => 160 | 37 => 161 | 38 => 162 | 39 => 163 | 41 => 166 | n => n, fun | 27 => 115 | 29 => 9 | 3 => 3 | 32 => 154 | 26 => 115 | 0 => 0 | 44 => 212 | 46 => 128 | 4 => 4 | 36 => 204 | 35 => 203 | 41 => 209 | 5 => 5 | 9 => 9 | 53 => 215 | 57 => 150 | 63 => 219 | 64 => 33 | n => n, fun | n => n⟩
theorem Try.sort128 : Go.Proofs.SlLaysM.n6 Try.prog Try.sort128_ren := {
  mixed := by kernel_rfl
  f6 := ⟨Try.f128.name, by decide, Try.func128.trans (congrArg some (by kernel_rfl))⟩
  f8 := Try.func137.trans (congrArg some (by kernel_rfl))
  f9 := ⟨Try.f136.name, by decide, Try.func136.trans (congrArg some (by kernel_rfl))⟩
  f19 := Try.func152.trans (congrArg some (by kernel_rfl))
  f20 := Try.func153.trans (congrArg some (by kernel_rfl))
  f21 := ⟨Try.f143.name, by decide, Try.func143.trans (congrArg some (by kernel_rfl))⟩
  f22 := ⟨Try.f144.name, by decide, Try.func144.trans (congrArg some (by kernel_rfl))⟩
  f23 := ⟨Try.f145.name, by decide, Try.func145.trans (congrArg some (by kernel_rfl))⟩
  f24 := ⟨Try.f146.name, by decide, Try.func146.trans (congrArg some (by kernel_rfl))⟩
  f25 := ⟨Try.f147.name, by decide, Try.func147.trans (congrArg some (by kernel_rfl))⟩
  f26 := ⟨Try.f148.name, by decide, Try.func148.trans (congrArg some (by kernel_rfl))⟩
  f27 := ⟨Try.f149.name, by decide, Try.func149.trans (congrArg some (by kernel_rfl))⟩
  f28 := ⟨Try.f150.name, by decide, Try.func150.trans (congrArg some (by kernel_rfl))⟩
  f29 := ⟨Try.f151.name, by decide, Try.func151.trans (congrArg some (by kernel_rfl))⟩
  f31 := Try.func159.trans (congrArg some (by kernel_rfl))
  f32 := Try.func160.trans (congrArg some (by kernel_rfl))
  f36 := ⟨Try.f158.name, by decide, Try.func158.trans (congrArg some (by kernel_rfl))⟩
  f37 := ⟨Try.f161.name, by decide, Try.func161.trans (congrArg some (by kernel_rfl))⟩
  f38 := ⟨Try.f162.name, by decide, Try.func162.trans (congrArg some (by kernel_rfl))⟩
  f39 := ⟨Try.f163.name, by decide, Try.func163.trans (congrArg some (by kernel_rfl))⟩
  f41 := ⟨Try.f166.name, by decide, Try.func166.trans (congrArg some (by kernel_rfl))⟩
  t0 := Try.underlying0
  a0 := Try.isAgg0
  z0 := Try.sizeOf0
  v0 := Try.zeroValue0
  t3 := Try.underlying3
  a3 := Try.isAgg3
  z3 := Try.sizeOf3
  v3 := Try.zeroValue3
  t4 := Try.underlying4
  a4 := Try.isAgg4
  z4 := Try.sizeOf4
  v4 := Try.zeroValue4
  t5 := Try.underlying5
  a5 := Try.isAgg5
  z5 := Try.sizeOf5
  v5 := Try.zeroValue5
  t9 := Try.underlying9
  a9 := Try.isAgg9
  z9 := Try.sizeOf9
  v9 := Try.zeroValue9
  t26 := Try.underlying115
  a26 := Try.isAgg115
  z26 := Try.sizeOf115
  v26 := Try.zeroValue115
  t27 := Try.underlying115
  a27 := Try.isAgg115
  z27 := Try.sizeOf115
  v27 := Try.zeroValue115
  t29 := Try.underlying9
  a29 := Try.isAgg9
  z29 := Try.sizeOf9
  v29 := Try.zeroValue9
  t32 := Try.underlying154
  a32 := Try.isAgg154
  z32 := Try.sizeOf154
  v32 := Try.zeroValue154
  t35 := Try.underlying203
  a35 := Try.isAgg203
  z35 := Try.sizeOf203
  v35 := Try.zeroValue203
  t36 := Try.underlying204
  a36 := Try.isAgg204
  z36 := Try.sizeOf204
  v36 := Try.zeroValue204
  t41 := Try.underlying209
  a41 := Try.isAgg209
  z41 := Try.sizeOf209
  v41 := Try.zeroValue209
  t44 := Try.underlying212
  a44 := Try.isAgg212
  z44 := Try.sizeOf212
  v44 := Try.zeroValue212
  t46 := Try.underlying128
  a46 := Try.isAgg128
  z46 := Try.sizeOf128
  v46 := Try.zeroValue128
  t53 := Try.underlying215
  a53 := Try.isAgg215
  z53 := Try.sizeOf215
  v53 := Try.zeroValue215
  t57 := Try.underlying150
  a57 := Try.isAgg150
  z57 := Try.sizeOf150
  v57 := Try.zeroValue150
  t63 := Try.underlying219
  a63 := Try.isAgg219
  z63 := Try.sizeOf219
  v63 := Try.zeroValue219
  t64 := Try.underlying33
  a64 := Try.isAgg33
  z64 := Try.sizeOf33
  v64 := Try.zeroValue33 }
theorem Try.sorts111 (m : Nat) : AnyZ.SortsIn Try.prog Try.sorted111_ren Fence.wide m :=
  ⟨fun blk off cap ss W hH hblk hsz => callsIn_wide.2 (AnyM.slices_Sort_string Try.sort128 blk off cap ss W hH hblk hsz),
   fun p cap W => callsIn_wide.2 (AnyM.slices_Sort_string_none Try.sort128 p cap W)⟩
theorem Try.maps_Keys_112 (mb : Option Nat) (W : World) : CallsIn Fence.wide 5 Try.prog 112 #[.map mb] W fun e w' => e = .returned (.func (.func 129) #[] #[.pointer (some ⟨W.heap.size, 0, none⟩)]) ∧ w' = W.alloc (.cells #[.map mb] 171) :=
  AnyZ.keys_in Try.keys112 Fence.wide 5 trivial rfl mb W
theorem Try.slices_Sorted_keys_111_112 {H : Type} (b nn : Nat) (D0 : DataW H) (R : Value → Option (DataW H × List MemPlace)) (w : World) (hown : w.ownsMap Try.prog 9 R b nn D0) (hmax : Maps.size D0 ≤ maxLen) (hbytes : Maps.size D0 * 16 ≤ 140737488355328) :
    CallsIn Fence.wide 5 Try.prog 111 #[.func (.func 129) #[] #[.pointer (some ⟨w.heap.size, 0, none⟩)]] (w.alloc (.cells #[.map (some b)] 171)) fun e w' => ∃ (v : Value) (ss : List (List UInt8)), e = .returned v ∧ ss.Perm (strKeys D0) ∧
      w'.ownsRow (w.alloc (.cells #[.map (some b)] 171)).heap.size 9 1 v ss.length ((ss.mergeSort (fun x y => decide (x ≤ y))).map encStr) ∧ (v = .slice none 0 0 ↔ ss = []) ∧ Below (w.alloc (.cells #[.map (some b)] 171)).heap.size (w.alloc (.cells #[.map (some b)] 171)) w' := by
  have hbl := hown.lt
  have hseq : SeqGives Fence.wide 2 Try.prog 129 #[.pointer (some ⟨w.heap.size, 0, none⟩)] encStr (fun ss => ss.Perm (strKeys D0)) (Maps.size D0) (w.alloc (.cells #[.map (some b)] 171)) :=
    AnyZ.keys_gives (ρ := Try.keys112_ren) { Try.keys112 with } Fence.wide _ trivial rfl (by omega) w.heap.size b nn D0 _ (by simp) (by simp) (by
      obtain ⟨es, clock, hb, Ft, hs, hD⟩ := hown
      exact ⟨es, clock, (Below.heap_alloc _ _ b hbl).trans hb, Ft, hs, hD⟩)
  exact AnyZ.sorted_in Try.sorted111 Fence.wide 5 trivial trivial trivial trivial rfl (by omega) (Try.sorts111 _) (enters_of Try.func128 (by kernel_rfl) rfl) 129 #[.pointer (some ⟨w.heap.size, 0, none⟩)] trivial (enters_of Try.func129 (by kernel_rfl) rfl) _ _ hmax hbytes _ hseq
end Go.Proofs
namespace Go.Proofs.Ytohfnpmehgpphaa
open Go Rw Go.RowKit
set_option maxRecDepth 100000
end Go.Proofs.Ytohfnpmehgpphaa
namespace Go.Proofs.Ytohfnpmehgpphaa
open Go Rw Go.RowKit
set_option maxRecDepth 100000
end Go.Proofs.Ytohfnpmehgpphaa
namespace Go.Proofs.Ytohfnpmehgpphaa
open Go Rw Go.RowKit
set_option maxRecDepth 100000
end Go.Proofs.Ytohfnpmehgpphaa
namespace Go.Proofs.Ytohfnpmehgpphaa
open Go Rw Go.RowKit
set_option maxRecDepth 100000
theorem keys_spec (b : Nat) (w : World) : Calls Try.prog 112 #[.map (some b)] w (Ret fun r w' => r = .func (.func 129) #[] #[.pointer (some ⟨w.heap.size, 0, none⟩)] ∧ w' = w.alloc (.cells #[.map (some b)] 171) ∧ Ext w w') :=
 (callsIn_wide.1 (Try.maps_Keys_112 (some b) w)).mono (fun e w' h => h.1 ▸ ⟨rfl, h.2, h.2 ▸ ext_alloc _ _⟩)
theorem sorted_spec (b : Nat) (l : List (ByteArray × Bool)) (w w2 : World) (hw2 : w2 = w.alloc (.cells #[.map (some b)] 171)) (hm : MapL (fun x : Bool => Value.bool x) w b l) (hn : NK 1000000000 l) (M : Nat → Prop) (hlow : Low M w2) :
  Calls Try.prog 111 #[.func (.func 129) #[] #[.pointer (some ⟨w.heap.size, 0, none⟩)]] w2 (Ret fun r w' => Sl M w' r (sortB (l.map (·.1))) ∧ Ext w2 w') := by
 obtain ⟨D, hown, hsz, hpm⟩ := maps_own (k := 9) (P := Try.prog) Try.underlying9 hm (by have := hn.1; simp only [maxLen]; omega) (fun p hp => by have := hn.2 p hp; simp only [maxLen]; omega)
 have hc := callsIn_wide.1 (Try.slices_Sorted_keys_111_112 b _ D _ w hown (by have := hn.1; simp only [maxLen]; omega) (by have := hn.1; omega))
 rw [← hw2] at hc
 refine hc.mono ?_
 rintro _ w' ⟨v, ss, rfl, hss, hrow, _, hE⟩
 have hpp : ss.Perm ((l.map (·.1)).map (·.data.toList)) := by rw [List.map_map]; exact hss.trans hpm
 have hsort : (ss.mergeSort leB).map strT = sortB (l.map (·.1)) := sort_of_perm hpp
 have hlen : (sortB (l.map (·.1))).length = ss.length := by rw [← hsort, List.length_map, List.length_mergeSort]
 have hll : ss.length = l.length := by rw [hpp.length_eq]; simp
 refine ⟨row_texts (B := w2.heap.size) (e := 9) ?_ (by have := hn.1; omega) (fun x hx => ?_) hlow, hE⟩
 ·rw [hlen, ← hsort, List.map_map]
  exact hrow
 ·obtain ⟨p, hp, rfl⟩ := List.mem_map.1 ((sortB_perm _).mem_iff.1 hx)
  exact hn.2 p hp
theorem free_spec (t : Tm) (M : Nat → Prop) (w : World) (v : Value) (ht : Rep.R M w v t) (hlow0 : Low M w) (hz : AnnS t) (hn9 : nsz t ≤ 400000000) :
  Calls Try.prog 88 #[v] w (Ret fun r w' => Sl M w' r (bif rightT t false then freeS t else []) ∧ Ext w w') := by
 have hnk := (NK.down t (rep_names t ht) 0 ([], []) ⟨Nat.le_refl _, fun p hp => by cases hp⟩).mono (m := 1000000000) (by omega)
 have hlow := hlow0
 have hB : w.heap.size ≤ w.heap.size := Nat.le_refl _
 have hE : Below w.heap.size w w := Below.refl _ _
 have hsub : ∀ b, M b → M b := fun _ h => h
 obtain ⟨akv, kv, rfl, op, nm, ag, n64, ha, hk⟩ := tm_open ht
 refine c_enter (n := 16) Try.func88 rfl rfl rfl ?_
 refine q0 ?_
 refine lC (o_box rfl rfl rfl ?_)
 intro b1 w1 hb_b1 ew1 h1
 replace h1 : Box _ b1 84 [.int .u8 t.op, .string t.name, .string t.arg, .int .i64 t.n, .bool t.has, .int .u8 t.ann.op, .string t.ann.name, .int .i64 t.ann.n, akv, kv] := h1
 replace h1 := h1.at (nM_of hlow hb_b1)
 replace hE := ew1.bl hE hB
 replace ht := Rep.ext ht ew1
 replace ha := Rep.ext ha ew1
 replace hk := hk.ext ew1
 replace hlow := hlow.ext ew1
 replace hB := ew1.z hB
 refine l_p 1 tK rfl (q1 (c_seq (q0 ?_)))
 refine lC (o_lds tK (fun j v hv => h1.cell j v hv) rfl rfl rfl rfl rfl rfl ?_)
 refine lC (o_call fo76 rfl rfl rfl (tRight_spec t _ _ _ ht hlow hz) ?_)
 rintro _ w2 ⟨rfl, ew2⟩
 replace hE := ew2.bl hE hB
 replace ht := Rep.ext ht ew2
 replace ha := Rep.ext ha ew2
 replace hk := hk.ext ew2
 replace h1 := h1.ext ew2
 replace hlow := hlow.ext ew2
 replace hB := ew2.z hB
 refine l_p 1 tK rfl (q1 ?_)
 refine c_ifB _ rfl (fun hr => ?_) (fun hr => ?_)
 ·refine q0 (l_p 1 tK rfl (q1 (c_ret (x_seqR (x_ret1 rfl rfl ?_)))))
  exact ⟨by rw [show rightT t false = false by simpa using hr]; exact sl_nil, hE⟩
 refine c_skip (x_seq (q0 ?_))
 refine lC (o_mkmap (κ := ByteArray) (ν := Int) (va := (fun x : Int => Value.int .i64 x)) rfl rfl ?_)
 intro bm w3 qbm ew3 ltbm hbm
 have sw3 := Stp.add ew3 hlow hB (Nat.le_of_eq qbm.symm) ltbm
 have hm : OM (κ := ByteArray) (fun x : Int => Value.int .i64 x) w.heap.size (Rw.Add M bm) w3 bm [] := OM.mk' hbm qbm hB
 replace hE := hE.trans sw3.below
 replace ht := Rep.stp ht sw3
 replace ha := Rep.stp ha sw3
 replace hk := hk.stp sw3
 replace h1 := h1.stp sw3
 replace hsub := sw3.sb hsub
 replace hlow := sw3.low
 replace hB := sw3.z hB
 refine lC (o_mkmap (κ := ByteArray) (ν := Bool) (va := (fun x : Bool => Value.bool x)) rfl rfl ?_)
 intro fm w4 qfm ew4 ltfm hfm
 have ne_hm_hf : bm ≠ fm := by have := hm.lt; omega
 have sw4 := Stp.add ew4 hlow hB (Nat.le_of_eq qfm.symm) ltfm
 have hf : OM (κ := ByteArray) (fun x : Bool => Value.bool x) w.heap.size (Rw.Add (Rw.Add M bm) fm) w4 fm [] := OM.mk' hfm qfm hB
 replace hm := hm.stp sw4 (ew4.block bm hm.lt)
 replace hE := hE.trans sw4.below
 replace ht := Rep.stp ht sw4
 replace ha := Rep.stp ha sw4
 replace hk := hk.stp sw4
 replace h1 := h1.stp sw4
 replace hsub := sw4.sb hsub
 replace hlow := sw4.low
 replace hB := sw4.z hB
 refine lC (o_build (cells := [.map (some bm), .map (some fm)]) (css := [[.map (some bm)], [.map (some fm)]]) bd173 rfl rfl rfl rfl rfl ?_)
 refine lC (o_new tK rfl rfl rfl ?_)
 intro np w5 qnp ew5 hnp
 have nnp := nM_of hlow qnp
 refine lC (o_st tK hnp rfl rfl rfl rfl (by intro u hu; simp [Value.cells] at hu; rcases hu with rfl | rfl <;> rfl) rfl rfl ?_)
 intro w6 hnp uw6 bew6
 have ew6 : Ext w4 w6 := ew5.trans (bew6 _ (Nat.le_of_eq qnp.symm))
 replace hm := hm.ext hlow hB ew6
 replace hf := hf.ext hlow hB ew6
 replace hE := ew6.bl hE hB
 replace ht := Rep.ext ht ew6
 replace ha := Rep.ext ha ew6
 replace hk := hk.ext ew6
 replace h1 := h1.ext ew6
 replace hlow := hlow.ext ew6
 replace hB := ew6.z hB
 replace hnp := hnp.at nnp
 refine q1 (q0 ?_)
 refine lC (o_lds tK (fun j v hv => h1.cell j v hv) rfl rfl rfl rfl rfl rfl ?_)
 refine lC (o_call fo110 rfl rfl rfl (down_spec t 0 ([], []) (Rw.Add (Rw.Add M bm) fm) _ w.heap.size _ np bm fm false (by simpa using hr) ht hnp hm hf (ne_hm_hf) hlow hB (fun s => ⟨Int.le_refl _, Int.le_refl _⟩) (by omega)) ?_)
 rintro _ w7 ⟨rfl, hmw7, hfw7, sw7, kw7⟩
 replace hE := hE.trans sw7.below
 replace ht := Rep.stp ht sw7
 replace ha := Rep.stp ha sw7
 replace hk := hk.stp sw7
 replace h1 := h1.stp sw7
 replace hnp := hnp.stp sw7
 replace hsub := sw7.sb hsub
 replace hlow := sw7.low
 replace hB := sw7.z hB
 replace hm := hmw7
 replace hf := hfw7
 clear hmw7 hfw7
 refine q1 (q0 (l_p 1 tK rfl ?_))
 refine lC (o_ld tK (hnp.cell 1 _ rfl) rfl rfl rfl rfl rfl ?_)
 have hfk := hf.map
 refine lC (o_call fo112 rfl rfl rfl (keys_spec _ _) ?_)
 rintro _ w8 ⟨rfl, hkw8, ew8⟩
 replace hm := hm.ext hlow hB ew8
 replace hf := hf.ext hlow hB ew8
 replace hE := ew8.bl hE hB
 replace ht := Rep.ext ht ew8
 replace ha := Rep.ext ha ew8
 replace hk := hk.ext ew8
 replace h1 := h1.ext ew8
 replace hnp := hnp.ext ew8
 replace hlow := hlow.ext ew8
 replace hB := ew8.z hB
 refine lC (o_call fo111 rfl rfl rfl (sorted_spec fm _ _ _ hkw8 hfk hnk (Rw.Add (Rw.Add M bm) fm) hlow) ?_)
 rintro vhs w9 ⟨hs, ew9⟩
 replace hm := hm.ext hlow hB ew9
 replace hf := hf.ext hlow hB ew9
 replace hE := ew9.bl hE hB
 replace ht := Rep.ext ht ew9
 replace ha := Rep.ext ha ew9
 replace hk := hk.ext ew9
 replace h1 := h1.ext ew9
 replace hnp := hnp.ext ew9
 replace hlow := hlow.ext ew9
 replace hB := ew9.z hB
 refine l_p 1 tK rfl (q1 (c_ret (x_ret1 rfl rfl ?_)))
 refine ⟨?_, hE⟩
 rw [show rightT t false = true by simpa using hr]
 exact hs.wk (fun b hb => hsub b)
theorem texts_spec (l k : List ByteArray) (M : Nat → Prop) (w : World) (v u : Value) (hs : Sl M w v l) (hk : Sl M w u k) :
  Calls Try.prog 87 #[v, u] w (Ret fun r w' => r = .bool (decide (l = k)) ∧ Ext w w') := by
 have hE : Below w.heap.size w w := Below.refl _ _
 have hB : w.heap.size ≤ w.heap.size := Nat.le_refl _
 have hlt := hs.lt
 have hkt := hk.lt
 refine c_enter (n := 26) Try.func87 rfl rfl rfl ?_
 refine q0 (l_p 1 tK rfl (q1 (c_seq (q0 (l_p 1 tK rfl ?_)))))
 refine lC (o_len tK hs rfl rfl rfl rfl rfl ?_)
 refine l_p 1 tK rfl ?_
 refine lC (o_len tK hk rfl rfl rfl rfl rfl ?_)
 refine l_p 1 tK rfl (q1 ?_)
 refine c_ifN _ rfl (fun c1 => ?_) (fun c1 => ?_)
 ·refine q0 (l_p 1 tK rfl (q1 (c_ret (x_seqR (x_ret1 rfl rfl ?_)))))
  exact ⟨by rw [decide_eq_false (fun e : l = k => by subst e; omega)], hE⟩
 refine c_skip (x_seq (c_seq (q0 (l_p 1 tK rfl (q1 (c_blk ?_))))))
 have hll : l.length = k.length := by omega
 refine c_loop (X := Nat) (fun i => [(0, v), (1, u), (5, .int .i64 (i : Nat))]) (fun i w' => i ≤ l.length ∧ l.take i = k.take i ∧ Sl M w' v l ∧ Sl M w' u k ∧ Below w.heap.size w w' ∧ w.heap.size ≤ w'.heap.size) (fun i => l.length - i) (0) (s3 rfl rfl rfl) ?_ ?_
 ·exact ⟨Nat.zero_le _, rfl, hs, hk, hE, hB⟩
 rintro i w1 ⟨hi, htk, hs, hk, hE, hB⟩
 refine c_seq (q0 (l_p 2 tK rfl ?_))
 refine lC (o_len tK hs rfl rfl rfl rfl rfl ?_)
 refine l_p 1 tK rfl (q1 ?_)
 refine c_ifP _ rfl (fun c2 => ?_) (fun c2 => ?_)
 ·refine c_skip (x_seq (c_seq (c_blk (c_seq ?_))))
  refine a_beg Ext rfl ?_
  intro w2 ew2
  replace hE := ew2.bl hE hB
  replace hs := hs.ext ew2
  replace hk := hk.ext ew2
  replace hB := ew2.z hB
  have hS : Ext w2 w2 := ext_refl _
  have D_hs := hs
  have D_hk := hk
  refine a_p 0 tK rfl rfl rfl rfl (by kernel_rfl) (fun _ _ _ h => h) hS ?_
  refine a_p 1 tK rfl rfl rfl rfl (by kernel_rfl) (fun _ _ _ h => h) hS ?_
  have hil : i < l.length := by omega
  have hik : i < k.length := by omega
  refine a_ixS 2 tK D_hs (List.getElem?_eq_getElem hil) rfl rfl rfl rfl rfl rfl rfl rfl rfl rfl (by kernel_rfl) (fun _ _ _ _ h => h) hS ?_
  intro ebz3 eoz3 euz3 hrz3 hatz3
  obtain ⟨rfl, _⟩ := hrz3
  refine a_ld 3 tK (fun _ hs => (hatz3.ext hs).cell 0 _ rfl) rfl rfl rfl rfl rfl rfl (by kernel_rfl) (fun _ _ _ h => h) hS ?_
  refine a_p 4 tK rfl rfl rfl rfl (by kernel_rfl) (fun _ _ _ h => h) hS ?_
  refine a_p 5 tK rfl rfl rfl rfl (by kernel_rfl) (fun _ _ _ h => h) hS ?_
  refine a_ixS 6 tK D_hk (List.getElem?_eq_getElem hik) rfl rfl rfl rfl rfl rfl rfl rfl rfl rfl (by kernel_rfl) (fun _ _ _ _ h => h) hS ?_
  intro ebz4 eoz4 euz4 hrz4 hatz4
  obtain ⟨rfl, _⟩ := hrz4
  refine a_ld 7 tK (fun _ hs => (hatz4.ext hs).cell 0 _ rfl) rfl rfl rfl rfl rfl rfl (by kernel_rfl) (fun _ _ _ h => h) hS ?_
  refine a_p 8 tK rfl rfl rfl rfl (by kernel_rfl) (fun _ _ _ h => h) hS ?_
  refine a_end (by kernel_rfl) ?_
  refine x_seq ?_
  refine c_ifN _ rfl (fun c5 => ?_) (fun c5 => ?_)
  ·refine q0 (l_p 1 tK rfl (q1 (c_ret (x_blkR (x_seqR (x_seqR (x_blkR (x_seqR (x_ret1 rfl rfl ?_)))))))))
   exact ⟨by rw [decide_eq_false (fun e : l = k => by subst e; exact absurd rfl (by assumption))], hE⟩
  refine c_skip (x_blk (x_seq (c_reg (l_p 1 tK rfl ?_))))
  refine lC (o_ai rfl rfl rfl (by omega) rfl rfl ?_)
  refine l_p 1 tK rfl (l_nil ?_)
  exact x_round (i + 1) (s3 rfl rfl (get_num rfl (by omega))) ⟨by omega, by
   have h5 : l[i] = k[i] := by assumption
   rw [List.take_succ_eq_append_getElem hil, List.take_succ_eq_append_getElem hik, htk, h5], hs, hk, hE, hB⟩ (by omega)
 refine c_exit (x_seqE (x_seqE (x_blkE (x_seq (q0 (l_p 1 tK rfl (q1 (c_ret (x_ret1 rfl rfl ?_)))))))))
 exact ⟨by rw [decide_eq_true (show l = k by rwa [List.take_of_length_le (by omega), List.take_of_length_le (by omega)] at htk)], hE⟩
def ty5 : Ty := .mk 0 ⟨#[]⟩ 0 []
def tm5F : Tm := .mk 32 ⟨#[102]⟩ ⟨#[]⟩ 0 false ty5 []
def tm5X : Tm := .mk 32 ⟨#[120]⟩ ⟨#[]⟩ 0 false ty5 []
def tm5A : Tm := .mk 37 ⟨#[]⟩ ⟨#[]⟩ 0 false ty5 [tm5F, tm5X]
def tm5L : Tm := .mk 35 ⟨#[]⟩ ⟨#[120]⟩ 0 false ty5 [tm5A]
theorem tm5F_right : rightT tm5F false = true := by rw [rightT_eq]; rfl
theorem tm5X_right : rightT tm5X false = true := by rw [rightT_eq]; rfl
theorem tm5A_right : rightT tm5A false = true := by
 have hF := tm5F_right
 have hX := tm5X_right
 rw [rightT_eq, show kidL tm5A.kids = [(32, rightT tm5F), (32, rightT tm5X)] from rfl]
 simp only [kidsT]
 rw [show innerB tm5A.op 0 = false from rfl, show innerB tm5A.op (0 + 1) = false from rfl, hF, hX]
 rfl
theorem tm5L_right : rightT tm5L false = true := by
 have hA := tm5A_right
 rw [rightT_eq, show kidL tm5L.kids = [(37, rightT tm5A)] from rfl]
 simp only [kidsT]
 rw [show innerB tm5L.op 0 = false from rfl, hA]
 rfl
theorem tm5_nodes : nodesL tm5L = [tm5L, tm5A, tm5F, tm5X] := by
 have hF : nodesL tm5F = [tm5F] := by rw [nodesL_eq]; rfl
 have hX : nodesL tm5X = [tm5X] := by rw [nodesL_eq]; rfl
 have hA : nodesL tm5A = [tm5A, tm5F, tm5X] := by rw [nodesL_eq, show tm5A.kids = [tm5F, tm5X] from rfl, List.flatMap_cons, List.flatMap_cons, List.flatMap_nil, hF, hX]; rfl
 rw [nodesL_eq, show tm5L.kids = [tm5A] from rfl, List.flatMap_cons, List.flatMap_nil, hA]; rfl
theorem ty5_psz : psz ty5 = 1 := by rw [psz_eq]; rfl
theorem tm5_ann : AnnS tm5L := by
 intro x hx
 rw [tm5_nodes] at hx
 have hz := ty5_psz
 simp at hx
 rcases hx with rfl | rfl | rfl | rfl
 all_goals (show psz ty5 ≤ _; omega)
theorem tm5_free : freeS tm5L = [⟨#[102]⟩] := by
 have h : ((downF tm5L ([], [])).2.map (·.1)) = [⟨#[102]⟩] := by
  rw [downF_eq, show tm5L.kids.map downF = [downF tm5A] from rfl, show downF tm5A = fun x => foldD [tm5F, tm5X] x from funext fun x => down_else (t := tm5A) (by decide) x]
  have hF : ∀ x, downF tm5F x = _ := fun x => down_var (t := tm5F) rfl x
  have hX : ∀ x, downF tm5X x = _ := fun x => down_var (t := tm5X) rfl x
  simp only [foldD, List.map_cons, List.map_nil, List.foldl_cons, List.foldl_nil, funext hF, funext hX]
  decide
 rw [freeS, h]
 simp [sortB, strT]
theorem free5 (M : Nat → Prop) (w : World) (v : Value) (ht : Rep.R M w v tm5L) (hlow : Low M w) :
  Calls Try.prog 88 #[v] w (Ret fun r w' => Sl M w' r ([⟨#[102]⟩] : List ByteArray) ∧ Ext w w') := by
 have h := free_spec tm5L M w v ht hlow tm5_ann (by unfold nsz; rw [tm5_nodes]; decide)
 rw [tm5L_right, cond_true, tm5_free] at h
 exact h
theorem alive5_spec (M : Nat → Prop) (w : World) (hlow : Low M w) :
  Calls Try.prog 47 #[] w (Ret fun r w' => r = .bool true ∧ Ext w w') := by
 have hE : Below w.heap.size w w := Below.refl _ _
 have hB : w.heap.size ≤ w.heap.size := Nat.le_refl _
 refine c_enter (n := 12) Try.func47 rfl rfl rfl ?_
 refine q0 (l_p 1 tK rfl (q1 (q0 ?_)))
 refine lC (o_build (cells := [.int .u8 32, .string ⟨#[102]⟩, .string ⟨#[]⟩, .int .i64 0, .bool false, .int .u8 0, .string ⟨#[]⟩, .int .i64 0, .slice none 0 0, .slice none 0 0]) (css := [[.int .u8 32], [.string ⟨#[102]⟩]]) bd84 rfl rfl rfl rfl rfl ?_)
 have hn0 : Rep.R M w (.agg #[.int .u8 32, .string ⟨#[102]⟩, .string ⟨#[]⟩, .int .i64 0, .bool false, .int .u8 0, .string ⟨#[]⟩, .int .i64 0, .slice none 0 0, .slice none 0 0]) tm5F := tm_mk (ann := ty5) (by decide) (by decide) (by decide) ⟨by decide, by decide⟩ (ty_mk (by decide) (by decide) ⟨by decide, by decide⟩ sl_nil) sl_nil
 refine lC (o_build (cells := [.int .u8 32, .string ⟨#[120]⟩, .string ⟨#[]⟩, .int .i64 0, .bool false, .int .u8 0, .string ⟨#[]⟩, .int .i64 0, .slice none 0 0, .slice none 0 0]) (css := [[.int .u8 32], [.string ⟨#[120]⟩]]) bd84 rfl rfl rfl rfl rfl ?_)
 have hn1 : Rep.R M w (.agg #[.int .u8 32, .string ⟨#[120]⟩, .string ⟨#[]⟩, .int .i64 0, .bool false, .int .u8 0, .string ⟨#[]⟩, .int .i64 0, .slice none 0 0, .slice none 0 0]) tm5X := tm_mk (ann := ty5) (by decide) (by decide) (by decide) ⟨by decide, by decide⟩ (ty_mk (by decide) (by decide) ⟨by decide, by decide⟩ sl_nil) sl_nil
 refine lC (o_bs tK rfl rfl rfl rfl rfl rfl rfl (by intro v hv; simp at hv; (repeat' (rcases hv with rfl | hv)); all_goals first | rfl | (subst hv; rfl)) rfl rfl rfl ?_)
 intro bl0 w1 qbl0 ew1 hbl0
 have nbl0 := nM_of hlow qbl0
 replace hE := ew1.bl hE hB
 replace hn0 := Rep.ext hn0 ew1
 replace hn1 := Rep.ext hn1 ew1
 replace hlow := hlow.ext ew1
 replace hB := ew1.z hB
 have hsl0 : Sl M w1 (.slice (some ⟨bl0, 0, none⟩) 2 2) [tm5F, tm5X] := lit_sl hbl0 nbl0 (show Rs _ _ [_, _] [tm5F, tm5X] from ⟨hn0, hn1, trivial⟩) (by decide)
 refine lC (o_build (cells := [.int .u8 37, .string ⟨#[]⟩, .string ⟨#[]⟩, .int .i64 0, .bool false, .int .u8 0, .string ⟨#[]⟩, .int .i64 0, .slice none 0 0, .slice (some ⟨bl0, 0, none⟩) 2 2]) (css := [[.int .u8 37], [.slice (some ⟨bl0, 0, none⟩) 2 2]]) bd84 rfl rfl rfl rfl rfl ?_)
 have hn2 : Rep.R M w1 (.agg #[.int .u8 37, .string ⟨#[]⟩, .string ⟨#[]⟩, .int .i64 0, .bool false, .int .u8 0, .string ⟨#[]⟩, .int .i64 0, .slice none 0 0, .slice (some ⟨bl0, 0, none⟩) 2 2]) tm5A := tm_mk (ann := ty5) (by decide) (by decide) (by decide) ⟨by decide, by decide⟩ (ty_mk (by decide) (by decide) ⟨by decide, by decide⟩ sl_nil) hsl0
 refine lC (o_new tK rfl rfl rfl ?_)
 intro bx w2 qbx ew2 hbx
 have nbx := nM_of hlow qbx
 refine lC (o_st tK hbx rfl rfl rfl rfl (Rep.one hn2) rfl rfl ?_)
 intro w3 hbx uw3 bew3
 have ew3 : Ext w1 w3 := ew2.trans (bew3 _ (Nat.le_of_eq qbx.symm))
 replace hE := ew3.bl hE hB
 replace hn0 := Rep.ext hn0 ew3
 replace hn1 := Rep.ext hn1 ew3
 replace hsl0 := hsl0.ext ew3
 replace hn2 := Rep.ext hn2 ew3
 replace hlow := hlow.ext ew3
 replace hB := ew3.z hB
 replace hbx : Box w3 bx 84 [.int .u8 37, .string ⟨#[]⟩, .string ⟨#[]⟩, .int .i64 0, .bool false, .int .u8 0, .string ⟨#[]⟩, .int .i64 0, .slice none 0 0, .slice (some ⟨bl0, 0, none⟩) 2 2] := hbx
 replace hbx := hbx.at nbx
 refine q1 (q0 ?_)
 refine lC (o_lds tK (fun j v hv => hbx.cell j v hv) rfl rfl rfl rfl rfl rfl ?_)
 refine lC (o_bs tK rfl rfl rfl rfl rfl rfl rfl (by intro v hv; simp at hv; (repeat' (rcases hv with rfl | hv)); all_goals first | rfl | (subst hv; rfl)) rfl rfl rfl ?_)
 intro bl1 w4 qbl1 ew4 hbl1
 have nbl1 := nM_of hlow qbl1
 replace hE := ew4.bl hE hB
 replace hn0 := Rep.ext hn0 ew4
 replace hn1 := Rep.ext hn1 ew4
 replace hsl0 := hsl0.ext ew4
 replace hn2 := Rep.ext hn2 ew4
 replace hbx := hbx.ext ew4
 replace hlow := hlow.ext ew4
 replace hB := ew4.z hB
 have hsl1 : Sl M w4 (.slice (some ⟨bl1, 0, none⟩) 1 1) [tm5A] := lit_sl hbl1 nbl1 (show Rs _ _ [_] [tm5A] from ⟨hn2, trivial⟩) (by decide)
 refine lC (o_build (cells := [.int .u8 35, .string ⟨#[]⟩, .string ⟨#[120]⟩, .int .i64 0, .bool false, .int .u8 0, .string ⟨#[]⟩, .int .i64 0, .slice none 0 0, .slice (some ⟨bl1, 0, none⟩) 1 1]) (css := [[.int .u8 35], [.string ⟨#[120]⟩], [.slice (some ⟨bl1, 0, none⟩) 1 1]]) bd84 rfl rfl rfl rfl rfl ?_)
 have hn3 : Rep.R M w4 (.agg #[.int .u8 35, .string ⟨#[]⟩, .string ⟨#[120]⟩, .int .i64 0, .bool false, .int .u8 0, .string ⟨#[]⟩, .int .i64 0, .slice none 0 0, .slice (some ⟨bl1, 0, none⟩) 1 1]) tm5L := tm_mk (ann := ty5) (by decide) (by decide) (by decide) ⟨by decide, by decide⟩ (ty_mk (by decide) (by decide) ⟨by decide, by decide⟩ sl_nil) hsl1
 refine lC (o_call fo88 rfl rfl rfl ((free5 _ _ _ hn3 hlow)) ?_)
 rintro vhx w5 ⟨hx, ew5⟩
 replace hE := ew5.bl hE hB
 replace hn0 := Rep.ext hn0 ew5
 replace hn1 := Rep.ext hn1 ew5
 replace hsl0 := hsl0.ext ew5
 replace hn2 := Rep.ext hn2 ew5
 replace hbx := hbx.ext ew5
 replace hsl1 := hsl1.ext ew5
 replace hn3 := Rep.ext hn3 ew5
 replace hlow := hlow.ext ew5
 replace hB := ew5.z hB
 refine lC (o_bs tK rfl rfl rfl rfl rfl rfl rfl (sz1 rfl) rfl rfl rfl ?_)
 intro bl2 w6 qbl2 ew6 hbl2
 have nbl2 := nM_of hlow qbl2
 replace hE := ew6.bl hE hB
 replace hn0 := Rep.ext hn0 ew6
 replace hn1 := Rep.ext hn1 ew6
 replace hsl0 := hsl0.ext ew6
 replace hn2 := Rep.ext hn2 ew6
 replace hbx := hbx.ext ew6
 replace hsl1 := hsl1.ext ew6
 replace hn3 := Rep.ext hn3 ew6
 replace hx := hx.ext ew6
 replace hlow := hlow.ext ew6
 replace hB := ew6.z hB
 have hsl2 : Sl M w6 (.slice (some ⟨bl2, 0, none⟩) 1 1) ([⟨#[102]⟩] : List ByteArray) := lit_sl hbl2 nbl2 (show Rs _ _ [_] ([⟨#[102]⟩] : List ByteArray) from ⟨⟨rfl, by decide⟩, trivial⟩) (by decide)
 refine lC (o_call fo87 rfl rfl rfl (texts_spec _ _ M _ _ _ hx hsl2) ?_)
 rintro _ w7 ⟨rfl, ew7⟩
 replace hE := ew7.bl hE hB
 replace hn0 := Rep.ext hn0 ew7
 replace hn1 := Rep.ext hn1 ew7
 replace hsl0 := hsl0.ext ew7
 replace hn2 := Rep.ext hn2 ew7
 replace hbx := hbx.ext ew7
 replace hsl1 := hsl1.ext ew7
 replace hn3 := Rep.ext hn3 ew7
 replace hx := hx.ext ew7
 replace hsl2 := hsl2.ext ew7
 replace hlow := hlow.ext ew7
 replace hB := ew7.z hB
 refine l_p 1 tK rfl (q1 (c_ret (x_ret1 rfl rfl ?_)))
 exact ⟨by rw [decide_eq_true rfl], hE⟩
end Go.Proofs.Ytohfnpmehgpphaa
namespace Rw
open Go Go.RowKit
def tz5 : Tm := .mk 0 ⟨#[]⟩ ⟨#[]⟩ 0 false (.mk 0 ⟨#[]⟩ 0 []) []
/-- The node of a number. -/
def nodeAt (t : Tm) (c : Nat) : Tm := ((nodesL t)[c]?).getD tz5
theorem nodeAt_zero (t : Tm) : nodeAt t 0 = t := by unfold nodeAt; rw [nodesL_eq]; rfl
theorem nodeAt_out {t : Tm} {c : Nat} (h : nsz t ≤ c) : nodeAt t c = tz5 := by
  unfold nodeAt
  rw [List.getElem?_eq_none (show (nodesL t).length ≤ c from h)]; rfl
theorem nodeAt_kid {t : Tm} {i c : Nat} (hi : i < t.kids.length) (h1 : nszs (t.kids.take i) < c) (h2 : c - nszs (t.kids.take i) - 1 < nsz t.kids[i]) : nodeAt t.kids[i] (c - nszs (t.kids.take i) - 1) = nodeAt t c := by
  unfold nodeAt
  congr 1
  have he : nodesL t = (t :: (t.kids.take i).flatMap nodesL) ++ (nodesL t.kids[i] ++ (t.kids.drop (i + 1)).flatMap nodesL) := by
    rw [nodesL_eq]
    conv => lhs; rw [show t.kids = t.kids.take i ++ t.kids[i] :: t.kids.drop (i + 1) by rw [← List.drop_eq_getElem_cons hi, List.take_append_drop]]
    rw [List.flatMap_append, List.flatMap_cons]
    rfl
  have hl : (t :: (t.kids.take i).flatMap nodesL).length = nszs (t.kids.take i) + 1 := rfl
  rw [he, List.getElem?_append_right (by omega), List.getElem?_append_left (by rw [hl]; show _ < nsz _; omega), hl]
  congr 1
end Rw
namespace Rw
open Go Go.RowKit
section
variable {e B : Nat} {M M' M0 : Nat → Prop} {w w' : World} {v : Value}
theorem Stp.drop (h : Stp B M M' w w') (hl : Low M w) : Stp B M M w w' := ⟨h.upd, fun _ _ h => h, fun _ h => h, fun b hb => Nat.lt_of_lt_of_le (hl b hb) h.upd.1, h.below⟩
end
end Rw
namespace Go.Proofs.Ytohfnpmehgpphaa
open Go Rw Go.RowKit
set_option maxRecDepth 100000
theorem typed_own : ∀ (t : Ty) (M : Nat → Prop) (w : World) (v : Value), Rep.R M w v t → Low M w → psz t ≤ 2000000 → Calls Try.prog 89 #[v] w (Ret fun r w' => OTy 40 w.heap.size w' t r (Plus NoM w w') ∧ Ext w w') := by
  refine Ty.ind fun t ih => ?_
  intro M w v ht hlow0 hsz
  have hlow := hlow0
  have hB : w.heap.size ≤ w.heap.size := Nat.le_refl _
  have hE : Below w.heap.size w w := Below.refl _ _
  have hsub : ∀ b, M b → M b := fun _ h => h
  obtain ⟨kv, rfl, op, nm, n64, hk⟩ := ty_open ht
  have hps := psz_eq t
  have hkl := len_psz t.kids
  refine c_enter (n := 22) Try.func89 rfl rfl rfl ?_
  refine q0 ?_
  refine lC (o_box rfl rfl rfl ?_)
  intro b1 w1 qb1 ew1 hb1
  have sw1 := Stp.add ew1 hlow hB (Nat.le_of_eq qb1.symm) hb1.lt
  have h1 : MB w.heap.size (Rw.Add M b1) w1 b1 40 [.int .u8 t.op, .string t.name, .int .i64 t.n, kv] := MB.mk' hb1 qb1 hB
  replace hE := hE.trans sw1.below
  replace ht := Rep.stp ht sw1
  replace hk := hk.stp sw1
  replace hsub := sw1.sb hsub
  replace hlow := sw1.low
  replace hB := sw1.z hB
  refine lC (o_new tK rfl rfl rfl ?_)
  intro b2 w2 qb2 ew2 hb2
  have ne_h1_h2 : b1 ≠ b2 := by have := h1.lt; omega
  have sw2 := Stp.add ew2 hlow hB (Nat.le_of_eq qb2.symm) hb2.lt
  have h2 : MB w.heap.size (Rw.Add (Rw.Add M b1) b2) w2 b2 40 [.int .u8 0, .string ⟨#[]⟩, .int .i64 0, .slice none 0 0] := MB.mk' hb2 qb2 hB
  replace h1 := h1.stp sw2 (ew2.block b1 h1.lt)
  replace hE := hE.trans sw2.below
  replace ht := Rep.stp ht sw2
  replace hk := hk.stp sw2
  replace hsub := sw2.sb hsub
  replace hlow := sw2.low
  replace hB := sw2.z hB
  refine q1 (q0 (l_p 1 tK rfl (q1 (c_seq (q0 (l_p 1 tK rfl ?_))))))
  refine lC (o_ld tK (h1.cell 3 _ rfl) rfl rfl rfl rfl rfl ?_)
  refine lC (o_len tK hk rfl rfl rfl rfl rfl ?_)
  refine l_p 1 tK rfl (q1 (c_blk ?_))
  have d_ho_h1 : ∀ x, (.slice none 0 0 : Value).ownBlock = some x → x ≠ b1 := fun x hx => by simp [Value.ownBlock] at hx
  have d_ho_h2 : ∀ x, (.slice none 0 0 : Value).ownBlock = some x → x ≠ b2 := fun x hx => by simp [Value.ownBlock] at hx
  have d_hO_h1 : ∀ x, NoM x → x ≠ b1 := fun _ h => h.elim
  have d_hO_h2 : ∀ x, NoM x → x ≠ b2 := fun _ h => h.elim
  have dd_ho_hO : ∀ x y, (.slice none 0 0 : Value).ownBlock = some x → NoM y → x ≠ y := fun _ _ _ h => h.elim
  refine c_loop5 (X := Nat) (Y := Value) (Z := Nat → Prop) (U := List (VN 3)) (V := Nat → Prop) (fun i v M1 us F => [(1, .pointer (some ⟨b1, 0, none⟩)), (2, .pointer (some ⟨b2, 0, none⟩)), (3, v), (7, kv), (8, .int .i64 (t.kids.length : Int)), (9, .int .i64 (i : Nat))]) (fun i v M1 us F w' => i ≤ t.kids.length ∧ OwnSl 40 w.heap.size M1 w' v us ∧ OTs 40 w.heap.size w' us (t.kids.take i) F ∧ MB w.heap.size M1 w' b1 40 [.int .u8 t.op, .string t.name, .int .i64 t.n, kv] ∧ MB w.heap.size M1 w' b2 40 [.int .u8 0, .string ⟨#[]⟩, .int .i64 0, .slice none 0 0] ∧ (∀ x, (v : Value).ownBlock = some x → x ≠ b1) ∧ (∀ x, (v : Value).ownBlock = some x → x ≠ b2) ∧ (∀ x, F x → x ≠ b1) ∧ (∀ x, F x → x ≠ b2) ∧ (∀ x y, (v : Value).ownBlock = some x → F y → x ≠ y) ∧ Sl M1 w' kv t.kids ∧ Low M1 w' ∧ (∀ b, M b → M1 b) ∧ Below w.heap.size w w' ∧ w.heap.size ≤ w'.heap.size) (fun i v M1 us F => t.kids.length - i) (0) (.slice none 0 0) ((Rw.Add (Rw.Add M b1) b2)) ([]) (NoM) (s6 rfl rfl rfl rfl rfl rfl) ?_ ?_
  · exact ⟨Nat.zero_le _, own_nil, ots_nil (fun _ h => h.elim), h1, h2, d_ho_h1, d_ho_h2, d_hO_h1, d_hO_h2, dd_ho_hO, hk, hlow, hsub, hE, hB⟩
  rintro i v M1 us F w3 ⟨hi, ho, hO, h1, h2, d_ho_h1, d_ho_h2, d_hO_h1, d_hO_h2, dd_ho_hO, hk, hlow, hsub, hE, hB⟩
  have hul := hO.len
  rw [List.length_take] at hul
  refine q0 (l_p 1 tK rfl (q1 (c_seq ?_)))
  refine c_ifP _ rfl (fun c1 => ?_) (fun c1 => ?_)
  · refine c_skip (x_seq (c_seq (c_blk (q0 ?_))))
    have hik : i < t.kids.length := by omega
    have hp1 := psz_get hik
    refine lC (o_ixS tK hk (List.getElem?_eq_getElem hik) rfl rfl rfl rfl rfl rfl rfl rfl rfl ?_)
    intro ebx eox eux hyx hatx
    obtain ⟨kvx, rfl, opx, nmx, n64x, hkx⟩ := ty_open hyx
    replace hatx : At M1 w3 ebx eox [.int .u8 t.kids[i].op, .string t.kids[i].name, .int .i64 t.kids[i].n, kvx] := hatx
    refine lC (o_lds tK (fun j v hv => hatx.cell j v hv) rfl rfl rfl rfl rfl rfl ?_)
    refine lC (o_new tK rfl rfl rfl ?_)
    intro b5 w4 qb5 ew4 hb5
    have nb5 := nM_of hlow qb5
    refine lC (o_st tK hb5 rfl rfl rfl rfl (Rep.one hyx) rfl rfl ?_)
    intro w5 h5 uw5 bew5
    have ew5 : Ext w3 w5 := ew4.trans (bew5 _ (Nat.le_of_eq qb5.symm))
    replace ho := ho.ext hlow hB ew5
    replace hO := hO.ext hlow hB ew5
    replace h1 := h1.ext hlow hB ew5
    replace h2 := h2.ext hlow hB ew5
    replace hE := ew5.bl hE hB
    replace hk := hk.ext ew5
    replace hyx := Rep.ext hyx ew5
    replace hkx := hkx.ext ew5
    replace hatx := hatx.ext ew5
    replace hlow := hlow.ext ew5
    replace hB := ew5.z hB
    replace h5 : Box w5 b5 40 [.int .u8 t.kids[i].op, .string t.kids[i].name, .int .i64 t.kids[i].n, kvx] := h5
    replace h5 := h5.at nb5
    refine q1 (c_reg (l_p 1 tK rfl ?_))
    refine lC (o_lds tK (fun j v hv => h5.cell j v hv) rfl rfl rfl rfl rfl rfl ?_)
    have l_h1 := h1.lt
    have l_h2 := h2.lt
    have l_ho := ho.lt
    have l_hO := hO.lt
    have hB0 := hB
    refine lC (o_call fo89 rfl rfl rfl (ih _ (List.getElem_mem hik) _ _ _ hyx hlow (by omega)) ?_)
    rintro vr w6 ⟨hr, ew6⟩
    replace hr := hr.ge hB0
    have hGl : ∀ c, Plus NoM w5 w6 c → w5.heap.size ≤ c := fun c h => h.elim (fun h => h.elim) (fun h => h.1)
    replace ho := ho.ext hlow hB ew6
    replace hO := hO.ext hlow hB ew6
    replace h1 := h1.ext hlow hB ew6
    replace h2 := h2.ext hlow hB ew6
    replace hE := ew6.bl hE hB
    replace hk := hk.ext ew6
    replace hyx := Rep.ext hyx ew6
    replace hkx := hkx.ext ew6
    replace hatx := hatx.ext ew6
    replace h5 := h5.ext ew6
    replace hlow := hlow.ext ew6
    replace hB := ew6.z hB
    generalize Plus NoM w5 w6 = G at hr hGl
    have d_hr_h1 : ∀ x, G x → x ≠ b1 := fun x hx => by have := hGl x hx; omega
    have d_hr_h2 : ∀ x, G x → x ≠ b2 := fun x hx => by have := hGl x hx; omega
    have dd_ho_hr : ∀ x y, (v : Value).ownBlock = some x → G y → x ≠ y := fun x y hx hy => by have := hGl y hy; have := (l_ho x hx).2; omega
    have dd_hr_hO : ∀ c, G c → ¬ F c := fun c hg hf => by have := hGl c hg; have := (l_hO c hf).2; omega
    refine lC (o_bs tK rfl rfl rfl rfl rfl rfl rfl (sz1 hr.size) rfl rfl rfl ?_)
    intro bw7 w7 qbw7 ew7 hbw7
    have nbw7 := nM_of hlow qbw7
    replace ho := ho.ext hlow hB ew7
    replace hO := hO.ext hlow hB ew7
    replace h1 := h1.ext hlow hB ew7
    replace h2 := h2.ext hlow hB ew7
    replace hr := hr.ext hlow hB ew7
    replace hE := ew7.bl hE hB
    replace hk := hk.ext ew7
    replace hyx := Rep.ext hyx ew7
    replace hkx := hkx.ext ew7
    replace hatx := hatx.ext ew7
    replace h5 := h5.ext ew7
    replace hlow := hlow.ext ew7
    replace hB := ew7.z hB
    refine lC (o_app1 tK ho hbw7 nbw7 hr.vn hlow hB rfl rfl rfl rfl rfl rfl rfl (by omega) (by show (_ + _) * 56 ≤ _; omega) rfl rfl ?_)
    intro vw8 w8 Mw8 hw8 sw8 frw8 blw8
    have zd_ho_h1 := d_ho_h1
    replace d_ho_h1 : ∀ x, (vw8 : Value).ownBlock = some x → x ≠ b1 := fun x hx => (blw8 x hx).elim (d_ho_h1 x) (fun h e => by have := h1.lt; omega)
    have zd_ho_h2 := d_ho_h2
    replace d_ho_h2 : ∀ x, (vw8 : Value).ownBlock = some x → x ≠ b2 := fun x hx => (blw8 x hx).elim (d_ho_h2 x) (fun h e => by have := h2.lt; omega)
    have zdd_ho_hO := dd_ho_hO
    replace dd_ho_hO : ∀ x y, (vw8 : Value).ownBlock = some x → F y → x ≠ y := fun x y hx hy => (blw8 x hx).elim (fun h => dd_ho_hO x y h hy) (fun h e => by have := (hO.lt y hy).2; omega)
    have zdd_ho_hr := dd_ho_hr
    replace dd_ho_hr : ∀ x y, (vw8 : Value).ownBlock = some x → G y → x ≠ y := fun x y hx hy => (blw8 x hx).elim (fun h => dd_ho_hr x y h hy) (fun h e => by have := (hr.lt y hy).2; omega)
    replace hO := hO.stp sw8 (fun x hx => frw8 x (hO.lt x hx).2 (fun e => zdd_ho_hO x x e.symm hx rfl))
    replace h1 := h1.stp sw8 (frw8 b1 h1.lt (fun e => zd_ho_h1 _ e.symm rfl))
    replace h2 := h2.stp sw8 (frw8 b2 h2.lt (fun e => zd_ho_h2 _ e.symm rfl))
    replace hr := hr.stp sw8 (fun x hx => frw8 x (hr.lt x hx).2 (fun e => zdd_ho_hr x x e.symm hx rfl))
    replace hE := hE.trans sw8.below
    replace hk := hk.stp sw8
    replace hyx := Rep.stp hyx sw8
    replace hkx := hkx.stp sw8
    replace hatx := hatx.stp sw8
    replace h5 := h5.stp sw8
    replace hsub := sw8.sb hsub
    replace hlow := sw8.low
    replace hB := sw8.z hB
    replace ho := hw8
    clear hw8
    refine l_p 1 tK rfl (q2 (x_seq (c_reg ?_)))
    refine lC (o_ai rfl rfl rfl (by omega) rfl rfl ?_)
    refine l_p 1 tK rfl (l_nil ?_)
    have hO2 := hO.app hr dd_hr_hO
    exact x_round5 (i + 1) (vw8) (Mw8) (us ++ [⟨vr⟩]) (fun c => F c ∨ G c) (s6 rfl rfl rfl rfl rfl rfl) ⟨by omega, ho, by rw [List.take_succ_eq_append_getElem hik]; exact hO2, h1, h2, d_ho_h1, d_ho_h2, (fun x hx => hx.elim (d_hO_h1 x) (d_hr_h1 x)), (fun x hx => hx.elim (d_hO_h2 x) (d_hr_h2 x)), (fun x y hx hy => hy.elim (dd_ho_hO x y hx) (dd_ho_hr x y hx)), hk, hlow, hsub, hE, hB⟩ (by omega)
  refine c_exit (x_seqE (x_seqE (x_blkE (x_seq (q0 (l_p 2 tK rfl ?_))))))
  obtain rfl : i = t.kids.length := by omega
  rw [List.take_of_length_le (Nat.le_refl _)] at hO
  obtain ⟨av, cv, rfl, hcv⟩ := ho.val
  refine lC (o_st tK h1.box rfl rfl rfl rfl (by simp [Value.cells, Value.oneCell']) rfl rfl ?_)
  intro w9 hw9 qw9 bew9
  have uw9 : UpdB _ _ _ := ⟨qw9, bew9⟩
  have sw9 := uw9.stp h1.inM hlow h1.ge
  have frw9 := qw9.2
  replace ho := ho.stp sw9 (fun x hx => frw9 x (ho.lt x hx).2 (d_ho_h1 x hx))
  replace hO := hO.stp sw9 (fun x hx => frw9 x (hO.lt x hx).2 (d_hO_h1 x hx))
  replace h2 := h2.stp sw9 (frw9 b2 h2.lt ne_h1_h2.symm)
  replace hE := hE.trans sw9.below
  replace hk := hk.stp sw9
  replace hsub := sw9.sb hsub
  replace hlow := sw9.low
  replace hB := sw9.z hB
  replace h1 : MB w.heap.size _ w9 b1 _ [.int .u8 t.op, .string t.name, .int .i64 t.n, .slice av us.length cv] := ⟨hw9, h1.inM, h1.ge⟩
  refine q1 (q0 ?_)
  refine lC (o_lds tK (fun j v hv => h1.cell j v hv) rfl rfl rfl rfl rfl rfl ?_)
  refine lC (o_st tK h2.box rfl rfl rfl rfl (by intro u hu; simp [Value.cells] at hu; rcases hu with rfl | rfl | rfl | rfl <;> rfl) rfl rfl ?_)
  intro w10 hw10 qw10 bew10
  have uw10 : UpdB _ _ _ := ⟨qw10, bew10⟩
  have sw10 := uw10.stp h2.inM hlow h2.ge
  have frw10 := qw10.2
  replace ho := ho.stp sw10 (fun x hx => frw10 x (ho.lt x hx).2 (d_ho_h2 x hx))
  replace hO := hO.stp sw10 (fun x hx => frw10 x (hO.lt x hx).2 (d_hO_h2 x hx))
  replace h1 := h1.stp sw10 (frw10 b1 h1.lt ne_h1_h2)
  replace hE := hE.trans sw10.below
  replace hk := hk.stp sw10
  replace hsub := sw10.sb hsub
  replace hlow := sw10.low
  replace hB := sw10.z hB
  replace h2 : MB w.heap.size _ w10 b2 _ [.int .u8 t.op, .string t.name, .int .i64 t.n, .slice av us.length cv] := ⟨hw10, h2.inM, h2.ge⟩
  refine q1 (c_ret ?_)
  refine x_ret1s tK (fun j v hv => h2.cell j v hv) rfl rfl rfl rfl rfl ?_
  have hfin := oty_fin op nm n64 (by omega) ho hO dd_ho_hO
  rw [← ty_eta] at hfin
  exact ⟨hfin, hE⟩
theorem typed_rep (t : Ty) (M : Nat → Prop) (w : World) (v : Value) (ht : Rep.R M w v t) (hlow : Low M w) (hz : psz t ≤ 2000000) :
    Calls Try.prog 89 #[v] w (Ret fun r w' => Rep.R M w' r t ∧ Ext w w') := (typed_own t M w v ht hlow hz).mono (Ret.mono fun r w' h => ⟨h.1.repNew hlow, h.2⟩)
theorem copyM_spec : ∀ (t : Tm) (M : Nat → Prop) (w : World) (v : Value), Rep.R M w v t → Low M w → AnnS t → nsz t ≤ 2000000 → Calls Try.prog 49 #[v] w (Ret fun r w' => Rep.R M w' r t ∧ Ext w w') := by
  refine Tm.ind fun t ih => ?_
  intro M w v ht hlow0 hz hsz
  have hlow := hlow0
  have hB : w.heap.size ≤ w.heap.size := Nat.le_refl _
  have hE : Below w.heap.size w w := Below.refl _ _
  have hsub : ∀ b, M b → M b := fun _ h => h
  obtain ⟨akv, kv, rfl, op, nm, ag, n64, ha, hk⟩ := tm_open ht
  have hps := nsz_eq t
  have hkl := len_nsz t.kids
  have hzs := hz.self
  refine c_enter (n := 26) Try.func49 rfl rfl rfl ?_
  refine q0 ?_
  refine lC (o_box rfl rfl rfl ?_)
  intro b1 w1 qb1 ew1 hb1
  have sw1 := Stp.add ew1 hlow hB (Nat.le_of_eq qb1.symm) hb1.lt
  have h1 : MB w.heap.size (Rw.Add M b1) w1 b1 84 [.int .u8 t.op, .string t.name, .string t.arg, .int .i64 t.n, .bool t.has, .int .u8 t.ann.op, .string t.ann.name, .int .i64 t.ann.n, akv, kv] := MB.mk' hb1 qb1 hB
  replace hE := hE.trans sw1.below
  replace ht := Rep.stp ht sw1
  replace ha := Rep.stp ha sw1
  replace hk := hk.stp sw1
  replace hsub := sw1.sb hsub
  replace hlow := sw1.low
  replace hB := sw1.z hB
  refine lC (o_new tK rfl rfl rfl ?_)
  intro b2 w2 qb2 ew2 hb2
  have ne_h1_h2 : b1 ≠ b2 := by have := h1.lt; omega
  have sw2 := Stp.add ew2 hlow hB (Nat.le_of_eq qb2.symm) hb2.lt
  have h2 : MB w.heap.size (Rw.Add (Rw.Add M b1) b2) w2 b2 84 [.int .u8 0, .string ⟨#[]⟩, .string ⟨#[]⟩, .int .i64 0, .bool false, .int .u8 0, .string ⟨#[]⟩, .int .i64 0, .slice none 0 0, .slice none 0 0] := MB.mk' hb2 qb2 hB
  replace h1 := h1.stp sw2 (ew2.block b1 h1.lt)
  replace hE := hE.trans sw2.below
  replace ht := Rep.stp ht sw2
  replace ha := Rep.stp ha sw2
  replace hk := hk.stp sw2
  replace hsub := sw2.sb hsub
  replace hlow := sw2.low
  replace hB := sw2.z hB
  refine q1 (q0 (l_p 1 tK rfl (q1 (c_seq (q0 (l_p 1 tK rfl ?_))))))
  refine lC (o_ld tK (h1.cell 9 _ rfl) rfl rfl rfl rfl rfl ?_)
  refine lC (o_len tK hk rfl rfl rfl rfl rfl ?_)
  refine l_p 1 tK rfl (q1 (c_blk ?_))
  have d_ho_h1 : ∀ x, (.slice none 0 0 : Value).ownBlock = some x → x ≠ b1 := fun x hx => by simp [Value.ownBlock] at hx
  have d_ho_h2 : ∀ x, (.slice none 0 0 : Value).ownBlock = some x → x ≠ b2 := fun x hx => by simp [Value.ownBlock] at hx
  refine c_loop3 (X := Nat) (Y := Value) (Z := Nat → Prop) (fun i v M1 => [(1, .pointer (some ⟨b1, 0, none⟩)), (2, .pointer (some ⟨b2, 0, none⟩)), (3, v), (7, kv), (8, .int .i64 (t.kids.length : Int)), (9, .int .i64 (i : Nat))]) (fun i v M1 w' => i ≤ t.kids.length ∧ OwnSl 84 w.heap.size M1 w' v (t.kids.take i) ∧ MB w.heap.size M1 w' b1 84 [.int .u8 t.op, .string t.name, .string t.arg, .int .i64 t.n, .bool t.has, .int .u8 t.ann.op, .string t.ann.name, .int .i64 t.ann.n, akv, kv] ∧ MB w.heap.size M1 w' b2 84 [.int .u8 0, .string ⟨#[]⟩, .string ⟨#[]⟩, .int .i64 0, .bool false, .int .u8 0, .string ⟨#[]⟩, .int .i64 0, .slice none 0 0, .slice none 0 0] ∧ (∀ x, (v : Value).ownBlock = some x → x ≠ b1) ∧ (∀ x, (v : Value).ownBlock = some x → x ≠ b2) ∧ Rep.R M1 w' (.agg #[.int .u8 t.ann.op, .string t.ann.name, .int .i64 t.ann.n, akv]) t.ann ∧ Sl M1 w' kv t.kids ∧ Low M1 w' ∧ (∀ b, M b → M1 b) ∧ Below w.heap.size w w' ∧ w.heap.size ≤ w'.heap.size) (fun i v M1 => t.kids.length - i) (0) (.slice none 0 0) ((Rw.Add (Rw.Add M b1) b2)) (s6 rfl rfl rfl rfl rfl rfl) ?_ ?_
  · exact ⟨Nat.zero_le _, own_nil, h1, h2, d_ho_h1, d_ho_h2, ha, hk, hlow, hsub, hE, hB⟩
  clear ht ha hk h1 h2 hlow hsub hE hB d_ho_h1 d_ho_h2
  rintro i v M1 w3 ⟨hi, ho, h1, h2, d_ho_h1, d_ho_h2, ha, hk, hlow, hsub, hE, hB⟩
  refine q0 (l_p 1 tK rfl (q1 (c_seq ?_)))
  refine c_ifP _ rfl (fun c1 => ?_) (fun c1 => ?_)
  · refine c_skip (x_seq (c_seq (c_blk (q0 ?_))))
    have hik : i < t.kids.length := by omega
    have hp1 := nsz_get hik
    refine lC (o_ixS tK hk (List.getElem?_eq_getElem hik) rfl rfl rfl rfl rfl rfl rfl rfl rfl ?_)
    intro ebx eox eux hyx hatx
    obtain ⟨akvx, kvx, rfl, opx, nmx, agx, n64x, hax, hkx⟩ := tm_open hyx
    replace hatx : At M1 w3 ebx eox [.int .u8 t.kids[i].op, .string t.kids[i].name, .string t.kids[i].arg, .int .i64 t.kids[i].n, .bool t.kids[i].has, .int .u8 t.kids[i].ann.op, .string t.kids[i].ann.name, .int .i64 t.kids[i].ann.n, akvx, kvx] := hatx
    refine lC (o_lds tK (fun j v hv => hatx.cell j v hv) rfl rfl rfl rfl rfl rfl ?_)
    refine lC (o_new tK rfl rfl rfl ?_)
    intro b5 w4 qb5 ew4 hb5
    have nb5 := nM_of hlow qb5
    refine lC (o_st tK hb5 rfl rfl rfl rfl (Rep.one hyx) rfl rfl ?_)
    intro w5 h5 uw5 bew5
    have ew5 : Ext w3 w5 := ew4.trans (bew5 _ (Nat.le_of_eq qb5.symm))
    replace ho := ho.ext hlow hB ew5
    replace h1 := h1.ext hlow hB ew5
    replace h2 := h2.ext hlow hB ew5
    replace hE := ew5.bl hE hB
    replace ha := Rep.ext ha ew5
    replace hk := hk.ext ew5
    replace hyx := Rep.ext hyx ew5
    replace hax := Rep.ext hax ew5
    replace hkx := hkx.ext ew5
    replace hatx := hatx.ext ew5
    replace hlow := hlow.ext ew5
    replace hB := ew5.z hB
    replace h5 : Box w5 b5 84 [.int .u8 t.kids[i].op, .string t.kids[i].name, .string t.kids[i].arg, .int .i64 t.kids[i].n, .bool t.kids[i].has, .int .u8 t.kids[i].ann.op, .string t.kids[i].ann.name, .int .i64 t.kids[i].ann.n, akvx, kvx] := h5
    replace h5 := h5.at nb5
    refine q1 (c_reg (l_p 1 tK rfl ?_))
    refine lC (o_lds tK (fun j v hv => h5.cell j v hv) rfl rfl rfl rfl rfl rfl ?_)
    refine lC (o_call fo49 rfl rfl rfl (ih _ (List.getElem_mem hik) _ _ _ hyx hlow (hz.kid (List.getElem_mem hik)) (by omega)) ?_)
    rintro vhr w6 ⟨hr, ew6⟩
    replace ho := ho.ext hlow hB ew6
    replace h1 := h1.ext hlow hB ew6
    replace h2 := h2.ext hlow hB ew6
    replace hE := ew6.bl hE hB
    replace ha := Rep.ext ha ew6
    replace hk := hk.ext ew6
    replace hyx := Rep.ext hyx ew6
    replace hax := Rep.ext hax ew6
    replace hkx := hkx.ext ew6
    replace hatx := hatx.ext ew6
    replace h5 := h5.ext ew6
    replace hlow := hlow.ext ew6
    replace hB := ew6.z hB
    refine lC (o_bs tK rfl rfl rfl rfl rfl rfl rfl (sz1 (Rep.size hr)) rfl rfl rfl ?_)
    intro bw7 w7 qbw7 ew7 hbw7
    have nbw7 := nM_of hlow qbw7
    replace ho := ho.ext hlow hB ew7
    replace h1 := h1.ext hlow hB ew7
    replace h2 := h2.ext hlow hB ew7
    replace hE := ew7.bl hE hB
    replace ha := Rep.ext ha ew7
    replace hk := hk.ext ew7
    replace hyx := Rep.ext hyx ew7
    replace hax := Rep.ext hax ew7
    replace hkx := hkx.ext ew7
    replace hatx := hatx.ext ew7
    replace h5 := h5.ext ew7
    replace hr := Rep.ext hr ew7
    replace hlow := hlow.ext ew7
    replace hB := ew7.z hB
    refine lC (o_app1 tK ho hbw7 nbw7 hr hlow hB rfl rfl rfl rfl rfl rfl rfl (by rw [List.length_take]; omega) (by show (_ + _) * 136 ≤ _; rw [List.length_take]; omega) rfl rfl ?_)
    intro vw8 w8 Mw8 hw8 sw8 frw8 blw8
    have zd_ho_h1 := d_ho_h1
    replace d_ho_h1 : ∀ x, (vw8 : Value).ownBlock = some x → x ≠ b1 := fun x hx => (blw8 x hx).elim (d_ho_h1 x) (fun h e => by have := h1.lt; omega)
    have zd_ho_h2 := d_ho_h2
    replace d_ho_h2 : ∀ x, (vw8 : Value).ownBlock = some x → x ≠ b2 := fun x hx => (blw8 x hx).elim (d_ho_h2 x) (fun h e => by have := h2.lt; omega)
    replace h1 := h1.stp sw8 (frw8 b1 h1.lt (fun e => zd_ho_h1 _ e.symm rfl))
    replace h2 := h2.stp sw8 (frw8 b2 h2.lt (fun e => zd_ho_h2 _ e.symm rfl))
    replace hE := hE.trans sw8.below
    replace ha := Rep.stp ha sw8
    replace hk := hk.stp sw8
    replace hyx := Rep.stp hyx sw8
    replace hax := Rep.stp hax sw8
    replace hkx := hkx.stp sw8
    replace hatx := hatx.stp sw8
    replace h5 := h5.stp sw8
    replace hr := Rep.stp hr sw8
    replace hsub := sw8.sb hsub
    replace hlow := sw8.low
    replace hB := sw8.z hB
    replace ho := hw8
    clear hw8
    refine l_p 1 tK rfl (q2 (x_seq (c_reg ?_)))
    refine lC (o_ai rfl rfl rfl (by omega) rfl rfl ?_)
    refine l_p 1 tK rfl (l_nil ?_)
    exact x_round3 (i + 1) (vw8) (Mw8) (s6 rfl rfl rfl rfl rfl rfl) ⟨by omega, by rw [List.take_succ_eq_append_getElem hik]; exact ho, h1, h2, d_ho_h1, d_ho_h2, ha, hk, hlow, hsub, hE, hB⟩ (by omega)
  refine c_exit (x_seqE (x_seqE (x_blkE (x_seq (q0 (l_p 2 tK rfl ?_))))))
  refine lC (o_lds tK (fun j v hv => (h1.box).mid 5 (sub := [.int .u8 t.ann.op, .string t.ann.name, .int .i64 t.ann.n, akv]) rfl j v hv) rfl rfl rfl rfl rfl rfl ?_)
  refine lC (o_call fo89 rfl rfl rfl (typed_rep t.ann _ _ _ ha hlow hzs) ?_)
  rintro vhc w9 ⟨hc, ew9⟩
  replace ho := ho.ext hlow hB ew9
  replace h1 := h1.ext hlow hB ew9
  replace h2 := h2.ext hlow hB ew9
  replace hE := ew9.bl hE hB
  replace ha := Rep.ext ha ew9
  replace hk := hk.ext ew9
  replace hlow := hlow.ext ew9
  replace hB := ew9.z hB
  obtain ⟨kvc, rfl, opc, nmc, n64c, hkc⟩ := ty_open hc
  refine l_p 1 tK rfl ?_
  obtain rfl : i = t.kids.length := by omega
  rw [List.take_of_length_le (Nat.le_refl _)] at ho
  obtain ⟨av, cv, rfl, hcv⟩ := ho.val
  refine lC (o_st tK h1.box rfl rfl rfl rfl (by simp [Value.cells, Value.oneCell']) rfl rfl ?_)
  intro w10 hw10 qw10 bew10
  have uw10 : UpdB _ _ _ := ⟨qw10, bew10⟩
  have sw10 := uw10.stp h1.inM hlow h1.ge
  have frw10 := qw10.2
  replace ho := ho.stp sw10 (fun x hx => frw10 x (ho.lt x hx).2 (d_ho_h1 x hx))
  replace h2 := h2.stp sw10 (frw10 b2 h2.lt ne_h1_h2.symm)
  replace hE := hE.trans sw10.below
  replace ha := Rep.stp ha sw10
  replace hk := hk.stp sw10
  replace hc := Rep.stp hc sw10
  replace hsub := sw10.sb hsub
  replace hlow := sw10.low
  replace hB := sw10.z hB
  replace h1 : MB w.heap.size _ w10 b1 _ [.int .u8 t.op, .string t.name, .string t.arg, .int .i64 t.n, .bool t.has, .int .u8 t.ann.op, .string t.ann.name, .int .i64 t.ann.n, akv, (.slice av t.kids.length cv)] := ⟨hw10, h1.inM, h1.ge⟩
  refine l_p 1 tK rfl ?_
  refine lC (o_st tK h1.box rfl rfl rfl rfl (Rep.one hc) rfl rfl ?_)
  intro w11 hw11 qw11 bew11
  have uw11 : UpdB _ _ _ := ⟨qw11, bew11⟩
  have sw11 := uw11.stp h1.inM hlow h1.ge
  have frw11 := qw11.2
  replace ho := ho.stp sw11 (fun x hx => frw11 x (ho.lt x hx).2 (d_ho_h1 x hx))
  replace h2 := h2.stp sw11 (frw11 b2 h2.lt ne_h1_h2.symm)
  replace hE := hE.trans sw11.below
  replace ha := Rep.stp ha sw11
  replace hk := hk.stp sw11
  replace hc := Rep.stp hc sw11
  replace hsub := sw11.sb hsub
  replace hlow := sw11.low
  replace hB := sw11.z hB
  replace h1 : MB w.heap.size _ w11 b1 _ [.int .u8 t.op, .string t.name, .string t.arg, .int .i64 t.n, .bool t.has, .int .u8 t.ann.op, .string t.ann.name, .int .i64 t.ann.n, kvc, (.slice av t.kids.length cv)] := ⟨hw11, h1.inM, h1.ge⟩
  refine q1 (q0 ?_)
  refine lC (o_lds tK (fun j v hv => h1.cell j v hv) rfl rfl rfl rfl rfl rfl ?_)
  refine lC (o_st tK h2.box rfl rfl rfl rfl (by intro u hu; simp [Value.cells] at hu; have := Rep.one hc; simp [Value.cells] at this; rcases hu with rfl | rfl | rfl | rfl | rfl | rfl | rfl | rfl | rfl | rfl <;> first | rfl | exact this.2.2.2) rfl rfl ?_)
  intro w12 hw12 qw12 bew12
  have uw12 : UpdB _ _ _ := ⟨qw12, bew12⟩
  have sw12 := uw12.stp h2.inM hlow h2.ge
  have frw12 := qw12.2
  replace ho := ho.stp sw12 (fun x hx => frw12 x (ho.lt x hx).2 (d_ho_h2 x hx))
  replace h1 := h1.stp sw12 (frw12 b1 h1.lt ne_h1_h2)
  replace hE := hE.trans sw12.below
  replace ha := Rep.stp ha sw12
  replace hk := hk.stp sw12
  replace hc := Rep.stp hc sw12
  replace hsub := sw12.sb hsub
  replace hlow := sw12.low
  replace hB := sw12.z hB
  replace h2 : MB w.heap.size _ w12 b2 _ [.int .u8 t.op, .string t.name, .string t.arg, .int .i64 t.n, .bool t.has, .int .u8 t.ann.op, .string t.ann.name, .int .i64 t.ann.n, kvc, (.slice av t.kids.length cv)] := ⟨hw12, h2.inM, h2.ge⟩
  refine q1 (c_ret ?_)
  refine x_ret1s tK (fun j v hv => h2.cell j v hv) rfl rfl rfl rfl rfl ?_
  have hfin := tm_mk (has := t.has) op nm ag n64 (Rep.wk hc (fun b _ h => hsub b h)) (ho.sl (by omega) hlow0 hsub)
  rw [← tm_eta] at hfin
  exact ⟨hfin, hE⟩
theorem node_spec : ∀ (t : Tm) (c : Nat) (M : Nat → Prop) (w : World) (B nb : Nat) (v : Value), Rep.R M w v t → MB B M w nb 3 [.int .i64 (c : Int)] → Low M w → B ≤ w.heap.size → nsz t ≤ 2000000 → c < 9223372036854775808 → Calls Try.prog 90 #[v, .pointer (some ⟨nb, 0, none⟩)] w (Ret fun r w' => (∃ x, r = .tuple #[x, .bool (decide (c < nsz t))] ∧ Rep.R M w' x (nodeAt t c)) ∧ (∃ d : Int, MB B M w' nb 3 [.int .i64 d] ∧ (nsz t ≤ c → d = (c : Int) - nsz t + 1)) ∧ Stp B M M w w' ∧ Kept w w' (Out (fun x => x = nb) w)) := by
  refine Tm.ind fun t ih => ?_
  intro c M w B nb v ht hn hlow hB hsz hc9
  have hT : Stp B M M w w := Stp.refl hlow
  have hlow0 := hlow
  have hn0 := hn
  have hfr : Kept w w (Out (fun x => x = nb) w) := Kept.refl (fun x hx => hx.1)
  have d_hfr_hn : ∀ x, (Out (fun x => x = nb) w) x → x ≠ nb := fun x hx => hx.2
  obtain ⟨akv, kv, rfl, op, nm, ag, n64, ha, hk⟩ := tm_open ht
  have hps := nsz_eq t
  have hkl := len_nsz t.kids
  refine c_enter (n := 37) Try.func90 rfl rfl rfl ?_
  refine q0 ?_
  refine lC (o_box rfl rfl rfl ?_)
  intro b1 w1 hb_b1 ew1 h1
  replace h1 : Box _ b1 84 [.int .u8 t.op, .string t.name, .string t.arg, .int .i64 t.n, .bool t.has, .int .u8 t.ann.op, .string t.ann.name, .int .i64 t.ann.n, akv, kv] := h1
  replace h1 := h1.at (nM_of hlow hb_b1)
  replace hT := hT.then (Stp.ext ew1 hlow hB)
  replace hfr := hfr.ext hlow hB ew1
  replace hn := hn.ext hlow hB ew1
  replace ht := Rep.ext ht ew1
  replace ha := Rep.ext ha ew1
  replace hk := hk.ext ew1
  replace hlow := hlow.ext ew1
  replace hB := ew1.z hB
  refine lC (o_new tK rfl rfl rfl ?_)
  intro b4 w2 qb4 ew2 hb4
  have ne_hn_h4 : nb ≠ b4 := by have := hn.lt; omega
  have d_hfr_h4 : ∀ x, (Out (fun x => x = nb) w) x → x ≠ b4 := fun x hx => by have := (hfr.lt x hx).2; omega
  have sw2 := Stp.add ew2 hlow hB (Nat.le_of_eq qb4.symm) hb4.lt
  have h4 : MB B (Rw.Add M b4) w2 b4 84 [.int .u8 0, .string ⟨#[]⟩, .string ⟨#[]⟩, .int .i64 0, .bool false, .int .u8 0, .string ⟨#[]⟩, .int .i64 0, .slice none 0 0, .slice none 0 0] := MB.mk' hb4 qb4 hB
  replace hT := hT.then sw2
  replace hfr := hfr.stp sw2 (fun x hx => ew2.block x (hfr.lt x hx).2)
  replace hn := hn.stp sw2 (ew2.block nb hn.lt)
  replace ht := Rep.stp ht sw2
  replace ha := Rep.stp ha sw2
  replace hk := hk.stp sw2
  replace h1 := h1.stp sw2
  replace hlow := sw2.low
  replace hB := sw2.z hB
  refine l_p 1 tK rfl (q1 (c_seq (q0 (l_p 2 tK rfl ?_))))
  refine lC (o_ld tK (hn.cell 0 _ rfl) rfl rfl rfl rfl rfl ?_)
  refine l_p 1 tK rfl (q1 ?_)
  refine c_ifP _ rfl (fun c1 => ?_) (fun c1 => ?_)
  · refine q0 ?_
    refine lC (o_lds tK (fun j v hv => h1.cell j v hv) rfl rfl rfl rfl rfl rfl ?_)
    refine lC (o_st tK h4.box rfl rfl rfl rfl (Rep.one ht) rfl rfl ?_)
    intro w3 hw3 qw3 bew3
    have uw3 : UpdB _ _ _ := ⟨qw3, bew3⟩
    have sw3 := uw3.stp h4.inM hlow h4.ge
    have frw3 := qw3.2
    replace hT := hT.then sw3
    replace hfr := hfr.stp sw3 (fun x hx => frw3 x (hfr.lt x hx).2 (d_hfr_h4 x hx))
    replace hn := hn.stp sw3 (frw3 nb hn.lt ne_hn_h4)
    replace ht := Rep.stp ht sw3
    replace ha := Rep.stp ha sw3
    replace hk := hk.stp sw3
    replace h1 := h1.stp sw3
    replace hlow := sw3.low
    replace hB := sw3.z hB
    replace h4 : MB B _ w3 b4 _ [.int .u8 t.op, .string t.name, .string t.arg, .int .i64 t.n, .bool t.has, .int .u8 t.ann.op, .string t.ann.name, .int .i64 t.ann.n, akv, kv] := ⟨hw3, h4.inM, h4.ge⟩
    refine l_p 1 tK rfl (q1 (c_ret (x_seqR ?_)))
    refine x_ret2st tK (fun j v hv => h4.cell j v hv) rfl rfl rfl rfl rfl rfl ?_
    obtain rfl : c = 0 := by omega
    have hdd : nsz t ≤ 0 → ((0 : Nat) : Int) = ((0 : Nat) : Int) - nsz t + 1 := fun h => by have := nsz_pos t; omega
    rw [show decide (0 < nsz t) = true from decide_eq_true (nsz_pos t), nodeAt_zero]
    have hres := Rep.wk ht (fun b _ h => hT.sub b h)
    exact ⟨⟨_, rfl, hres⟩, ⟨_, ⟨hn.box, hn0.inM, hn0.ge⟩, hdd⟩, hT.drop hlow0, hfr⟩
  refine c_skip (x_seq (c_seq (q0 (l_p 1 tK rfl ?_))))
  refine lC (o_ld tK (h1.cell 9 _ rfl) rfl rfl rfl rfl rfl ?_)
  refine lC (o_len tK hk rfl rfl rfl rfl rfl ?_)
  refine l_p 1 tK rfl (q1 (c_blk ?_))
  refine c_loop (X := Nat) (fun i => [(1, .pointer (some ⟨nb, 0, none⟩)), (4, .pointer (some ⟨b4, 0, none⟩)), (16, kv), (17, .int .i64 (t.kids.length : Int)), (18, .int .i64 (i : Nat))]) (fun i w' => i ≤ t.kids.length ∧ nszs (t.kids.take i) < c ∧ MB B (Rw.Add M b4) w' nb 3 [.int .i64 ((c - nszs (t.kids.take i) : Nat) : Int)] ∧ MB B (Rw.Add M b4) w' b4 84 [.int .u8 0, .string ⟨#[]⟩, .string ⟨#[]⟩, .int .i64 0, .bool false, .int .u8 0, .string ⟨#[]⟩, .int .i64 0, .slice none 0 0, .slice none 0 0] ∧ Stp B M (Rw.Add M b4) w w' ∧ Kept w w' (Out (fun x => x = nb) w) ∧ Low (Rw.Add M b4) w' ∧ B ≤ w'.heap.size ∧ Sl (Rw.Add M b4) w' kv t.kids) (fun i => t.kids.length - i) (0) (s5 rfl rfl rfl rfl rfl) ?_ ?_
  · exact ⟨Nat.zero_le _, (by rw [List.take_zero, nszs_nil]; omega), hn, h4, hT, hfr, hlow, hB, hk⟩
  clear ht ha h1 hn h4 hT hfr hlow hB hk
  rintro i w4 ⟨hi, hic, hn, h4, hT, hfr, hlow, hB, hk⟩
  refine q0 (l_p 1 tK rfl (q1 (c_seq ?_)))
  refine c_ifP _ rfl (fun c2 => ?_) (fun c2 => ?_)
  · refine c_skip (x_seq (c_seq (c_blk (q0 ?_))))
    have hik : i < t.kids.length := by omega
    have hp1 := nsz_get hik
    have hp2 := take_nsz t.kids (i + 1)
    have hp3 := nszs_take hik
    refine lC (o_ixS tK hk (List.getElem?_eq_getElem hik) rfl rfl rfl rfl rfl rfl rfl rfl rfl ?_)
    intro ebx eox eux hyx hatx
    obtain ⟨akvx, kvx, rfl, opx, nmx, agx, n64x, hax, hkx⟩ := tm_open hyx
    replace hatx : At (Rw.Add M b4) w4 ebx eox [.int .u8 t.kids[i].op, .string t.kids[i].name, .string t.kids[i].arg, .int .i64 t.kids[i].n, .bool t.kids[i].has, .int .u8 t.kids[i].ann.op, .string t.kids[i].ann.name, .int .i64 t.kids[i].ann.n, akvx, kvx] := hatx
    refine lC (o_lds tK (fun j v hv => hatx.cell j v hv) rfl rfl rfl rfl rfl rfl ?_)
    refine lC (o_new tK rfl rfl rfl ?_)
    intro b7 w5 qb7 ew5 hb7
    have nb7 := nM_of hlow qb7
    refine lC (o_st tK hb7 rfl rfl rfl rfl (Rep.one hyx) rfl rfl ?_)
    intro w6 h7 uw6 bew6
    have ew6 : Ext w4 w6 := ew5.trans (bew6 _ (Nat.le_of_eq qb7.symm))
    replace hT := hT.then (Stp.ext ew6 hlow hB)
    replace hfr := hfr.ext hlow hB ew6
    replace hn := hn.ext hlow hB ew6
    replace h4 := h4.ext hlow hB ew6
    replace hk := hk.ext ew6
    replace hyx := Rep.ext hyx ew6
    replace hax := Rep.ext hax ew6
    replace hkx := hkx.ext ew6
    replace hatx := hatx.ext ew6
    replace hlow := hlow.ext ew6
    replace hB := ew6.z hB
    replace h7 : Box w6 b7 84 [.int .u8 t.kids[i].op, .string t.kids[i].name, .string t.kids[i].arg, .int .i64 t.kids[i].n, .bool t.kids[i].has, .int .u8 t.kids[i].ann.op, .string t.kids[i].ann.name, .int .i64 t.kids[i].ann.n, akvx, kvx] := h7
    replace h7 := h7.at nb7
    refine q1 (q0 (l_p 2 tK rfl ?_))
    refine lC (o_ld tK (hn.cell 0 _ rfl) rfl rfl rfl rfl rfl ?_)
    refine lC (o_ar rfl rfl rfl (z := (((c - nszs (t.kids.take i) - 1) : Nat) : Int)) (by rw [IntWalk.i64_in _ (by omega)]; omega) rfl rfl ?_)
    refine l_p 1 tK rfl ?_
    refine lC (o_st tK hn.box rfl rfl rfl rfl (by intro u hu; simp [Value.cells] at hu; subst hu; rfl) rfl rfl ?_)
    intro w7 hw7 qw7 bew7
    have uw7 : UpdB _ _ _ := ⟨qw7, bew7⟩
    have sw7 := uw7.stp hn.inM hlow hn.ge
    have frw7 := qw7.2
    replace hT := hT.then sw7
    replace hfr := hfr.stp sw7 (fun x hx => frw7 x (hfr.lt x hx).2 (d_hfr_hn x hx))
    replace h4 := h4.stp sw7 (frw7 b4 h4.lt ne_hn_h4.symm)
    replace hk := hk.stp sw7
    replace hyx := Rep.stp hyx sw7
    replace hax := Rep.stp hax sw7
    replace hkx := hkx.stp sw7
    replace hatx := hatx.stp sw7
    replace h7 := h7.stp sw7
    replace hlow := sw7.low
    replace hB := sw7.z hB
    replace hn : MB B _ w7 nb _ [.int .i64 (((c - nszs (t.kids.take i) - 1) : Nat) : Int)] := ⟨hw7, hn.inM, hn.ge⟩
    refine q1 (q0 ?_)
    refine lC (o_lds tK (fun j v hv => h7.cell j v hv) rfl rfl rfl rfl rfl rfl ?_)
    refine l_p 1 tK rfl ?_
    refine lC (o_call fo90 rfl rfl rfl (ih _ (List.getElem_mem hik) (c - nszs (t.kids.take i) - 1) _ _ B nb _ hyx hn hlow hB (by omega) (by omega)) ?_)
    rintro _ w8 ⟨⟨xv, rfl, hx8⟩, ⟨dn, hnw8, hd⟩, sw8, kw8⟩
    have frw8 : ∀ x, x < w7.heap.size → x ≠ nb → w8.heap[x]? = w7.heap[x]? := fun x hx hn => kw8.blk x ⟨hx, hn⟩
    replace hT := hT.then sw8
    replace hfr := hfr.stp sw8 (fun x hx => frw8 x (hfr.lt x hx).2 (d_hfr_hn x hx))
    replace h4 := h4.stp sw8 (frw8 b4 h4.lt ne_hn_h4.symm)
    replace hk := hk.stp sw8
    replace hyx := Rep.stp hyx sw8
    replace hax := Rep.stp hax sw8
    replace hkx := hkx.stp sw8
    replace hatx := hatx.stp sw8
    replace h7 := h7.stp sw8
    replace hlow := sw8.low
    replace hB := sw8.z hB
    replace hn := hnw8
    clear hnw8
    obtain ⟨akvq, kvq, rfl, opq, nmq, agq, n64q, haq, hkq⟩ := tm_open hx8
    refine l_p 3 tK rfl ?_
    refine lC (o_new tK rfl rfl rfl ?_)
    intro b8 w9 qb8 ew9 hb8
    have nb8 := nM_of hlow qb8
    refine lC (o_st tK hb8 rfl rfl rfl rfl (Rep.one hx8) rfl rfl ?_)
    intro w10 h8 uw10 bew10
    have ew10 : Ext w8 w10 := ew9.trans (bew10 _ (Nat.le_of_eq qb8.symm))
    replace hT := hT.then (Stp.ext ew10 hlow hB)
    replace hfr := hfr.ext hlow hB ew10
    replace hn := hn.ext hlow hB ew10
    replace h4 := h4.ext hlow hB ew10
    replace hk := hk.ext ew10
    replace hyx := Rep.ext hyx ew10
    replace hax := Rep.ext hax ew10
    replace hkx := hkx.ext ew10
    replace hatx := hatx.ext ew10
    replace h7 := h7.ext ew10
    replace hx8 := Rep.ext hx8 ew10
    replace haq := Rep.ext haq ew10
    replace hkq := hkq.ext ew10
    replace hlow := hlow.ext ew10
    replace hB := ew10.z hB
    replace h8 : Box w10 b8 84 [.int .u8 (nodeAt t.kids[i] (c - nszs (t.kids.take i) - 1)).op, .string (nodeAt t.kids[i] (c - nszs (t.kids.take i) - 1)).name, .string (nodeAt t.kids[i] (c - nszs (t.kids.take i) - 1)).arg, .int .i64 (nodeAt t.kids[i] (c - nszs (t.kids.take i) - 1)).n, .bool (nodeAt t.kids[i] (c - nszs (t.kids.take i) - 1)).has, .int .u8 (nodeAt t.kids[i] (c - nszs (t.kids.take i) - 1)).ann.op, .string (nodeAt t.kids[i] (c - nszs (t.kids.take i) - 1)).ann.name, .int .i64 (nodeAt t.kids[i] (c - nszs (t.kids.take i) - 1)).ann.n, akvq, kvq] := h8
    replace h8 := h8.at nb8
    refine l_p 1 tK rfl (q1 (q0 (l_p 1 tK rfl (q1 ?_))))
    refine c_ifP _ rfl (fun c3 => ?_) (fun c3 => ?_)
    · refine q0 ?_
      refine lC (o_lds tK (fun j v hv => h8.cell j v hv) rfl rfl rfl rfl rfl rfl ?_)
      refine lC (o_st tK h4.box rfl rfl rfl rfl (Rep.one hx8) rfl rfl ?_)
      intro w11 hw11 qw11 bew11
      have uw11 : UpdB _ _ _ := ⟨qw11, bew11⟩
      have sw11 := uw11.stp h4.inM hlow h4.ge
      have frw11 := qw11.2
      replace hT := hT.then sw11
      replace hfr := hfr.stp sw11 (fun x hx => frw11 x (hfr.lt x hx).2 (d_hfr_h4 x hx))
      replace hn := hn.stp sw11 (frw11 nb hn.lt ne_hn_h4)
      replace hk := hk.stp sw11
      replace hyx := Rep.stp hyx sw11
      replace hax := Rep.stp hax sw11
      replace hkx := hkx.stp sw11
      replace hatx := hatx.stp sw11
      replace h7 := h7.stp sw11
      replace hx8 := Rep.stp hx8 sw11
      replace haq := Rep.stp haq sw11
      replace hkq := hkq.stp sw11
      replace h8 := h8.stp sw11
      replace hlow := sw11.low
      replace hB := sw11.z hB
      replace h4 : MB B _ w11 b4 _ [.int .u8 (nodeAt t.kids[i] (c - nszs (t.kids.take i) - 1)).op, .string (nodeAt t.kids[i] (c - nszs (t.kids.take i) - 1)).name, .string (nodeAt t.kids[i] (c - nszs (t.kids.take i) - 1)).arg, .int .i64 (nodeAt t.kids[i] (c - nszs (t.kids.take i) - 1)).n, .bool (nodeAt t.kids[i] (c - nszs (t.kids.take i) - 1)).has, .int .u8 (nodeAt t.kids[i] (c - nszs (t.kids.take i) - 1)).ann.op, .string (nodeAt t.kids[i] (c - nszs (t.kids.take i) - 1)).ann.name, .int .i64 (nodeAt t.kids[i] (c - nszs (t.kids.take i) - 1)).ann.n, akvq, kvq] := ⟨hw11, h4.inM, h4.ge⟩
      refine l_p 1 tK rfl (q1 (c_ret (x_blkR (x_seqR (x_seqR (x_blkR (x_seqR ?_)))))))
      refine x_ret2st tK (fun j v hv => h4.cell j v hv) rfl rfl rfl rfl rfl rfl ?_
      have hlt9 : (c - nszs (t.kids.take i) - 1) < nsz t.kids[i] := by assumption
      have hdd : nsz t ≤ c → dn = (c : Int) - nsz t + 1 := fun h => by omega
      rw [show decide (c < nsz t) = true from decide_eq_true (by omega), ← nodeAt_kid hik hic hlt9]
      have hres := Rep.wk hx8 (fun b _ h => hT.sub b h)
      exact ⟨⟨_, rfl, hres⟩, ⟨_, ⟨hn.box, hn0.inM, hn0.ge⟩, hdd⟩, hT.drop hlow0, hfr⟩
    refine c_skip (x_blk (x_seq (c_reg ?_)))
    refine lC (o_ai rfl rfl rfl (by omega) rfl rfl ?_)
    refine l_p 1 tK rfl (l_nil ?_)
    exact x_round (i + 1) (s5 rfl rfl rfl rfl (get_num rfl (by omega))) ⟨by omega, by omega, by rw [show ((c - nszs (t.kids.take (i + 1)) : Nat) : Int) = dn by rw [hp3]; omega]; exact hn, h4, hT, hfr, hlow, hB, hk⟩ (by omega)
  refine c_exit (x_seqE (x_seqE (x_blkE (x_seq (q0 ?_)))))
  refine lC (o_build (cells := [.int .u8 0, .string ⟨#[]⟩, .string ⟨#[]⟩, .int .i64 0, .bool false, .int .u8 0, .string ⟨#[]⟩, .int .i64 0, .slice none 0 0, .slice none 0 0]) (css := []) bd84 rfl rfl rfl rfl rfl ?_)
  refine lC (o_st tK h4.box rfl rfl rfl rfl (by intro u hu; simp [Value.cells] at hu; rcases hu with rfl | rfl | rfl | rfl | rfl | rfl | rfl | rfl | rfl | rfl <;> rfl) rfl rfl ?_)
  intro w12 hw12 qw12 bew12
  have uw12 : UpdB _ _ _ := ⟨qw12, bew12⟩
  have sw12 := uw12.stp h4.inM hlow h4.ge
  have frw12 := qw12.2
  replace hT := hT.then sw12
  replace hfr := hfr.stp sw12 (fun x hx => frw12 x (hfr.lt x hx).2 (d_hfr_h4 x hx))
  replace hn := hn.stp sw12 (frw12 nb hn.lt ne_hn_h4)
  replace hk := hk.stp sw12
  replace hlow := sw12.low
  replace hB := sw12.z hB
  replace h4 : MB B _ w12 b4 _ [.int .u8 0, .string ⟨#[]⟩, .string ⟨#[]⟩, .int .i64 0, .bool false, .int .u8 0, .string ⟨#[]⟩, .int .i64 0, .slice none 0 0, .slice none 0 0] := ⟨hw12, h4.inM, h4.ge⟩
  refine l_p 1 tK rfl (q1 (c_ret ?_))
  refine x_ret2st tK (fun j v hv => h4.cell j v hv) rfl rfl rfl rfl rfl rfl ?_
  obtain rfl : i = t.kids.length := by omega
  rw [List.take_of_length_le (Nat.le_refl _)] at hn hic
  have hdd : nsz t ≤ c → ((c - nszs t.kids : Nat) : Int) = (c : Int) - nsz t + 1 := fun _ => by omega
  rw [show decide (c < nsz t) = false from decide_eq_false (by omega), nodeAt_out (show nsz t ≤ c by omega)]
  have hres : Rep.R M w12 (.agg #[.int .u8 0, .string ⟨#[]⟩, .string ⟨#[]⟩, .int .i64 0, .bool false, .int .u8 0, .string ⟨#[]⟩, .int .i64 0, .slice none 0 0, .slice none 0 0]) tz5 := tm_mk (ann := .mk 0 ⟨#[]⟩ 0 []) (by decide) (by decide) (by decide) ⟨by decide, by decide⟩ (ty_mk (by decide) (by decide) ⟨by decide, by decide⟩ sl_nil) sl_nil
  exact ⟨⟨_, rfl, hres⟩, ⟨_, ⟨hn.box, hn0.inM, hn0.ge⟩, hdd⟩, hT.drop hlow0, hfr⟩
end Go.Proofs.Ytohfnpmehgpphaa
namespace Rw
open Go Go.RowKit
/-- The value is the expression; all its blocks are in F (rows of A's: its annotations', of E's: its kids', from B on). -/
inductive OTm (A E B : Nat) (w : World) : Tm → Value → (Nat → Prop) → Prop
  | mk {op n : Int} {name arg : ByteArray} {has : Bool} {ann : Ty} {kids : List Tm} {akv kv : Value} (us : List (VN 9)) (Fs : Nat → Nat → Prop) (FA F : Nat → Prop)
      (hop : 0 ≤ op ∧ op ≤ 255) (hs : name.size < 140737488355328) (hg : arg.size < 140737488355328) (hn : I64 n) (hann : OTy A B w ann (.agg #[.int .u8 ann.op, .string ann.name, .int .i64 ann.n, akv]) FA) (hl : kids.length < 140737488355328)
      (hlt : ∀ c, F c → B ≤ c ∧ c < w.heap.size) (hr : OwnSl E B F w kv us) (hlen : us.length = kids.length)
      (hu : ∀ (i : Nat) (x : Tm) (u : VN 9), kids[i]? = some x → us[i]? = some u → OTm A E B w x u.v (Fs i))
      (hF : ∀ i c, i < kids.length → Fs i c → F c ∧ kv.ownBlock ≠ some c)
      (hd : ∀ i j c, i < kids.length → j < kids.length → i ≠ j → Fs i c → ¬ Fs j c)
      (hA : ∀ c, FA c → F c ∧ kv.ownBlock ≠ some c ∧ ∀ i, i < kids.length → ¬ Fs i c) :
      OTm A E B w (.mk op name arg n has ann kids) (.agg #[.int .u8 op, .string name, .string arg, .int .i64 n, .bool has, .int .u8 ann.op, .string ann.name, .int .i64 ann.n, akv, kv]) F
/-- Trees, one by one, that share nothing. -/
structure OMs (A E B : Nat) (w : World) (us : List (VN 9)) (ts : List Tm) (F : Nat → Prop) : Prop where
  len : us.length = ts.length
  lt : ∀ c, F c → B ≤ c ∧ c < w.heap.size
  fam : ∃ Fs : Nat → Nat → Prop, (∀ (i : Nat) (x : Tm) (u : VN 9), ts[i]? = some x → us[i]? = some u → OTm A E B w x u.v (Fs i)) ∧ (∀ i c, i < ts.length → Fs i c → F c) ∧
    (∀ i j c, i < ts.length → j < ts.length → i ≠ j → Fs i c → ¬ Fs j c)
section
variable {A E B B' : Nat} {w w' : World} {t x : Tm} {v : Value} {us : List (VN 9)} {ts : List Tm} {F F' G G' : Nat → Prop} {M M' : Nat → Prop}
theorem otm_open (h : OTm A E B w t v F) : ∃ (akv kv : Value) (us : List (VN 9)) (H FA : Nat → Prop), v = .agg #[.int .u8 t.op, .string t.name, .string t.arg, .int .i64 t.n, .bool t.has, .int .u8 t.ann.op, .string t.ann.name, .int .i64 t.ann.n, akv, kv] ∧
    OTy A B w t.ann (.agg #[.int .u8 t.ann.op, .string t.ann.name, .int .i64 t.ann.n, akv]) FA ∧ t.kids.length < 140737488355328 ∧
    OwnSl E B F w kv us ∧ OMs A E B w us t.kids H ∧ (∀ c, H c → F c ∧ kv.ownBlock ≠ some c) ∧ (∀ c, FA c → F c ∧ kv.ownBlock ≠ some c ∧ ¬ H c) := by
  cases h with
  | mk us Fs FA F hop hs hg hn hann hl hlt hr hlen hu hF hd hA =>
    exact ⟨_, _, us, fun c => ∃ i, i < _ ∧ Fs i c, FA, rfl, hann, hl, hr, ⟨hlen, fun c ⟨i, hi, hc⟩ => hlt c (hF i c hi hc).1, Fs, hu, fun i c hi hc => ⟨i, hi, hc⟩, hd⟩, fun c ⟨i, hi, hc⟩ => hF i c hi hc, fun c hc => ⟨(hA c hc).1, (hA c hc).2.1, fun ⟨i, hi, hf⟩ => (hA c hc).2.2 i hi hf⟩⟩
theorem otm_mk {akv kv : Value} {op n : Int} {name arg : ByteArray} {has : Bool} {ann : Ty} {kids : List Tm} {H FA : Nat → Prop} (h1 : 0 ≤ op ∧ op ≤ 255) (h2 : name.size < 140737488355328) (hg : arg.size < 140737488355328) (h3 : I64 n)
    (hann : OTy A B w ann (.agg #[.int .u8 ann.op, .string ann.name, .int .i64 ann.n, akv]) FA) (h4 : kids.length < 140737488355328) (hlt : ∀ c, F c → B ≤ c ∧ c < w.heap.size)
    (hr : OwnSl E B F w kv us) (hk : OMs A E B w us kids H) (hH : ∀ c, H c → F c ∧ kv.ownBlock ≠ some c) (hA : ∀ c, FA c → F c ∧ kv.ownBlock ≠ some c ∧ ¬ H c) :
    OTm A E B w (.mk op name arg n has ann kids) (.agg #[.int .u8 op, .string name, .string arg, .int .i64 n, .bool has, .int .u8 ann.op, .string ann.name, .int .i64 ann.n, akv, kv]) F := by
  obtain ⟨Fs, h5, h6, h7⟩ := hk.fam
  exact .mk us Fs FA F h1 h2 hg h3 hann h4 hlt hr hk.len h5 (fun i c hi hc => hH c (h6 i c hi hc)) h7 (fun c hc => ⟨(hA c hc).1, (hA c hc).2.1, fun i hi hf => (hA c hc).2.2 (h6 i c hi hf)⟩)
theorem OTm.lt (h : OTm A E B w t v F) : ∀ c, F c → B ≤ c ∧ c < w.heap.size := by
  cases h with
  | mk us Fs FA F hop hs hg hn hann hl hlt => exact hlt
theorem OTm.keepC (h : OTm A E B w t v F) (hs : w.heap.size ≤ w'.heap.size) (hw : ∀ c cs T, F c → w.heap[c]? = some (.cells cs T (0, 0)) → w'.heap[c]? = w.heap[c]?) : OTm A E B w' t v F := by
  induction h with
  | mk us Fs FA F hop hnm hg hn hann hl hlt hr hlen hu hF hd hA ih =>
    exact .mk us Fs FA F hop hnm hg hn (hann.keepC hs fun c cs T hc => hw c cs T (hA c hc).1) hl (fun c hc => ⟨(hlt c hc).1, Nat.lt_of_lt_of_le (hlt c hc).2 hs⟩) (hr.keepV hr.inM fun b cs T hb hg => hw b cs T (hr.inM b hb) hg) hlen (fun i x u hx hu' => ih i x u hx hu' fun c cs T hc => hw c cs T (hF i c (List.getElem?_eq_some_iff.1 hx).1 hc).1) hF hd hA
theorem OTm.keep (h : OTm A E B w t v F) (hs : w.heap.size ≤ w'.heap.size) (hw : ∀ c, F c → w'.heap[c]? = w.heap[c]?) : OTm A E B w' t v F := h.keepC hs fun c _ _ hc _ => hw c hc
theorem OTm.ext (h : OTm A E B w t v F) (_hl : Low M w) (_hB : B ≤ w.heap.size) (e : Ext w w') : OTm A E B w' t v F := h.keep e.size fun c hc => e.block c (h.lt c hc).2
theorem OTm.stp (h : OTm A E B w t v F) (s : Stp B' M M' w w') (hw : ∀ c, F c → w'.heap[c]? = w.heap[c]?) : OTm A E B w' t v F := h.keep s.upd.1 hw
theorem OTm.mono (h : OTm A E B w t v F) (hF : ∀ c, F c → F' c) (hlt : ∀ c, F' c → B ≤ c ∧ c < w.heap.size) : OTm A E B w t v F' := by
  cases h with
  | mk us Fs FA F hop hs hg hn hann hl _ hr hlen hu hFs hd hA => exact .mk us Fs FA F' hop hs hg hn hann hl hlt (hr.keepV (fun b hb => hF b (hr.inM b hb)) fun _ _ _ _ _ => rfl) hlen hu (fun i c hi hc => ⟨hF c (hFs i c hi hc).1, (hFs i c hi hc).2⟩) hd (fun c hc => ⟨hF c (hA c hc).1, (hA c hc).2⟩)
theorem OTm.ge (h : OTm A E B w t v F) (hB : B' ≤ B) : OTm A E B' w t v F := by
  induction h with
  | mk us Fs FA F hop hs hg hn hann hl hlt hr hlen hu hF hd hA ih => exact .mk us Fs FA F hop hs hg hn (hann.ge hB) hl (fun c hc => ⟨Nat.le_trans hB (hlt c hc).1, (hlt c hc).2⟩) (hr.geV hB) hlen ih hF hd hA
theorem OTm.size (h : OTm A E B w t v F) : v.cells.size = 10 := by cases h; rfl
theorem OTm.rep (h : OTm A E B w t v F) (hM : ∀ c, F c → ¬ M c) : Rep.R M w v t := by
  induction h with
  | mk us Fs FA F hop hs hg hn hann hl hlt hr hlen hu hF hd hA ih =>
    exact tm_mk hop hs hg hn (hann.rep fun c hc => hM c (hA c hc).1) ((hr.slV (M0 := M) (by omega) (fun b hb => hM b (hr.inM b hb))).ofV (k := 9) rfl hlen fun i x u hx hu' => ih i x u hx hu' fun c hc => hM c (hF i c (List.getElem?_eq_some_iff.1 hx).1 hc).1)
theorem OTm.one (h : OTm A E B w t v F) : ∀ u ∈ v.cells.toList, u.oneCell' = true := Rep.one (h.rep (M := NoM) fun _ _ h => h)
theorem OTm.vn (h : OTm A E B w t v F) : Rep.R M w' v (⟨v⟩ : VN 9) := ⟨rfl, h.size, h.one⟩
theorem oms_nil (hlt : ∀ c, F c → B ≤ c ∧ c < w.heap.size) : OMs A E B w [] [] F := ⟨rfl, hlt, fun _ _ => False, fun i x u h => by simp at h, fun i c h => by simp at h, fun i j c h => by simp at h⟩
theorem OMs.keepC (h : OMs A E B w us ts F) (hs : w.heap.size ≤ w'.heap.size) (hw : ∀ c cs T, F c → w.heap[c]? = some (.cells cs T (0, 0)) → w'.heap[c]? = w.heap[c]?) : OMs A E B w' us ts F := by
  obtain ⟨Fs, h5, h6, h7⟩ := h.fam
  exact ⟨h.len, fun c hc => ⟨(h.lt c hc).1, Nat.lt_of_lt_of_le (h.lt c hc).2 hs⟩, Fs, fun i x u hx hu => (h5 i x u hx hu).keepC hs fun c cs T hc => hw c cs T (h6 i c (List.getElem?_eq_some_iff.1 hx).1 hc), h6, h7⟩
theorem OMs.keep (h : OMs A E B w us ts F) (hs : w.heap.size ≤ w'.heap.size) (hw : ∀ c, F c → w'.heap[c]? = w.heap[c]?) : OMs A E B w' us ts F := h.keepC hs fun c _ _ hc _ => hw c hc
theorem OMs.ext (h : OMs A E B w us ts F) (_hl : Low M w) (_hB : B ≤ w.heap.size) (e : Ext w w') : OMs A E B w' us ts F := h.keep e.size fun c hc => e.block c (h.lt c hc).2
theorem OMs.stp (h : OMs A E B w us ts F) (s : Stp B' M M' w w') (hw : ∀ c, F c → w'.heap[c]? = w.heap[c]?) : OMs A E B w' us ts F := h.keep s.upd.1 hw
theorem OMs.mono (h : OMs A E B w us ts F) (hF : ∀ c, F c → F' c) (hlt : ∀ c, F' c → B ≤ c ∧ c < w.heap.size) : OMs A E B w us ts F' := by
  obtain ⟨Fs, h5, h6, h7⟩ := h.fam
  exact ⟨h.len, hlt, Fs, h5, fun i c hi hc => hF c (h6 i c hi hc), h7⟩
theorem OMs.app (h : OMs A E B w us ts F) (hx : OTm A E B w x v G) (hd : ∀ c, G c → ¬ F c) : OMs A E B w (us ++ [⟨v⟩]) (ts ++ [x]) (fun c => F c ∨ G c) := by
  obtain ⟨Fs, h5, h6, h7⟩ := h.fam
  refine ⟨by simp [h.len], fun c hc => hc.elim (h.lt c) (hx.lt c), fun i c => if i < ts.length then Fs i c else G c, fun i y u hy hu => ?_, fun i c hi hc => ?_, fun i j c hi hj hij hc hc' => ?_⟩
  · by_cases hlt : i < ts.length
    · have hlt' : i < us.length := by rw [h.len]; exact hlt
      rw [List.getElem?_append_left hlt] at hy
      rw [List.getElem?_append_left hlt'] at hu
      simp only [hlt, if_true]
      exact h5 i y u hy hu
    · have h8 := (List.getElem?_eq_some_iff.1 hy).1
      simp only [List.length_append, List.length_singleton] at h8
      obtain rfl : i = ts.length := by omega
      rw [List.getElem?_append_right (Nat.le_refl _)] at hy
      rw [← h.len, List.getElem?_append_right (Nat.le_refl _)] at hu
      simp at hy hu
      subst hy; subst hu
      simpa using hx
  · by_cases hlt : i < ts.length
    · simp only [hlt, if_true] at hc; exact .inl (h6 i c hlt hc)
    · simp only [hlt, if_false] at hc; exact .inr hc
  · simp only [List.length_append, List.length_singleton] at hi hj
    by_cases hlt : i < ts.length
    · simp only [hlt, if_true] at hc
      by_cases hlt' : j < ts.length
      · simp only [hlt', if_true] at hc'; exact h7 i j c hlt hlt' hij hc hc'
      · simp only [hlt', if_false] at hc'; exact hd c hc' (h6 i c hlt hc)
    · simp only [hlt, if_false] at hc
      by_cases hlt' : j < ts.length
      · simp only [hlt', if_true] at hc'; exact hd c hc (h6 j c hlt' hc')
      · omega
/-- .. with number i taken out: its blocks are G. -/
structure OMh (A E B : Nat) (w : World) (us : List (VN 9)) (ts : List Tm) (i : Nat) (F G : Nat → Prop) : Prop where
  len : us.length = ts.length
  at' : i < ts.length
  lt : ∀ c, F c → B ≤ c ∧ c < w.heap.size
  fam : ∃ Fs : Nat → Nat → Prop, (∀ (j : Nat) (x : Tm) (u : VN 9), j ≠ i → ts[j]? = some x → us[j]? = some u → OTm A E B w x u.v (Fs j)) ∧ (∀ j c, j < ts.length → j ≠ i → Fs j c → F c ∧ ¬ G c) ∧
    (∀ j k c, j < ts.length → k < ts.length → j ≠ i → k ≠ i → j ≠ k → Fs j c → ¬ Fs k c)
theorem OMs.take (h : OMs A E B w us ts F) {i : Nat} (hx : ts[i]? = some x) : ∃ (u : VN 9) (G : Nat → Prop), us[i]? = some u ∧ OTm A E B w x u.v G ∧ (∀ c, G c → F c) ∧ OMh A E B w us ts i F G := by
  obtain ⟨Fs, h5, h6, h7⟩ := h.fam
  have hi := (List.getElem?_eq_some_iff.1 hx).1
  have hi' : i < us.length := by rw [h.len]; exact hi
  exact ⟨_, Fs i, List.getElem?_eq_getElem hi', h5 i x _ hx (List.getElem?_eq_getElem hi'), fun c hc => h6 i c hi hc, h.len, hi, h.lt, Fs, fun j y u _ hy hu => h5 j y u hy hu, fun j c hj hji hc => ⟨h6 j c hj hc, h7 j i c hj hi hji hc⟩, fun j k c hj hk _ _ hjk => h7 j k c hj hk hjk⟩
theorem OMh.keep {i : Nat} (h : OMh A E B w us ts i F G) (hs : w.heap.size ≤ w'.heap.size) (hw : ∀ c, F c → ¬ G c → w'.heap[c]? = w.heap[c]?) : OMh A E B w' us ts i F G := by
  obtain ⟨Fs, h5, h6, h7⟩ := h.fam
  exact ⟨h.len, h.at', fun c hc => ⟨(h.lt c hc).1, Nat.lt_of_lt_of_le (h.lt c hc).2 hs⟩, Fs, fun j y u hj hy hu => (h5 j y u hj hy hu).keep hs fun c hc => have hq := h6 j c (List.getElem?_eq_some_iff.1 hy).1 hj hc; hw c hq.1 hq.2, h6, h7⟩
theorem OMh.stp {i : Nat} (h : OMh A E B w us ts i F G) (s : Stp B' M M' w w') (hw : ∀ c, F c → ¬ G c → w'.heap[c]? = w.heap[c]?) : OMh A E B w' us ts i F G := h.keep s.upd.1 hw
theorem OMh.put {i : Nat} (h : OMh A E B w us ts i F G) (hx : OTm A E B w x v G') (hG : ∀ c, G' c → G c ∨ ¬ F c) : OMs A E B w (us.set i ⟨v⟩) (ts.set i x) (fun c => F c ∨ G' c) := by
  obtain ⟨Fs, h5, h6, h7⟩ := h.fam
  have hi := h.at'
  have hi' : i < us.length := by rw [h.len]; exact hi
  refine ⟨by simp [h.len], fun c hc => hc.elim (h.lt c) (hx.lt c), fun j c => if j = i then G' c else Fs j c, fun j y u hy hu => ?_, fun j c hj hc => ?_, fun j k c hj hk hjk hc hc' => ?_⟩
  · by_cases e : j = i
    · subst e
      simp [hi] at hy
      simp [hi'] at hu
      subst hy; subst hu
      simpa using hx
    · rw [List.getElem?_set_ne (fun e' => e e'.symm)] at hy hu
      simp only [e, if_false]
      exact h5 j y u e hy hu
  · rw [List.length_set] at hj
    by_cases e : j = i
    · simp only [e, if_true] at hc; exact .inr hc
    · simp only [e, if_false] at hc; exact .inl (h6 j c hj e hc).1
  · rw [List.length_set] at hj hk
    have key : ∀ j c, j < ts.length → j ≠ i → Fs j c → ¬ G' c := fun j c hj hji hc hg => (hG c hg).elim (h6 j c hj hji hc).2 (fun hn => hn (h6 j c hj hji hc).1)
    by_cases e : j = i
    · simp only [e, if_true] at hc
      by_cases e' : k = i
      · omega
      · simp only [e', if_false] at hc'; exact key k c hk e' hc' hc
    · simp only [e, if_false] at hc
      by_cases e' : k = i
      · simp only [e', if_true] at hc'; exact key j c hj e hc hc'
      · simp only [e', if_false] at hc'; exact h7 j k c hj hk e e' hjk hc hc'
theorem otm_fin {w0 : World} {akv kv : Value} {op n : Int} {name arg : ByteArray} {has : Bool} {ann : Ty} {kids : List Tm} {FA : Nat → Prop} (h1 : 0 ≤ op ∧ op ≤ 255) (h2 : name.size < 140737488355328) (hg : arg.size < 140737488355328) (h3 : I64 n) (h4 : kids.length < 140737488355328)
    (hann : OTy A w0.heap.size w ann (.agg #[.int .u8 ann.op, .string ann.name, .int .i64 ann.n, akv]) FA)
    (hr : OwnSl E w0.heap.size M w kv us) (hk : OMs A E w0.heap.size w us kids F) (hd : ∀ x y, kv.ownBlock = some x → F y → x ≠ y) (hd2 : ∀ x y, kv.ownBlock = some x → FA y → x ≠ y) (hd3 : ∀ c, FA c → ¬ F c) :
    OTm A E w0.heap.size w (.mk op name arg n has ann kids) (.agg #[.int .u8 op, .string name, .string arg, .int .i64 n, .bool has, .int .u8 ann.op, .string ann.name, .int .i64 ann.n, akv, kv]) (Plus NoM w0 w) :=
  otm_mk h1 h2 hg h3 hann h4 (fun c hc => hc.elim (fun h => h.elim) id) (hr.keepV (fun b hb => .inr (hr.lt b hb)) fun _ _ _ _ _ => rfl) hk (fun c hc => ⟨.inr (hk.lt c hc), fun e => hd c c e hc rfl⟩) (fun c hc => ⟨.inr (hann.lt c hc), fun e => hd2 c c e hc rfl, hd3 c hc⟩)
theorem otm_leaf : OTm A E B w (.mk 0 ⟨#[]⟩ ⟨#[]⟩ 0 false (.mk 0 ⟨#[]⟩ 0 []) []) (.agg #[.int .u8 0, .string ⟨#[]⟩, .string ⟨#[]⟩, .int .i64 0, .bool false, .int .u8 0, .string ⟨#[]⟩, .int .i64 0, .slice none 0 0, .slice none 0 0]) NoM :=
  otm_mk (us := []) (H := NoM) (FA := NoM) (by decide) (by decide) (by decide) ⟨by decide, by decide⟩ (oty_leafB (by decide) (by decide) ⟨by decide, by decide⟩) (by decide) (fun _ h => h.elim) own_nil (oms_nil (fun _ h => h.elim)) (fun _ h => h.elim) (fun _ h => h.elim)
end
end Rw
namespace Go.Proofs.Ytohfnpmehgpphaa
open Go Rw Go.RowKit
set_option maxRecDepth 100000
theorem takeM_same {l k : List Tm} {i : Nat} (hi : i < l.length) (hk : i < k.length) (h : l.take i = k.take i) (e : l[i] = k[i]) : l.take (i + 1) = k.take (i + 1) := by
 rw [List.take_succ_eq_append_getElem hi, List.take_succ_eq_append_getElem hk, h, e]
theorem takeM_full {l k : List Tm} {i : Nat} (hi : l.length ≤ i) (hl : l.length = k.length) (h : l.take i = k.take i) : l = k := by
 rw [List.take_of_length_le hi, List.take_of_length_le (by omega)] at h; exact h
theorem alikeM_spec : ∀ (t : Tm) (s : Tm) (M : Nat → Prop) (w : World) (v u : Value), Rep.R M w v t → Rep.R M w u s → Low M w → Calls Try.prog 37 #[v, u] w (Ret fun r w' => r = .bool (@decide (t = s) (Classical.propDecidable _)) ∧ Ext w w') := by
 refine Tm.ind fun t ih => ?_
 intro s M w v u ht hs hlow
 have hE : Below w.heap.size w w := Below.refl _ _
 have hB : w.heap.size ≤ w.heap.size := Nat.le_refl _
 obtain ⟨akv, kv, rfl, op, nm, ag, n64, ha, hk⟩ := tm_open ht
 obtain ⟨akvs, kvs, rfl, ops, nms, ags, n64s, has, hks⟩ := tm_open hs
 have hlt := hk.lt
 refine c_enter (n := 75) Try.func37 rfl rfl rfl ?_
 refine q0 ?_
 refine lC (o_box rfl rfl rfl ?_)
 intro b1 w1 hb_b1 ew1 h1
 replace h1 : Box _ b1 84 [.int .u8 t.op, .string t.name, .string t.arg, .int .i64 t.n, .bool t.has, .int .u8 t.ann.op, .string t.ann.name, .int .i64 t.ann.n, akv, kv] := h1
 replace h1 := h1.at (nM_of hlow hb_b1)
 replace hE := ew1.bl hE hB
 replace ht := Rep.ext ht ew1
 replace ha := Rep.ext ha ew1
 replace hk := hk.ext ew1
 replace hs := Rep.ext hs ew1
 replace has := Rep.ext has ew1
 replace hks := hks.ext ew1
 replace hlow := hlow.ext ew1
 replace hB := ew1.z hB
 refine lC (o_box rfl rfl rfl ?_)
 intro b2 w2 hb_b2 ew2 h2
 replace h2 : Box _ b2 84 [.int .u8 s.op, .string s.name, .string s.arg, .int .i64 s.n, .bool s.has, .int .u8 s.ann.op, .string s.ann.name, .int .i64 s.ann.n, akvs, kvs] := h2
 replace h2 := h2.at (nM_of hlow hb_b2)
 replace hE := ew2.bl hE hB
 replace ht := Rep.ext ht ew2
 replace ha := Rep.ext ha ew2
 replace hk := hk.ext ew2
 replace hs := Rep.ext hs ew2
 replace has := Rep.ext has ew2
 replace hks := hks.ext ew2
 replace h1 := h1.ext ew2
 replace hlow := hlow.ext ew2
 replace hB := ew2.z hB
 refine l_p 1 tK rfl (q1 (c_seq (q0 (l_p 1 tK rfl ?_))))
 refine lC (o_ld tK (h1.cell 0 _ rfl) rfl rfl rfl rfl rfl ?_)
 refine l_p 1 tK rfl ?_
 refine lC (o_ld tK (h2.cell 0 _ rfl) rfl rfl rfl rfl rfl ?_)
 refine l_p 2 tK rfl ?_
 refine l_splitN 11 _ rfl (fun c1 => ?_) (fun c1 => ?_)
 ·refine l_p 44 tK rfl (q1 (c_ifT rfl (q0 (l_p 1 tK rfl (q1 (c_ret (x_seqR (x_ret1 rfl rfl ?_))))))))
  exact ⟨by rw [cl_false (fun e => by subst e; clear ih; first | simp_all | (rw [cl_true rfl] at *; simp_all))], hE⟩
 refine l_p 1 tK rfl ?_
 refine lC (o_ld tK (h1.cell 1 _ rfl) rfl rfl rfl rfl rfl ?_)
 refine l_p 1 tK rfl ?_
 refine lC (o_ld tK (h2.cell 1 _ rfl) rfl rfl rfl rfl rfl ?_)
 refine l_p 3 tK rfl ?_
 refine l_splitN 18 _ rfl (fun c2 => ?_) (fun c2 => ?_)
 ·refine l_p 37 tK rfl (q1 (c_ifT rfl (q0 (l_p 1 tK rfl (q1 (c_ret (x_seqR (x_ret1 rfl rfl ?_))))))))
  exact ⟨by rw [cl_false (fun e => by subst e; clear ih; first | simp_all | (rw [cl_true rfl] at *; simp_all))], hE⟩
 refine l_p 1 tK rfl ?_
 refine lC (o_ld tK (h1.cell 2 _ rfl) rfl rfl rfl rfl rfl ?_)
 refine l_p 1 tK rfl ?_
 refine lC (o_ld tK (h2.cell 2 _ rfl) rfl rfl rfl rfl rfl ?_)
 refine l_p 3 tK rfl ?_
 refine l_splitN 25 _ rfl (fun c3 => ?_) (fun c3 => ?_)
 ·refine l_p 30 tK rfl (q1 (c_ifT rfl (q0 (l_p 1 tK rfl (q1 (c_ret (x_seqR (x_ret1 rfl rfl ?_))))))))
  exact ⟨by rw [cl_false (fun e => by subst e; clear ih; first | simp_all | (rw [cl_true rfl] at *; simp_all))], hE⟩
 refine l_p 1 tK rfl ?_
 refine lC (o_ld tK (h1.cell 3 _ rfl) rfl rfl rfl rfl rfl ?_)
 refine l_p 1 tK rfl ?_
 refine lC (o_ld tK (h2.cell 3 _ rfl) rfl rfl rfl rfl rfl ?_)
 refine l_p 3 tK rfl ?_
 refine l_splitN 32 _ rfl (fun c4 => ?_) (fun c4 => ?_)
 ·refine l_p 23 tK rfl (q1 (c_ifT rfl (q0 (l_p 1 tK rfl (q1 (c_ret (x_seqR (x_ret1 rfl rfl ?_))))))))
  exact ⟨by rw [cl_false (fun e => by subst e; clear ih; first | simp_all | (rw [cl_true rfl] at *; simp_all))], hE⟩
 refine l_p 1 tK rfl ?_
 refine lC (o_ld tK (h1.cell 4 _ rfl) rfl rfl rfl rfl rfl ?_)
 refine l_p 1 tK rfl ?_
 refine lC (o_ld tK (h2.cell 4 _ rfl) rfl rfl rfl rfl rfl ?_)
 refine lC (o_bne tK rfl rfl rfl rfl rfl rfl ?_)
 refine l_p 2 tK rfl ?_
 refine l_split 39 _ rfl (fun c5 => ?_) (fun c5 => ?_)
 ·refine l_p 16 tK rfl (q1 (c_ifT rfl (q0 (l_p 1 tK rfl (q1 (c_ret (x_seqR (x_ret1 rfl rfl ?_))))))))
  exact ⟨by rw [cl_false (fun e => by subst e; clear ih; first | simp_all | (rw [cl_true rfl] at *; simp_all))], hE⟩
 refine l_p 1 tK rfl ?_
 refine lC (o_lds tK (fun j v hv => (h1).mid 5 (sub := [.int .u8 t.ann.op, .string t.ann.name, .int .i64 t.ann.n, akv]) rfl j v hv) rfl rfl rfl rfl rfl rfl ?_)
 refine l_p 1 tK rfl ?_
 refine lC (o_lds tK (fun j v hv => (h2).mid 5 (sub := [.int .u8 s.ann.op, .string s.ann.name, .int .i64 s.ann.n, akvs]) rfl j v hv) rfl rfl rfl rfl rfl rfl ?_)
 refine lC (o_call fo38 rfl rfl rfl (alike_spec _ _ M _ _ _ ha has hlow) ?_)
 rintro _ w3 ⟨rfl, ew3⟩
 replace hE := ew3.bl hE hB
 replace ht := Rep.ext ht ew3
 replace ha := Rep.ext ha ew3
 replace hk := hk.ext ew3
 replace hs := Rep.ext hs ew3
 replace has := Rep.ext has ew3
 replace hks := hks.ext ew3
 replace h1 := h1.ext ew3
 replace h2 := h2.ext ew3
 replace hlow := hlow.ext ew3
 replace hB := ew3.z hB
 refine l_p 3 tK rfl ?_
 refine l_splitB 47 _ rfl (fun c6 => ?_) (fun c6 => ?_)
 ·refine l_p 8 tK rfl (q1 (c_ifT rfl (q0 (l_p 1 tK rfl (q1 (c_ret (x_seqR (x_ret1 rfl rfl ?_))))))))
  exact ⟨by rw [cl_false (fun e => by subst e; clear ih; first | simp_all | (rw [cl_true rfl] at *; simp_all))], hE⟩
 refine l_p 1 tK rfl ?_
 refine lC (o_ld tK (h1.cell 9 _ rfl) rfl rfl rfl rfl rfl ?_)
 refine lC (o_len tK hk rfl rfl rfl rfl rfl ?_)
 refine l_p 1 tK rfl ?_
 refine lC (o_ld tK (h2.cell 9 _ rfl) rfl rfl rfl rfl rfl ?_)
 refine lC (o_len tK hks rfl rfl rfl rfl rfl ?_)
 refine l_p 2 tK rfl (q1 ?_)
 refine c_ifN _ rfl (fun c7 => ?_) (fun c7 => ?_)
 ·refine q0 (l_p 1 tK rfl (q1 (c_ret (x_seqR (x_ret1 rfl rfl ?_)))))
  exact ⟨by rw [cl_false (fun e => by subst e; clear ih; first | simp_all | (rw [cl_true rfl] at *; simp_all))], hE⟩
 refine c_skip (x_seq (c_seq (q0 (l_p 1 tK rfl (q1 (c_blk ?_))))))
 have hop : t.op = s.op := by assumption
 have hnm : t.name = s.name := by assumption
 have hag : t.arg = s.arg := by assumption
 have hnn : t.n = s.n := by assumption
 have hhs : t.has = s.has := by clear ih; simp_all
 have han : t.ann = s.ann := cl_of (by clear ih; simp_all)
 have hll : t.kids.length = s.kids.length := by omega
 refine c_loop (X := Nat) (fun i => [(2, .pointer (some ⟨b1, 0, none⟩)), (3, .pointer (some ⟨b2, 0, none⟩)), (5, .int .i64 (i : Nat))]) (fun i w' => i ≤ t.kids.length ∧ t.kids.take i = s.kids.take i ∧ At M w' b1 0 [.int .u8 t.op, .string t.name, .string t.arg, .int .i64 t.n, .bool t.has, .int .u8 t.ann.op, .string t.ann.name, .int .i64 t.ann.n, akv, kv] ∧ At M w' b2 0 [.int .u8 s.op, .string s.name, .string s.arg, .int .i64 s.n, .bool s.has, .int .u8 s.ann.op, .string s.ann.name, .int .i64 s.ann.n, akvs, kvs] ∧ Sl M w' kv t.kids ∧ Sl M w' kvs s.kids ∧ Low M w' ∧ Below w.heap.size w w' ∧ w.heap.size ≤ w'.heap.size) (fun i => t.kids.length - i) (0) (s3 rfl rfl rfl) ?_ ?_
 ·exact ⟨Nat.zero_le _, rfl, h1, h2, hk, hks, hlow, hE, hB⟩
 clear h1 h2 ht hs ha has hk hks hlow hE hB
 rintro i w4 ⟨hi, htake, h1, h2, hk, hks, hlow, hE, hB⟩
 refine c_seq (q0 (l_p 2 tK rfl ?_))
 refine lC (o_ld tK (h1.cell 9 _ rfl) rfl rfl rfl rfl rfl ?_)
 refine lC (o_len tK hk rfl rfl rfl rfl rfl ?_)
 refine l_p 1 tK rfl (q1 ?_)
 refine c_ifP _ rfl (fun c8 => ?_) (fun c8 => ?_)
 ·refine c_skip (x_seq (c_seq (c_blk (c_seq ?_))))
  refine a_beg Ext rfl ?_
  intro w5 ew5
  replace hE := ew5.bl hE hB
  replace h1 := h1.ext ew5
  replace h2 := h2.ext ew5
  replace hk := hk.ext ew5
  replace hks := hks.ext ew5
  replace hlow := hlow.ext ew5
  replace hB := ew5.z hB
  have hS : Ext w5 w5 := ext_refl _
  have D_h1 := h1
  have D_h2 := h2
  have D_hk := hk
  have D_hks := hks
  refine a_p 0 tK rfl rfl rfl rfl (by kernel_rfl) (fun _ _ _ h => h) hS ?_
  refine a_ld 1 tK (fun _ hs => (D_h1.ext hs).cell 9 _ rfl) rfl rfl rfl rfl rfl rfl (by kernel_rfl) (fun _ _ _ h => h) hS ?_
  refine a_p 2 tK rfl rfl rfl rfl (by kernel_rfl) (fun _ _ _ h => h) hS ?_
  have hik : i < t.kids.length := by omega
  have hiks : i < s.kids.length := by omega
  refine a_ixS 3 tK D_hk (List.getElem?_eq_getElem hik) rfl rfl rfl rfl rfl rfl rfl rfl rfl rfl (by kernel_rfl) (fun _ _ _ _ h => h) hS ?_
  intro ebx eox eux hyx hatx
  obtain ⟨akvx, kvx, rfl, opx, nmx, agx, n64x, hax, hkx⟩ := tm_open hyx
  replace hatx : At M w5 ebx eox [.int .u8 t.kids[i].op, .string t.kids[i].name, .string t.kids[i].arg, .int .i64 t.kids[i].n, .bool t.kids[i].has, .int .u8 t.kids[i].ann.op, .string t.kids[i].ann.name, .int .i64 t.kids[i].ann.n, akvx, kvx] := hatx
  refine a_lds 4 tK (fun _ hs j v hv => (hatx.ext hs).cell j v hv) rfl rfl rfl rfl rfl rfl rfl (by kernel_rfl) (fun _ _ _ h => h) hS ?_
  refine a_p 5 tK rfl rfl rfl rfl (by kernel_rfl) (fun _ _ _ h => h) hS ?_
  refine a_ld 6 tK (fun _ hs => (D_h2.ext hs).cell 9 _ rfl) rfl rfl rfl rfl rfl rfl (by kernel_rfl) (fun _ _ _ h => h) hS ?_
  refine a_p 7 tK rfl rfl rfl rfl (by kernel_rfl) (fun _ _ _ h => h) hS ?_
  refine a_ixS 8 tK D_hks (List.getElem?_eq_getElem hiks) rfl rfl rfl rfl rfl rfl rfl rfl rfl rfl (by kernel_rfl) (fun _ _ _ _ h => h) hS ?_
  intro eby eoy euy hyy haty
  obtain ⟨akvy, kvy, rfl, opy, nmy, agy, n64y, hay, hky⟩ := tm_open hyy
  replace haty : At M w5 eby eoy [.int .u8 s.kids[i].op, .string s.kids[i].name, .string s.kids[i].arg, .int .i64 s.kids[i].n, .bool s.kids[i].has, .int .u8 s.kids[i].ann.op, .string s.kids[i].ann.name, .int .i64 s.kids[i].ann.n, akvy, kvy] := haty
  refine a_lds 9 tK (fun _ hs j v hv => (haty.ext hs).cell j v hv) rfl rfl rfl rfl rfl rfl rfl (by kernel_rfl) (fun _ _ _ h => h) hS ?_
  refine a_bar 10 rfl (by kernel_rfl) (by kernel_rfl) (o_call fo37 rfl rfl rfl (ih _ (List.getElem_mem hik) _ _ _ _ _ hyx hyy hlow) ?_)
  rintro _ w6 ⟨rfl, ew6⟩
  replace hS := hS.then ew6
  replace hE := ew6.bl hE hB
  replace h1 := h1.ext ew6
  replace h2 := h2.ext ew6
  replace hk := hk.ext ew6
  replace hks := hks.ext ew6
  replace hyx := Rep.ext hyx ew6
  replace hax := Rep.ext hax ew6
  replace hkx := hkx.ext ew6
  replace hatx := hatx.ext ew6
  replace hyy := Rep.ext hyy ew6
  replace hay := Rep.ext hay ew6
  replace hky := hky.ext ew6
  replace haty := haty.ext ew6
  replace hlow := hlow.ext ew6
  replace hB := ew6.z hB
  refine a_p 11 tK rfl rfl rfl rfl (by kernel_rfl) (fun _ _ _ h => h) hS ?_
  refine a_end (by kernel_rfl) ?_
  refine x_seq ?_
  refine c_ifB _ rfl (fun c9 => ?_) (fun c9 => ?_)
  ·refine q0 (l_p 1 tK rfl (q1 (c_ret (x_blkR (x_seqR (x_seqR (x_blkR (x_seqR (x_ret1 rfl rfl ?_)))))))))
   exact ⟨by rw [cl_false (fun e => by subst e; exact absurd rfl (cl_not c9))], hE⟩
  refine c_skip (x_blk (x_seq (c_reg (l_p 1 tK rfl ?_))))
  refine lC (o_ai rfl rfl rfl (by omega) rfl rfl ?_)
  refine l_p 1 tK rfl (l_nil ?_)
  exact x_round (i + 1) (s3 rfl rfl rfl) ⟨by omega, takeM_same hik hiks htake (cl_of (by simpa using c9)), h1, h2, hk, hks, hlow, hE, hB⟩ (by omega)
 refine c_exit (x_seqE (x_seqE (x_blkE (x_seq (q0 (l_p 1 tK rfl (q1 (c_ret (x_ret1 rfl rfl ?_)))))))))
 exact ⟨by rw [cl_true (Tm.ext' hop hnm hag hnn hhs han (takeM_full (by omega) hll htake))], hE⟩
end Go.Proofs.Ytohfnpmehgpphaa
namespace Go.Proofs.Ytohfnpmehgpphaa
open Go Rw Go.RowKit
set_option maxRecDepth 100000
def aszTo (t : Tm) (i : Nat) : Nat := (((nodesL t).take i).map fun x => psz x.ann).sum
theorem aszTo_all {t : Tm} : aszTo t (nsz t) = asz t := by
 unfold aszTo asz
 rw [List.take_of_length_le (show (nodesL t).length ≤ nsz t from Nat.le_refl _)]
theorem aszTo_step {t : Tm} {i : Nat} (h : i < (nodesL t).length) : aszTo t (i + 1) = aszTo t i + psz (nodesL t)[i].ann := by
 unfold aszTo
 rw [List.take_succ_eq_append_getElem h, List.map_append, List.sum_append]
 simp
theorem aszTo_le (t : Tm) (i : Nat) : aszTo t i ≤ asz t := by
 have h : asz t = aszTo t i + (((nodesL t).drop i).map fun x => psz x.ann).sum := by
  unfold asz aszTo
  rw [← List.sum_append, ← List.map_append, List.take_append_drop]
 omega
theorem nodes_spec : ∀ (t : Tm) (M : Nat → Prop) (w : World) (v : Value), Rep.R M w v t → Low M w → nsz t ≤ 2000000 → Calls Try.prog 81 #[v] w (Ret fun r w' => Sl M w' r (nodesL t) ∧ Ext w w') := by
 refine Tm.ind fun t ih => ?_
 intro M w v ht hlow0 hsz
 have hlow := hlow0
 have hB : w.heap.size ≤ w.heap.size := Nat.le_refl _
 have hE : Below w.heap.size w w := Below.refl _ _
 have hsub : ∀ b, M b → M b := fun _ h => h
 obtain ⟨akv, kv, rfl, op, nm, ag, n64, ha, hk⟩ := tm_open ht
 have hps := nsz_eq t
 have hkl := len_nsz t.kids
 refine c_enter (n := 23) Try.func81 rfl rfl rfl ?_
 refine q0 ?_
 refine lC (o_box rfl rfl rfl ?_)
 intro b1 w1 hb_b1 ew1 h1
 replace h1 : Box _ b1 84 [.int .u8 t.op, .string t.name, .string t.arg, .int .i64 t.n, .bool t.has, .int .u8 t.ann.op, .string t.ann.name, .int .i64 t.ann.n, akv, kv] := h1
 replace h1 := h1.at (nM_of hlow hb_b1)
 replace hE := ew1.bl hE hB
 replace ht := Rep.ext ht ew1
 replace ha := Rep.ext ha ew1
 replace hk := hk.ext ew1
 replace hlow := hlow.ext ew1
 replace hB := ew1.z hB
 refine l_p 1 tK rfl (q1 (q0 ?_))
 refine lC (o_lds tK (fun j v hv => h1.cell j v hv) rfl rfl rfl rfl rfl rfl ?_)
 refine lC (o_bs tK rfl rfl rfl rfl rfl rfl rfl (sz1 rfl) rfl rfl rfl ?_)
 intro bw2 w2 qbw2 ew2 hbw2
 have sw2 := Stp.add ew2 hlow hB (Nat.le_of_eq qbw2.symm) hbw2.lt
 have le_bw2 := hB
 replace hE := hE.trans sw2.below
 replace ht := Rep.stp ht sw2
 replace ha := Rep.stp ha sw2
 replace hk := hk.stp sw2
 replace h1 := h1.stp sw2
 replace hsub := sw2.sb hsub
 replace hlow := sw2.low
 replace hB := sw2.z hB
 have ho := own_litS sw2 hbw2 (show Rs _ _ [_] [t] from ⟨ht, trivial⟩) qbw2 le_bw2 (by simp [maxLen])
 refine l_p 1 tK rfl (q1 (c_seq (q0 (l_p 1 tK rfl (q1 (c_blk ?_))))))
 refine c_loop3 (X := Nat) (Y := Value) (Z := Nat → Prop) (fun i v M1 => [(1, .pointer (some ⟨b1, 0, none⟩)), (3, v), (4, .int .i64 (i : Nat))]) (fun i v M1 w' => i ≤ t.kids.length ∧ OwnSl 84 w.heap.size M1 w' v (t :: (t.kids.take i).flatMap nodesL) ∧ At M1 w' b1 0 [.int .u8 t.op, .string t.name, .string t.arg, .int .i64 t.n, .bool t.has, .int .u8 t.ann.op, .string t.ann.name, .int .i64 t.ann.n, akv, kv] ∧ Sl M1 w' kv t.kids ∧ Low M1 w' ∧ (∀ b, M b → M1 b) ∧ Below w.heap.size w w' ∧ w.heap.size ≤ w'.heap.size) (fun i v M1 => t.kids.length - i) (0) (.slice (some ⟨bw2, 0, none⟩) 1 1) ((Rw.Add M bw2)) (s3 rfl rfl rfl) ?_ ?_
 ·exact ⟨Nat.zero_le _, ho, h1, hk, hlow, hsub, hE, hB⟩
 clear ho h1 ht ha hk hlow hsub hE hB
 rintro i v M1 w3 ⟨hi, ho, h1, hk, hlow, hsub, hE, hB⟩
 refine c_seq (q0 (l_p 2 tK rfl ?_))
 refine lC (o_ld tK (h1.cell 9 _ rfl) rfl rfl rfl rfl rfl ?_)
 refine lC (o_len tK hk rfl rfl rfl rfl rfl ?_)
 refine l_p 1 tK rfl (q1 ?_)
 refine c_ifP _ rfl (fun c1 => ?_) (fun c1 => ?_)
 ·refine c_skip (x_seq (c_seq (c_blk (c_reg (l_p 2 tK rfl ?_)))))
  refine lC (o_ld tK (h1.cell 9 _ rfl) rfl rfl rfl rfl rfl ?_)
  refine l_p 1 tK rfl ?_
  have hik : i < t.kids.length := by omega
  have hp1 := nsz_get hik
  have hp2 := take_nsz t.kids i
  refine lC (o_ixS tK hk (List.getElem?_eq_getElem hik) rfl rfl rfl rfl rfl rfl rfl rfl rfl ?_)
  intro ebx eox eux hyx hatx
  obtain ⟨akvx, kvx, rfl, opx, nmx, agx, n64x, hax, hkx⟩ := tm_open hyx
  replace hatx : At M1 w3 ebx eox [.int .u8 t.kids[i].op, .string t.kids[i].name, .string t.kids[i].arg, .int .i64 t.kids[i].n, .bool t.kids[i].has, .int .u8 t.kids[i].ann.op, .string t.kids[i].ann.name, .int .i64 t.kids[i].ann.n, akvx, kvx] := hatx
  refine lC (o_lds tK (fun j v hv => hatx.cell j v hv) rfl rfl rfl rfl rfl rfl ?_)
  refine lC (o_call fo81 rfl rfl rfl (ih _ (List.getElem_mem hik) _ _ _ hyx hlow (by omega)) ?_)
  rintro vhr w4 ⟨hr, ew4⟩
  replace ho := ho.ext hlow hB ew4
  replace hE := ew4.bl hE hB
  replace h1 := h1.ext ew4
  replace hk := hk.ext ew4
  replace hyx := Rep.ext hyx ew4
  replace hax := Rep.ext hax ew4
  replace hkx := hkx.ext ew4
  replace hatx := hatx.ext ew4
  replace hlow := hlow.ext ew4
  replace hB := ew4.z hB
  have e1 : (t :: (t.kids.take i).flatMap nodesL).length = nszs (t.kids.take i) + 1 := rfl
  have e2 : (nodesL t.kids[i]).length = nsz t.kids[i] := rfl
  have e3 := take_nsz t.kids (i + 1)
  rw [nszs_take hik] at e3
  refine lC (o_app tK ho hr hlow hB rfl rfl rfl rfl rfl rfl rfl (by omega) (by rw [e1, e2]; show _ * 136 ≤ _; omega) rfl rfl ?_)
  intro vw5 w5 Mw5 hw5 sw5 frw5 blw5
  replace hE := hE.trans sw5.below
  replace h1 := h1.stp sw5
  replace hk := hk.stp sw5
  replace hyx := Rep.stp hyx sw5
  replace hax := Rep.stp hax sw5
  replace hkx := hkx.stp sw5
  replace hatx := hatx.stp sw5
  replace hr := hr.stp sw5
  replace hsub := sw5.sb hsub
  replace hlow := sw5.low
  replace hB := sw5.z hB
  replace ho := hw5
  clear hw5
  refine l_p 1 tK rfl (q2 (x_seq (c_reg (l_p 1 tK rfl ?_))))
  refine lC (o_ai rfl rfl rfl (by omega) rfl rfl ?_)
  refine l_p 1 tK rfl (l_nil ?_)
  exact x_round3 (i + 1) (vw5) (Mw5) (s3 rfl rfl rfl) ⟨by omega, by rw [ntake_step hik]; exact ho, h1, hk, hlow, hsub, hE, hB⟩ (by omega)
 refine c_exit (x_seqE (x_seqE (x_blkE (x_seq (q0 (l_p 2 tK rfl (q1 (c_ret (x_ret1 rfl rfl ?_)))))))))
 obtain rfl : i = t.kids.length := by omega
 rw [List.take_of_length_le (Nat.le_refl _), ← nodesL_eq] at ho
 exact ⟨ho.sl (by have : (nodesL t).length = nsz t := rfl; omega) hlow0 hsub, hE⟩
theorem manyM_spec (t : Tm) (M : Nat → Prop) (w : World) (v : Value) (ht : Rep.R M w v t) (hlow : Low M w) (hz : AnnS t) (hn : nsz t ≤ 2000000) (has : asz t ≤ 2000000) :
  Calls Try.prog 39 #[.slice none 0 0, v] w (Ret fun r w' => r = .bool (decide ((80 : Int) < (nsz t : Int)) || decide ((200 : Int) < (asz t : Int))) ∧ Ext w w') := by
 have hE : Below w.heap.size w w := Below.refl _ _
 have hB : w.heap.size ≤ w.heap.size := Nat.le_refl _
 obtain ⟨akv, kv, rfl, op, nm, ag, n64, ha, hk⟩ := tm_open ht
 refine c_enter (n := 53) Try.func39 rfl rfl rfl ?_
 refine q0 ?_
 refine lC (o_box rfl rfl rfl ?_)
 intro b3 w1 hb_b3 ew1 h3
 replace h3 : Box _ b3 84 [.int .u8 t.op, .string t.name, .string t.arg, .int .i64 t.n, .bool t.has, .int .u8 t.ann.op, .string t.ann.name, .int .i64 t.ann.n, akv, kv] := h3
 replace h3 := h3.at (nM_of hlow hb_b3)
 replace hE := ew1.bl hE hB
 replace ht := Rep.ext ht ew1
 replace ha := Rep.ext ha ew1
 replace hk := hk.ext ew1
 replace hlow := hlow.ext ew1
 replace hB := ew1.z hB
 refine l_p 1 tK rfl (q1 (q0 ?_))
 refine lC (o_lds tK (fun j v hv => h3.cell j v hv) rfl rfl rfl rfl rfl rfl ?_)
 refine lC (o_call fo81 rfl rfl rfl (nodes_spec t M _ _ ht hlow hn) ?_)
 rintro vhl w2 ⟨hl, ew2⟩
 replace hE := ew2.bl hE hB
 replace ht := Rep.ext ht ew2
 replace ha := Rep.ext ha ew2
 replace hk := hk.ext ew2
 replace h3 := h3.ext ew2
 replace hlow := hlow.ext ew2
 replace hB := ew2.z hB
 have hll : (nodesL t).length = nsz t := rfl
 refine l_p 1 tK rfl (q1 (q0 (l_p 1 tK rfl (q1 (c_seq (q0 (l_p 1 tK rfl (q1 (c_blk ?_)))))))))
 refine c_loop (X := Nat) (fun i => [(0, .slice none 0 0), (5, vhl), (6, .int .i64 (aszTo t i : Nat)), (7, .int .i64 (i : Nat))]) (fun i w' => i ≤ nsz t ∧ Sl M w' vhl (nodesL t) ∧ Low M w' ∧ Below w.heap.size w w' ∧ w.heap.size ≤ w'.heap.size) (fun i => nsz t - i) (0) (s4 rfl rfl rfl rfl) ?_ ?_
 ·exact ⟨Nat.zero_le _, hl, hlow, hE, hB⟩
 clear hl h3 ht ha hk hlow hE hB
 rintro i w3 ⟨hi, hl, hlow, hE, hB⟩
 have hat := aszTo_le t i
 refine c_seq (q0 (l_p 2 tK rfl ?_))
 refine lC (o_len tK hl rfl rfl rfl rfl rfl ?_)
 refine l_p 1 tK rfl (q1 ?_)
 refine c_ifP _ rfl (fun c1 => ?_) (fun c1 => ?_)
 ·refine c_skip (x_seq (c_seq (c_blk (c_reg (l_p 3 tK rfl ?_)))))
  have hik : i < (nodesL t).length := by omega
  have hpa := hz _ (List.getElem_mem hik)
  have hst := aszTo_step hik
  have hat2 := aszTo_le t (i + 1)
  refine lC (o_ixS tK hl (List.getElem?_eq_getElem hik) rfl rfl rfl rfl rfl rfl rfl rfl rfl ?_)
  intro ebx eox eux hyx hatx
  obtain ⟨akvx, kvx, rfl, opx, nmx, agx, n64x, hax, hkx⟩ := tm_open hyx
  replace hatx : At M w3 ebx eox [.int .u8 (nodesL t)[i].op, .string (nodesL t)[i].name, .string (nodesL t)[i].arg, .int .i64 (nodesL t)[i].n, .bool (nodesL t)[i].has, .int .u8 (nodesL t)[i].ann.op, .string (nodesL t)[i].ann.name, .int .i64 (nodesL t)[i].ann.n, akvx, kvx] := hatx
  refine l_p 1 tK rfl ?_
  refine lC (o_lds tK (fun j v hv => (hatx).mid 5 (sub := [.int .u8 (nodesL t)[i].ann.op, .string (nodesL t)[i].ann.name, .int .i64 (nodesL t)[i].ann.n, akvx]) rfl j v hv) rfl rfl rfl rfl rfl rfl ?_)
  refine lC (o_call fo40 rfl rfl rfl (parts_spec _ M _ _ hax hlow hpa) ?_)
  rintro vhpt w4 ⟨hpt, ew4⟩
  replace hE := ew4.bl hE hB
  replace hl := hl.ext ew4
  replace hyx := Rep.ext hyx ew4
  replace hax := Rep.ext hax ew4
  replace hkx := hkx.ext ew4
  replace hatx := hatx.ext ew4
  replace hlow := hlow.ext ew4
  replace hB := ew4.z hB
  have hpl : (partsL (nodesL t)[i].ann).length = psz (nodesL t)[i].ann := rfl
  refine lC (o_len tK hpt rfl rfl rfl rfl rfl ?_)
  refine lC (o_ai rfl rfl rfl (by omega) rfl rfl ?_)
  refine l_p 1 tK rfl (q2 (x_seq (c_reg (l_p 1 tK rfl ?_))))
  refine lC (o_ai rfl rfl rfl (by omega) rfl rfl ?_)
  refine l_p 1 tK rfl (l_nil ?_)
  exact x_round (i + 1) (s4 rfl rfl (get_num rfl (by rw [aszTo_step hik]; rfl)) (get_num rfl (by omega))) ⟨by omega, hl, hlow, hE, hB⟩ (by omega)
 refine c_exit (x_seqE (x_seqE (x_blkE (x_seq (c_seq (q0 (l_p 1 tK rfl (q1 (c_blk ?_)))))))))
 obtain rfl : i = nsz t := by omega
 rw [aszTo_all]
 refine c_loop (X := Nat) (fun j => [(0, .slice none 0 0), (5, vhl), (6, .int .i64 (asz t : Nat)), (8, .int .i64 (j : Nat))]) (fun j w' => j = 0 ∧ Sl M w' vhl (nodesL t) ∧ Low M w' ∧ Below w.heap.size w w' ∧ w.heap.size ≤ w'.heap.size) (fun j => j) (0) (s4 rfl rfl rfl rfl) ?_ ?_
 ·exact ⟨rfl, hl, hlow, hE, hB⟩
 clear hl hlow hE hB
 rintro j w77 ⟨rfl, hl, hlow, hE, hB⟩
 refine c_seq (q0 (l_p 4 tK rfl (q1 ?_)))
 refine c_ifP _ rfl (fun c2 => ?_) (fun c2 => ?_)
 ·exact absurd c2 (by omega)
 refine c_exit (x_seqE (x_seqE (x_blkE (x_seq (q0 (l_p 1 tK rfl ?_))))))
 refine lC (o_len tK hl rfl rfl rfl rfl rfl ?_)
 refine l_p 2 tK rfl ?_
 refine l_splitP 44 _ rfl (fun c3 => ?_) (fun c3 => ?_)
 ·refine l_p 9 tK rfl (q1 (c_ret (x_ret1 rfl rfl ?_)))
  exact ⟨by rw [decide_eq_true (show (80 : Int) < (nsz t : Int) by omega)]; rfl, hE⟩
 refine l_p 4 tK rfl ?_
 refine l_splitP 48 _ rfl (fun c4 => ?_) (fun c4 => ?_)
 ·refine l_p 5 tK rfl (q1 (c_ret (x_ret1 rfl rfl ?_)))
  exact ⟨by rw [decide_eq_false (show ¬ (80 : Int) < (nsz t : Int) by omega), Bool.false_or]; rw [decide_eq_true (show (200 : Int) < (asz t : Int) by omega)], hE⟩
 refine l_p 5 tK rfl (q1 (c_ret (x_ret1 rfl rfl ?_)))
 exact ⟨by rw [decide_eq_false (show ¬ (80 : Int) < (nsz t : Int) by omega), Bool.false_or]; rw [decide_eq_false (show ¬ (200 : Int) < (asz t : Int) by omega)]; rfl, hE⟩
theorem many5_spec (t : Tm) (M : Nat → Prop) (w : World) (v : Value) (ht : Rep.R M w v t) (hlow : Low M w) (hz : AnnS t) (hn : nsz t ≤ 2000000) (has : asz t ≤ 2000000) :
  Calls Try.prog 48 #[v] w (Ret fun r w' => r = .bool (decide ((300 : Int) < (nsz t : Int)) || decide ((900 : Int) < (asz t : Int))) ∧ Ext w w') := by
 have hE : Below w.heap.size w w := Below.refl _ _
 have hB : w.heap.size ≤ w.heap.size := Nat.le_refl _
 obtain ⟨akv, kv, rfl, op, nm, ag, n64, ha, hk⟩ := tm_open ht
 refine c_enter (n := 30) Try.func48 rfl rfl rfl ?_
 refine q0 ?_
 refine lC (o_box rfl rfl rfl ?_)
 intro b3 w1 hb_b3 ew1 h3
 replace h3 : Box _ b3 84 [.int .u8 t.op, .string t.name, .string t.arg, .int .i64 t.n, .bool t.has, .int .u8 t.ann.op, .string t.ann.name, .int .i64 t.ann.n, akv, kv] := h3
 replace h3 := h3.at (nM_of hlow hb_b3)
 replace hE := ew1.bl hE hB
 replace ht := Rep.ext ht ew1
 replace ha := Rep.ext ha ew1
 replace hk := hk.ext ew1
 replace hlow := hlow.ext ew1
 replace hB := ew1.z hB
 refine l_p 1 tK rfl (q1 (q0 ?_))
 refine lC (o_lds tK (fun j v hv => h3.cell j v hv) rfl rfl rfl rfl rfl rfl ?_)
 refine lC (o_call fo81 rfl rfl rfl (nodes_spec t M _ _ ht hlow hn) ?_)
 rintro vhl w2 ⟨hl, ew2⟩
 replace hE := ew2.bl hE hB
 replace ht := Rep.ext ht ew2
 replace ha := Rep.ext ha ew2
 replace hk := hk.ext ew2
 replace h3 := h3.ext ew2
 replace hlow := hlow.ext ew2
 replace hB := ew2.z hB
 have hll : (nodesL t).length = nsz t := rfl
 refine l_p 1 tK rfl (q1 (q0 (l_p 1 tK rfl (q1 (c_seq (q0 (l_p 1 tK rfl (q1 (c_blk ?_)))))))))
 refine c_loop (X := Nat) (fun i => [(3, vhl), (4, .int .i64 (aszTo t i : Nat)), (5, .int .i64 (i : Nat))]) (fun i w' => i ≤ nsz t ∧ Sl M w' vhl (nodesL t) ∧ Low M w' ∧ Below w.heap.size w w' ∧ w.heap.size ≤ w'.heap.size) (fun i => nsz t - i) (0) (s3 rfl rfl rfl) ?_ ?_
 ·exact ⟨Nat.zero_le _, hl, hlow, hE, hB⟩
 clear hl h3 ht ha hk hlow hE hB
 rintro i w3 ⟨hi, hl, hlow, hE, hB⟩
 have hat := aszTo_le t i
 refine c_seq (q0 (l_p 2 tK rfl ?_))
 refine lC (o_len tK hl rfl rfl rfl rfl rfl ?_)
 refine l_p 1 tK rfl (q1 ?_)
 refine c_ifP _ rfl (fun c1 => ?_) (fun c1 => ?_)
 ·refine c_skip (x_seq (c_seq (c_blk (c_reg (l_p 3 tK rfl ?_)))))
  have hik : i < (nodesL t).length := by omega
  have hpa := hz _ (List.getElem_mem hik)
  have hst := aszTo_step hik
  have hat2 := aszTo_le t (i + 1)
  refine lC (o_ixS tK hl (List.getElem?_eq_getElem hik) rfl rfl rfl rfl rfl rfl rfl rfl rfl ?_)
  intro ebx eox eux hyx hatx
  obtain ⟨akvx, kvx, rfl, opx, nmx, agx, n64x, hax, hkx⟩ := tm_open hyx
  replace hatx : At M w3 ebx eox [.int .u8 (nodesL t)[i].op, .string (nodesL t)[i].name, .string (nodesL t)[i].arg, .int .i64 (nodesL t)[i].n, .bool (nodesL t)[i].has, .int .u8 (nodesL t)[i].ann.op, .string (nodesL t)[i].ann.name, .int .i64 (nodesL t)[i].ann.n, akvx, kvx] := hatx
  refine l_p 1 tK rfl ?_
  refine lC (o_lds tK (fun j v hv => (hatx).mid 5 (sub := [.int .u8 (nodesL t)[i].ann.op, .string (nodesL t)[i].ann.name, .int .i64 (nodesL t)[i].ann.n, akvx]) rfl j v hv) rfl rfl rfl rfl rfl rfl ?_)
  refine lC (o_call fo40 rfl rfl rfl (parts_spec _ M _ _ hax hlow hpa) ?_)
  rintro vhpt w4 ⟨hpt, ew4⟩
  replace hE := ew4.bl hE hB
  replace hl := hl.ext ew4
  replace hyx := Rep.ext hyx ew4
  replace hax := Rep.ext hax ew4
  replace hkx := hkx.ext ew4
  replace hatx := hatx.ext ew4
  replace hlow := hlow.ext ew4
  replace hB := ew4.z hB
  have hpl : (partsL (nodesL t)[i].ann).length = psz (nodesL t)[i].ann := rfl
  refine lC (o_len tK hpt rfl rfl rfl rfl rfl ?_)
  refine lC (o_ai rfl rfl rfl (by omega) rfl rfl ?_)
  refine l_p 1 tK rfl (q2 (x_seq (c_reg (l_p 1 tK rfl ?_))))
  refine lC (o_ai rfl rfl rfl (by omega) rfl rfl ?_)
  refine l_p 1 tK rfl (l_nil ?_)
  exact x_round (i + 1) (s3 rfl (get_num rfl (by rw [aszTo_step hik]; rfl)) (get_num rfl (by omega))) ⟨by omega, hl, hlow, hE, hB⟩ (by omega)
 refine c_exit (x_seqE (x_seqE (x_blkE (x_seq (q0 (l_p 1 tK rfl ?_))))))
 refine lC (o_len tK hl rfl rfl rfl rfl rfl ?_)
 refine l_p 2 tK rfl ?_
 obtain rfl : i = nsz t := by omega
 rw [aszTo_all]
 refine l_splitP 26 _ rfl (fun c2 => ?_) (fun c2 => ?_)
 ·refine l_p 4 tK rfl (q1 (c_ret (x_ret1 rfl rfl ?_)))
  exact ⟨by rw [decide_eq_true (show (300 : Int) < (nsz t : Int) by omega)]; rfl, hE⟩
 refine l_p 4 tK rfl (q1 (c_ret (x_ret1 rfl rfl ?_)))
 exact ⟨by rw [decide_eq_false (show ¬ (300 : Int) < (nsz t : Int) by omega), Bool.false_or], hE⟩
end Go.Proofs.Ytohfnpmehgpphaa
namespace Rw
open Go Go.RowKit
theorem Ret.out {R : Value → World → Prop} {e : Ending} {w : World} (h : Ret R e w) : ∃ v, e = .returned v ∧ R v w := by
  cases e with
  | returned v => exact ⟨v, rfl, h⟩
  | _ => exact h.elim
/-! ## What the form's reach pays -/
end Rw
