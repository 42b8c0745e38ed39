/- Part 6 of the proof: rules, plain laws and walks, merged out of smaller texts. -/
import Derived.Test.YtpoahmeacjggfaaE5
namespace Go.Proofs.Ytpoahmeacjggfaa
open Go Rw Go.RowKit
set_option maxRecDepth 100000
theorem shaped_spec (op : Int) (M : Nat → Prop) (w : World) (hlow0 : Low M w) :
  Calls Try.prog 125 #[.int .u8 op] w (Ret fun r w' => r = .tuple #[.agg #[.bool (shp op).1, .bool (shp op).2.1, .int .i64 (shp op).2.2.1, .int .i64 (shp op).2.2.2.1], .bool (shp op).2.2.2.2] ∧ Ext w w') := by
 have Lw := hlow0
 have hB := lR w.heap.size
 have hE := Below.refl w.heap.size w
 have hsub : ∀ b, M b → M b := fun _ h => h
 refine cN (n := 52) Try.func125 rfl rfl rfl ?_
 refine q0 ?_
 refine lC (o_new tK rfl rfl rfl ?_)
 intro b2 w1 qb2 ew1 hb2
 have sw1 := Stp.add ew1 Lw hB (lQ qb2.symm) hb2.lt
 have h2 : MB w.heap.size (Rw.Add M b2) w1 b2 115 [.bool false, .bool false, .int .i64 0, .int .i64 0] := MB.mk' hb2 qb2 hB
 replace hE := hE.trans sw1.below
 replace hsub := sw1.sb hsub
 replace Lw := sw1.low
 replace hB := sw1.z hB
 refine lP 1 tK rfl (q1 (cS (q0 (lP 1 tK rfl (q1 (cB (q0 (lP 2 tK rfl (q1 ?_)))))))))
 refine cP _ rfl (fun c1 => ?_) (fun c1 => ?_)
 ·refine q0 ?_
  refine lC (o_build (cells := [.bool true, .bool false, .int .i64 0, .int .i64 0]) bd115 rfl rfl rfl rfl rfl ?_)
  refine lC (o_st tK h2.box rfl rfl rfl rfl (by simp [Value.cells, Value.oneCell']) rfl rfl ?_)
  intro w2 hw2 qw2 bew2
  have uw2 : UpdB _ _ _ := ⟨qw2, bew2⟩
  have sw2 := uw2.sp h2.inM Lw h2.ge
  have frw2 := qw2.2
  replace hE := hE.trans sw2.below
  replace hsub := sw2.sb hsub
  replace Lw := sw2.low
  replace hB := sw2.z hB
  replace h2 : MB w.heap.size _ w2 b2 _ [.bool true, .bool false, .int .i64 0, .int .i64 0] := ⟨hw2, h2.inM, h2.ge⟩
  refine lP 1 tK rfl (q1 (cR (xB (xR ?_))))
  refine x_ret2st tK (fun j v hv => h2.cell j v hv) rfl rfl rfl rfl rfl rfl ?_
  subst c1
  exact ⟨rfl, hE⟩
 refine cS (q0 (lP 2 tK rfl (q1 ?_)))
 refine c_splitP 8 _ rfl (fun c2 => cI rfl ?_) (fun c2 => c_ifF rfl ?_)
 ·refine cK (xS (cI rfl (q0 ?_)))
  refine lC (o_build (cells := [.bool false, .bool false, .int .i64 0, .int .i64 0]) bd115 rfl rfl rfl rfl rfl ?_)
  refine lC (o_st tK h2.box rfl rfl rfl rfl (by simp [Value.cells, Value.oneCell']) rfl rfl ?_)
  intro w3 hw3 qw3 bew3
  have uw3 : UpdB _ _ _ := ⟨qw3, bew3⟩
  have sw3 := uw3.sp h2.inM Lw h2.ge
  have frw3 := qw3.2
  replace hE := hE.trans sw3.below
  replace hsub := sw3.sb hsub
  replace Lw := sw3.low
  replace hB := sw3.z hB
  replace h2 : MB w.heap.size _ w3 b2 _ [.bool false, .bool false, .int .i64 0, .int .i64 0] := ⟨hw3, h2.inM, h2.ge⟩
  refine lP 1 tK rfl (q1 (cR (xB (xR ?_))))
  refine x_ret2st tK (fun j v hv => h2.cell j v hv) rfl rfl rfl rfl rfl rfl ?_
  subst c2
  exact ⟨rfl, hE⟩
 refine q0 (lP 2 tK rfl (q1 ?_))
 refine c_splitP 8 _ rfl (fun c3 => cI rfl ?_) (fun c3 => c_ifF rfl ?_)
 ·refine cK (xS (cI rfl (q0 ?_)))
  refine lC (o_build (cells := [.bool false, .bool false, .int .i64 0, .int .i64 0]) bd115 rfl rfl rfl rfl rfl ?_)
  refine lC (o_st tK h2.box rfl rfl rfl rfl (by simp [Value.cells, Value.oneCell']) rfl rfl ?_)
  intro w4 hw4 qw4 bew4
  have uw4 : UpdB _ _ _ := ⟨qw4, bew4⟩
  have sw4 := uw4.sp h2.inM Lw h2.ge
  have frw4 := qw4.2
  replace hE := hE.trans sw4.below
  replace hsub := sw4.sb hsub
  replace Lw := sw4.low
  replace hB := sw4.z hB
  replace h2 : MB w.heap.size _ w4 b2 _ [.bool false, .bool false, .int .i64 0, .int .i64 0] := ⟨hw4, h2.inM, h2.ge⟩
  refine lP 1 tK rfl (q1 (cR (xB (xR ?_))))
  refine x_ret2st tK (fun j v hv => h2.cell j v hv) rfl rfl rfl rfl rfl rfl ?_
  subst c3
  exact ⟨rfl, hE⟩
 refine cG (lP 2 tK rfl (q1 ?_))
 refine c_splitP 8 _ rfl (fun c4 => cI rfl ?_) (fun c4 => c_ifF rfl ?_)
 ·refine q0 ?_
  refine lC (o_build (cells := [.bool false, .bool false, .int .i64 0, .int .i64 0]) bd115 rfl rfl rfl rfl rfl ?_)
  refine lC (o_st tK h2.box rfl rfl rfl rfl (by simp [Value.cells, Value.oneCell']) rfl rfl ?_)
  intro w5 hw5 qw5 bew5
  have uw5 : UpdB _ _ _ := ⟨qw5, bew5⟩
  have sw5 := uw5.sp h2.inM Lw h2.ge
  have frw5 := qw5.2
  replace hE := hE.trans sw5.below
  replace hsub := sw5.sb hsub
  replace Lw := sw5.low
  replace hB := sw5.z hB
  replace h2 : MB w.heap.size _ w5 b2 _ [.bool false, .bool false, .int .i64 0, .int .i64 0] := ⟨hw5, h2.inM, h2.ge⟩
  refine lP 1 tK rfl (q1 (cR (xB (xR ?_))))
  refine x_ret2st tK (fun j v hv => h2.cell j v hv) rfl rfl rfl rfl rfl rfl ?_
  subst c4
  exact ⟨rfl, hE⟩
 refine q0 (lP 2 tK rfl (q1 ?_))
 refine cP _ rfl (fun c5 => ?_) (fun c5 => ?_)
 ·refine q0 ?_
  refine lC (o_build (cells := [.bool false, .bool true, .int .i64 1, .int .i64 1]) bd115 rfl rfl rfl rfl rfl ?_)
  refine lC (o_st tK h2.box rfl rfl rfl rfl (by simp [Value.cells, Value.oneCell']) rfl rfl ?_)
  intro w6 hw6 qw6 bew6
  have uw6 : UpdB _ _ _ := ⟨qw6, bew6⟩
  have sw6 := uw6.sp h2.inM Lw h2.ge
  have frw6 := qw6.2
  replace hE := hE.trans sw6.below
  replace hsub := sw6.sb hsub
  replace Lw := sw6.low
  replace hB := sw6.z hB
  replace h2 : MB w.heap.size _ w6 b2 _ [.bool false, .bool true, .int .i64 1, .int .i64 1] := ⟨hw6, h2.inM, h2.ge⟩
  refine lP 1 tK rfl (q1 (cR (xB (xR ?_))))
  refine x_ret2st tK (fun j v hv => h2.cell j v hv) rfl rfl rfl rfl rfl rfl ?_
  subst c5
  exact ⟨rfl, hE⟩
 refine q0 (lP 2 tK rfl (q1 ?_))
 refine cP _ rfl (fun c6 => ?_) (fun c6 => ?_)
 ·refine q0 ?_
  refine lC (o_build (cells := [.bool true, .bool true, .int .i64 1, .int .i64 1]) bd115 rfl rfl rfl rfl rfl ?_)
  refine lC (o_st tK h2.box rfl rfl rfl rfl (by simp [Value.cells, Value.oneCell']) rfl rfl ?_)
  intro w7 hw7 qw7 bew7
  have uw7 : UpdB _ _ _ := ⟨qw7, bew7⟩
  have sw7 := uw7.sp h2.inM Lw h2.ge
  have frw7 := qw7.2
  replace hE := hE.trans sw7.below
  replace hsub := sw7.sb hsub
  replace Lw := sw7.low
  replace hB := sw7.z hB
  replace h2 : MB w.heap.size _ w7 b2 _ [.bool true, .bool true, .int .i64 1, .int .i64 1] := ⟨hw7, h2.inM, h2.ge⟩
  refine lP 1 tK rfl (q1 (cR (xB (xR ?_))))
  refine x_ret2st tK (fun j v hv => h2.cell j v hv) rfl rfl rfl rfl rfl rfl ?_
  subst c6
  exact ⟨rfl, hE⟩
 refine q0 (lP 2 tK rfl (q1 ?_))
 refine cP _ rfl (fun c7 => ?_) (fun c7 => ?_)
 ·refine q0 ?_
  refine lC (o_build (cells := [.bool false, .bool false, .int .i64 2, .int .i64 0]) bd115 rfl rfl rfl rfl rfl ?_)
  refine lC (o_st tK h2.box rfl rfl rfl rfl (by simp [Value.cells, Value.oneCell']) rfl rfl ?_)
  intro w8 hw8 qw8 bew8
  have uw8 : UpdB _ _ _ := ⟨qw8, bew8⟩
  have sw8 := uw8.sp h2.inM Lw h2.ge
  have frw8 := qw8.2
  replace hE := hE.trans sw8.below
  replace hsub := sw8.sb hsub
  replace Lw := sw8.low
  replace hB := sw8.z hB
  replace h2 : MB w.heap.size _ w8 b2 _ [.bool false, .bool false, .int .i64 2, .int .i64 0] := ⟨hw8, h2.inM, h2.ge⟩
  refine lP 1 tK rfl (q1 (cR (xB (xR ?_))))
  refine x_ret2st tK (fun j v hv => h2.cell j v hv) rfl rfl rfl rfl rfl rfl ?_
  subst c7
  exact ⟨rfl, hE⟩
 refine cS (q0 (lP 2 tK rfl (q1 ?_)))
 refine c_splitP 22 _ rfl (fun c8 => cI rfl ?_) (fun c8 => c_ifF rfl ?_)
 ·refine cK (xS (cI rfl (q0 ?_)))
  refine lC (o_build (cells := [.bool true, .bool false, .int .i64 2, .int .i64 0]) bd115 rfl rfl rfl rfl rfl ?_)
  refine lC (o_st tK h2.box rfl rfl rfl rfl (by simp [Value.cells, Value.oneCell']) rfl rfl ?_)
  intro w9 hw9 qw9 bew9
  have uw9 : UpdB _ _ _ := ⟨qw9, bew9⟩
  have sw9 := uw9.sp h2.inM Lw h2.ge
  have frw9 := qw9.2
  replace hE := hE.trans sw9.below
  replace hsub := sw9.sb hsub
  replace Lw := sw9.low
  replace hB := sw9.z hB
  replace h2 : MB w.heap.size _ w9 b2 _ [.bool true, .bool false, .int .i64 2, .int .i64 0] := ⟨hw9, h2.inM, h2.ge⟩
  refine lP 1 tK rfl (q1 (cR (xB (xR ?_))))
  refine x_ret2st tK (fun j v hv => h2.cell j v hv) rfl rfl rfl rfl rfl rfl ?_
  subst c8
  exact ⟨rfl, hE⟩
 refine q0 (lP 2 tK rfl (q1 ?_))
 refine c_splitP 22 _ rfl (fun c9 => cI rfl ?_) (fun c9 => c_ifF rfl ?_)
 ·refine cK (xS (cI rfl (q0 ?_)))
  refine lC (o_build (cells := [.bool true, .bool false, .int .i64 2, .int .i64 0]) bd115 rfl rfl rfl rfl rfl ?_)
  refine lC (o_st tK h2.box rfl rfl rfl rfl (by simp [Value.cells, Value.oneCell']) rfl rfl ?_)
  intro w10 hw10 qw10 bew10
  have uw10 : UpdB _ _ _ := ⟨qw10, bew10⟩
  have sw10 := uw10.sp h2.inM Lw h2.ge
  have frw10 := qw10.2
  replace hE := hE.trans sw10.below
  replace hsub := sw10.sb hsub
  replace Lw := sw10.low
  replace hB := sw10.z hB
  replace h2 : MB w.heap.size _ w10 b2 _ [.bool true, .bool false, .int .i64 2, .int .i64 0] := ⟨hw10, h2.inM, h2.ge⟩
  refine lP 1 tK rfl (q1 (cR (xB (xR ?_))))
  refine x_ret2st tK (fun j v hv => h2.cell j v hv) rfl rfl rfl rfl rfl rfl ?_
  subst c9
  exact ⟨rfl, hE⟩
 refine cG (lP 2 tK rfl (q1 ?_))
 refine c_splitP 22 _ rfl (fun c10 => cI rfl ?_) (fun c10 => c_ifF rfl ?_)
 ·refine q0 ?_
  refine lC (o_build (cells := [.bool true, .bool false, .int .i64 2, .int .i64 0]) bd115 rfl rfl rfl rfl rfl ?_)
  refine lC (o_st tK h2.box rfl rfl rfl rfl (by simp [Value.cells, Value.oneCell']) rfl rfl ?_)
  intro w11 hw11 qw11 bew11
  have uw11 : UpdB _ _ _ := ⟨qw11, bew11⟩
  have sw11 := uw11.sp h2.inM Lw h2.ge
  have frw11 := qw11.2
  replace hE := hE.trans sw11.below
  replace hsub := sw11.sb hsub
  replace Lw := sw11.low
  replace hB := sw11.z hB
  replace h2 : MB w.heap.size _ w11 b2 _ [.bool true, .bool false, .int .i64 2, .int .i64 0] := ⟨hw11, h2.inM, h2.ge⟩
  refine lP 1 tK rfl (q1 (cR (xB (xR ?_))))
  refine x_ret2st tK (fun j v hv => h2.cell j v hv) rfl rfl rfl rfl rfl rfl ?_
  subst c10
  exact ⟨rfl, hE⟩
 refine q0 (lP 2 tK rfl (q1 ?_))
 refine cP _ rfl (fun c11 => ?_) (fun c11 => ?_)
 ·refine q0 ?_
  refine lC (o_build (cells := [.bool false, .bool false, .int .i64 3, .int .i64 0]) bd115 rfl rfl rfl rfl rfl ?_)
  refine lC (o_st tK h2.box rfl rfl rfl rfl (by simp [Value.cells, Value.oneCell']) rfl rfl ?_)
  intro w12 hw12 qw12 bew12
  have uw12 : UpdB _ _ _ := ⟨qw12, bew12⟩
  have sw12 := uw12.sp h2.inM Lw h2.ge
  have frw12 := qw12.2
  replace hE := hE.trans sw12.below
  replace hsub := sw12.sb hsub
  replace Lw := sw12.low
  replace hB := sw12.z hB
  replace h2 : MB w.heap.size _ w12 b2 _ [.bool false, .bool false, .int .i64 3, .int .i64 0] := ⟨hw12, h2.inM, h2.ge⟩
  refine lP 1 tK rfl (q1 (cR (xB (xR ?_))))
  refine x_ret2st tK (fun j v hv => h2.cell j v hv) rfl rfl rfl rfl rfl rfl ?_
  subst c11
  exact ⟨rfl, hE⟩
 refine q0 (lP 2 tK rfl (q1 ?_))
 refine cP _ rfl (fun c12 => ?_) (fun c12 => ?_)
 ·refine q0 ?_
  refine lC (o_build (cells := [.bool true, .bool false, .int .i64 2, .int .i64 0]) bd115 rfl rfl rfl rfl rfl ?_)
  refine lC (o_st tK h2.box rfl rfl rfl rfl (by simp [Value.cells, Value.oneCell']) rfl rfl ?_)
  intro w13 hw13 qw13 bew13
  have uw13 : UpdB _ _ _ := ⟨qw13, bew13⟩
  have sw13 := uw13.sp h2.inM Lw h2.ge
  have frw13 := qw13.2
  replace hE := hE.trans sw13.below
  replace hsub := sw13.sb hsub
  replace Lw := sw13.low
  replace hB := sw13.z hB
  replace h2 : MB w.heap.size _ w13 b2 _ [.bool true, .bool false, .int .i64 2, .int .i64 0] := ⟨hw13, h2.inM, h2.ge⟩
  refine lP 1 tK rfl (q1 (cR (xB (xR ?_))))
  refine x_ret2st tK (fun j v hv => h2.cell j v hv) rfl rfl rfl rfl rfl rfl ?_
  subst c12
  exact ⟨rfl, hE⟩
 refine cS (q0 (lP 2 tK rfl (q1 ?_)))
 refine c_splitP 33 _ rfl (fun c13 => cI rfl ?_) (fun c13 => c_ifF rfl ?_)
 ·refine cK (xS (cI rfl (q0 ?_)))
  refine lC (o_build (cells := [.bool true, .bool false, .int .i64 1, .int .i64 0]) bd115 rfl rfl rfl rfl rfl ?_)
  refine lC (o_st tK h2.box rfl rfl rfl rfl (by simp [Value.cells, Value.oneCell']) rfl rfl ?_)
  intro w14 hw14 qw14 bew14
  have uw14 : UpdB _ _ _ := ⟨qw14, bew14⟩
  have sw14 := uw14.sp h2.inM Lw h2.ge
  have frw14 := qw14.2
  replace hE := hE.trans sw14.below
  replace hsub := sw14.sb hsub
  replace Lw := sw14.low
  replace hB := sw14.z hB
  replace h2 : MB w.heap.size _ w14 b2 _ [.bool true, .bool false, .int .i64 1, .int .i64 0] := ⟨hw14, h2.inM, h2.ge⟩
  refine lP 1 tK rfl (q1 (cR (xB (xR ?_))))
  refine x_ret2st tK (fun j v hv => h2.cell j v hv) rfl rfl rfl rfl rfl rfl ?_
  subst c13
  exact ⟨rfl, hE⟩
 refine q0 (lP 2 tK rfl (q1 ?_))
 refine c_splitP 33 _ rfl (fun c14 => cI rfl ?_) (fun c14 => c_ifF rfl ?_)
 ·refine cK (xS (cI rfl (q0 ?_)))
  refine lC (o_build (cells := [.bool true, .bool false, .int .i64 1, .int .i64 0]) bd115 rfl rfl rfl rfl rfl ?_)
  refine lC (o_st tK h2.box rfl rfl rfl rfl (by simp [Value.cells, Value.oneCell']) rfl rfl ?_)
  intro w15 hw15 qw15 bew15
  have uw15 : UpdB _ _ _ := ⟨qw15, bew15⟩
  have sw15 := uw15.sp h2.inM Lw h2.ge
  have frw15 := qw15.2
  replace hE := hE.trans sw15.below
  replace hsub := sw15.sb hsub
  replace Lw := sw15.low
  replace hB := sw15.z hB
  replace h2 : MB w.heap.size _ w15 b2 _ [.bool true, .bool false, .int .i64 1, .int .i64 0] := ⟨hw15, h2.inM, h2.ge⟩
  refine lP 1 tK rfl (q1 (cR (xB (xR ?_))))
  refine x_ret2st tK (fun j v hv => h2.cell j v hv) rfl rfl rfl rfl rfl rfl ?_
  subst c14
  exact ⟨rfl, hE⟩
 refine q0 (lP 2 tK rfl (q1 ?_))
 refine c_splitP 33 _ rfl (fun c15 => cI rfl ?_) (fun c15 => c_ifF rfl ?_)
 ·refine cK (xS (cI rfl (q0 ?_)))
  refine lC (o_build (cells := [.bool true, .bool false, .int .i64 1, .int .i64 0]) bd115 rfl rfl rfl rfl rfl ?_)
  refine lC (o_st tK h2.box rfl rfl rfl rfl (by simp [Value.cells, Value.oneCell']) rfl rfl ?_)
  intro w16 hw16 qw16 bew16
  have uw16 : UpdB _ _ _ := ⟨qw16, bew16⟩
  have sw16 := uw16.sp h2.inM Lw h2.ge
  have frw16 := qw16.2
  replace hE := hE.trans sw16.below
  replace hsub := sw16.sb hsub
  replace Lw := sw16.low
  replace hB := sw16.z hB
  replace h2 : MB w.heap.size _ w16 b2 _ [.bool true, .bool false, .int .i64 1, .int .i64 0] := ⟨hw16, h2.inM, h2.ge⟩
  refine lP 1 tK rfl (q1 (cR (xB (xR ?_))))
  refine x_ret2st tK (fun j v hv => h2.cell j v hv) rfl rfl rfl rfl rfl rfl ?_
  subst c15
  exact ⟨rfl, hE⟩
 refine cG (lP 2 tK rfl (q1 ?_))
 refine c_splitP 33 _ rfl (fun c16 => cI rfl ?_) (fun c16 => c_ifF rfl ?_)
 ·refine q0 ?_
  refine lC (o_build (cells := [.bool true, .bool false, .int .i64 1, .int .i64 0]) bd115 rfl rfl rfl rfl rfl ?_)
  refine lC (o_st tK h2.box rfl rfl rfl rfl (by simp [Value.cells, Value.oneCell']) rfl rfl ?_)
  intro w17 hw17 qw17 bew17
  have uw17 : UpdB _ _ _ := ⟨qw17, bew17⟩
  have sw17 := uw17.sp h2.inM Lw h2.ge
  have frw17 := qw17.2
  replace hE := hE.trans sw17.below
  replace hsub := sw17.sb hsub
  replace Lw := sw17.low
  replace hB := sw17.z hB
  replace h2 : MB w.heap.size _ w17 b2 _ [.bool true, .bool false, .int .i64 1, .int .i64 0] := ⟨hw17, h2.inM, h2.ge⟩
  refine lP 1 tK rfl (q1 (cR (xB (xR ?_))))
  refine x_ret2st tK (fun j v hv => h2.cell j v hv) rfl rfl rfl rfl rfl rfl ?_
  subst c16
  exact ⟨rfl, hE⟩
 refine q0 (lP 2 tK rfl (q1 ?_))
 refine cP _ rfl (fun c17 => ?_) (fun c17 => ?_)
 ·refine q0 ?_
  refine lC (o_build (cells := [.bool false, .bool false, .int .i64 (-1), .int .i64 0]) bd115 rfl rfl rfl rfl rfl ?_)
  refine lC (o_st tK h2.box rfl rfl rfl rfl (by simp [Value.cells, Value.oneCell']) rfl rfl ?_)
  intro w18 hw18 qw18 bew18
  have uw18 : UpdB _ _ _ := ⟨qw18, bew18⟩
  have sw18 := uw18.sp h2.inM Lw h2.ge
  have frw18 := qw18.2
  replace hE := hE.trans sw18.below
  replace hsub := sw18.sb hsub
  replace Lw := sw18.low
  replace hB := sw18.z hB
  replace h2 : MB w.heap.size _ w18 b2 _ [.bool false, .bool false, .int .i64 (-1), .int .i64 0] := ⟨hw18, h2.inM, h2.ge⟩
  refine lP 1 tK rfl (q1 (cR (xB (xR ?_))))
  refine x_ret2st tK (fun j v hv => h2.cell j v hv) rfl rfl rfl rfl rfl rfl ?_
  subst c17
  exact ⟨rfl, hE⟩
 refine q0 (lP 2 tK rfl (q1 ?_))
 refine cP _ rfl (fun c18 => ?_) (fun c18 => ?_)
 ·refine q0 ?_
  refine lC (o_build (cells := [.bool true, .bool true, .int .i64 1, .int .i64 0]) bd115 rfl rfl rfl rfl rfl ?_)
  refine lC (o_st tK h2.box rfl rfl rfl rfl (by simp [Value.cells, Value.oneCell']) rfl rfl ?_)
  intro w19 hw19 qw19 bew19
  have uw19 : UpdB _ _ _ := ⟨qw19, bew19⟩
  have sw19 := uw19.sp h2.inM Lw h2.ge
  have frw19 := qw19.2
  replace hE := hE.trans sw19.below
  replace hsub := sw19.sb hsub
  replace Lw := sw19.low
  replace hB := sw19.z hB
  replace h2 : MB w.heap.size _ w19 b2 _ [.bool true, .bool true, .int .i64 1, .int .i64 0] := ⟨hw19, h2.inM, h2.ge⟩
  refine lP 1 tK rfl (q1 (cR (xB (xR ?_))))
  refine x_ret2st tK (fun j v hv => h2.cell j v hv) rfl rfl rfl rfl rfl rfl ?_
  subst c18
  exact ⟨rfl, hE⟩
 refine q0 (lP 2 tK rfl (q1 ?_))
 refine cP _ rfl (fun c19 => ?_) (fun c19 => ?_)
 ·refine q0 ?_
  refine lC (o_build (cells := [.bool false, .bool true, .int .i64 1, .int .i64 0]) bd115 rfl rfl rfl rfl rfl ?_)
  refine lC (o_st tK h2.box rfl rfl rfl rfl (by simp [Value.cells, Value.oneCell']) rfl rfl ?_)
  intro w20 hw20 qw20 bew20
  have uw20 : UpdB _ _ _ := ⟨qw20, bew20⟩
  have sw20 := uw20.sp h2.inM Lw h2.ge
  have frw20 := qw20.2
  replace hE := hE.trans sw20.below
  replace hsub := sw20.sb hsub
  replace Lw := sw20.low
  replace hB := sw20.z hB
  replace h2 : MB w.heap.size _ w20 b2 _ [.bool false, .bool true, .int .i64 1, .int .i64 0] := ⟨hw20, h2.inM, h2.ge⟩
  refine lP 1 tK rfl (q1 (cR (xB (xR ?_))))
  refine x_ret2st tK (fun j v hv => h2.cell j v hv) rfl rfl rfl rfl rfl rfl ?_
  subst c19
  exact ⟨rfl, hE⟩
 refine q0 (lP 2 tK rfl (q1 ?_))
 refine cP _ rfl (fun c20 => ?_) (fun c20 => ?_)
 ·refine q0 ?_
  refine lC (o_build (cells := [.bool false, .bool false, .int .i64 1, .int .i64 2]) bd115 rfl rfl rfl rfl rfl ?_)
  refine lC (o_st tK h2.box rfl rfl rfl rfl (by simp [Value.cells, Value.oneCell']) rfl rfl ?_)
  intro w21 hw21 qw21 bew21
  have uw21 : UpdB _ _ _ := ⟨qw21, bew21⟩
  have sw21 := uw21.sp h2.inM Lw h2.ge
  have frw21 := qw21.2
  replace hE := hE.trans sw21.below
  replace hsub := sw21.sb hsub
  replace Lw := sw21.low
  replace hB := sw21.z hB
  replace h2 : MB w.heap.size _ w21 b2 _ [.bool false, .bool false, .int .i64 1, .int .i64 2] := ⟨hw21, h2.inM, h2.ge⟩
  refine lP 1 tK rfl (q1 (cR (xB (xR ?_))))
  refine x_ret2st tK (fun j v hv => h2.cell j v hv) rfl rfl rfl rfl rfl rfl ?_
  subst c20
  exact ⟨rfl, hE⟩
 refine cK (x_blk (xS (q0 ?_)))
 refine lC (o_build (cells := [.bool false, .bool false, .int .i64 0, .int .i64 0]) bd115 rfl rfl rfl rfl rfl ?_)
 refine lC (o_st tK h2.box rfl rfl rfl rfl (by simp [Value.cells, Value.oneCell']) rfl rfl ?_)
 intro w22 hw22 qw22 bew22
 have uw22 : UpdB _ _ _ := ⟨qw22, bew22⟩
 have sw22 := uw22.sp h2.inM Lw h2.ge
 have frw22 := qw22.2
 replace hE := hE.trans sw22.below
 replace hsub := sw22.sb hsub
 replace Lw := sw22.low
 replace hB := sw22.z hB
 replace h2 : MB w.heap.size _ w22 b2 _ [.bool false, .bool false, .int .i64 0, .int .i64 0] := ⟨hw22, h2.inM, h2.ge⟩
 refine lP 1 tK rfl (q1 (cR ?_))
 refine x_ret2st tK (fun j v hv => h2.cell j v hv) rfl rfl rfl rfl rfl rfl ?_
 exact ⟨by unfold shp; simp [*], hE⟩
theorem named_spec (s : ByteArray) (b : Bool) (w : World) (hs : s.size < 140737488355328) :
  Calls Try.prog 128 #[.string s, .bool b] w (Ret fun r w' => r = .bool (namedB s b) ∧ Ext w w') := by
 have hE := Below.refl w.heap.size w
 have hB := lR w.heap.size
 refine cN (n := 18) Try.func128 rfl rfl rfl ?_
 refine q0 (lP 1 tK rfl (q1 (q0 (lP 3 tK rfl ?_))))
 refine lS 7 _ rfl (fun c1 => ?_) (fun c1 => ?_)
 ·refine lP 4 tK rfl ?_
  refine l_splitB 11 _ rfl (fun c2 => ?_) (fun c2 => ?_)
  ·refine lP 7 tK rfl (q1 (cR (x1_ rfl rfl ?_)))
   exact ⟨by congr 1; unfold namedB; simp_all, hE⟩
  refine lP 2 tK rfl ?_
  refine l_split 13 _ rfl (fun c3 => ?_) (fun c3 => ?_)
  ·refine lP 1 tK rfl ?_
   refine lC (oK fo93 rfl rfl rfl (isWord_spec _ s hs) ?_)
   rintro _ _ ⟨rfl, rfl⟩
   refine lP 3 tK rfl (q1 (cR (x1_ rfl rfl ?_)))
   exact ⟨by congr 1; unfold namedB; simp_all, hE⟩
  refine lP 5 tK rfl (q1 (cR (x1_ rfl rfl ?_)))
  exact ⟨by congr 1; unfold namedB; simp_all, hE⟩
 refine lP 6 tK rfl ?_
 refine l_split 13 _ rfl (fun c4 => ?_) (fun c4 => ?_)
 ·refine lP 1 tK rfl ?_
  refine lC (oK fo93 rfl rfl rfl (isWord_spec _ s hs) ?_)
  rintro _ _ ⟨rfl, rfl⟩
  refine lP 3 tK rfl (q1 (cR (x1_ rfl rfl ?_)))
  exact ⟨by congr 1; unfold namedB; simp_all, hE⟩
 refine lP 5 tK rfl (q1 (cR (x1_ rfl rfl ?_)))
 exact ⟨by congr 1; unfold namedB; simp_all, hE⟩
theorem blank_spec (t : Ty) (M : Nat → Prop) (w : World) (v : Value) (ht : Rep.R M w v t) (Lw : Low M w) :
  Calls Try.prog 137 #[v] w (Ret fun r w' => r = .bool (blankB t) ∧ Ext w w') := by
 have hE := Below.refl w.heap.size w
 have hB := lR w.heap.size
 obtain ⟨kv, rfl, op, nm, n64, hk⟩ := tO ht
 refine cN (n := 22) Try.func137 rfl rfl rfl ?_
 refine q0 ?_
 refine lC (o_box rfl rfl rfl ?_)
 intro b1 w1 hb_b1 ew1 h1
 replace h1 : Box _ b1 25 [.int .u8 t.op, .string t.name, .int .i64 t.n, kv] := h1
 replace h1 := h1.at (nO Lw hb_b1)
 replace hE := ew1.bl hE hB
 replace ht := Rep.Y ht ew1
 replace hk := hk.Y ew1
 replace Lw := Lw.Y ew1
 replace hB := ew1.z hB
 refine lP 1 tK rfl (q1 (q0 (lP 1 tK rfl ?_)))
 refine lC (oD tK (h1.cell 0 _ rfl) rfl rfl rfl rfl rfl ?_)
 refine lP 2 tK rfl ?_
 refine lS 6 _ rfl (fun c1 => ?_) (fun c1 => ?_)
 ·refine lP 1 tK rfl ?_
  refine lC (oD tK (h1.cell 1 _ rfl) rfl rfl rfl rfl rfl ?_)
  refine lP 3 tK rfl ?_
  refine lS 11 _ rfl (fun c2 => ?_) (fun c2 => ?_)
  ·refine lP 1 tK rfl ?_
   refine lC (oD tK (h1.cell 2 _ rfl) rfl rfl rfl rfl rfl ?_)
   refine lP 3 tK rfl ?_
   refine lS 16 _ rfl (fun c3 => ?_) (fun c3 => ?_)
   ·refine lP 1 tK rfl ?_
    refine lC (oD tK (h1.cell 3 _ rfl) rfl rfl rfl rfl rfl ?_)
    refine lC (o_len tK hk rfl rfl rfl rfl rfl ?_)
    refine lP 3 tK rfl (q1 (cR (x1_ rfl rfl ?_)))
    exact ⟨by congr 1; unfold blankB; simp_all, hE⟩
   refine lP 6 tK rfl (q1 (cR (x1_ rfl rfl ?_)))
   exact ⟨by congr 1; unfold blankB; simp_all, hE⟩
  refine lP 11 tK rfl (q1 (cR (x1_ rfl rfl ?_)))
  exact ⟨by congr 1; unfold blankB; simp_all, hE⟩
 refine lP 16 tK rfl (q1 (cR (x1_ rfl rfl ?_)))
 exact ⟨by congr 1; unfold blankB; simp_all, hE⟩
theorem sign_spec (s : ByteArray) (w : World) :
  Calls Try.prog 129 #[.string s] w (Ret fun r w' => r = .bool (signB s) ∧ w = w') := by
 refine cN (n := 12) Try.func129 rfl rfl rfl ?_
 refine q0 (lP 1 tK rfl (q1 (cS (q0 (lP 1 tK rfl (q1 (cB (cS (q0 (lP 2 tK rfl (q1 ?_)))))))))))
 refine c_splitP 4 _ rfl (fun c1 => cI rfl ?_) (fun c1 => c_ifF rfl ?_)
 ·refine cK (xS (cI rfl (q0 (lP 1 tK rfl (q1 (cR (xB (xR (x1_ rfl rfl ?_)))))))))
  exact ⟨by congr 1; unfold signB; simp_all, rfl⟩
 refine q0 (lP 2 tK rfl (q1 ?_))
 refine c_splitP 4 _ rfl (fun c2 => cI rfl ?_) (fun c2 => c_ifF rfl ?_)
 ·refine cK (xS (cI rfl (q0 (lP 1 tK rfl (q1 (cR (xB (xR (x1_ rfl rfl ?_)))))))))
  exact ⟨by congr 1; unfold signB; simp_all, rfl⟩
 refine q0 (lP 2 tK rfl (q1 ?_))
 refine c_splitP 4 _ rfl (fun c3 => cI rfl ?_) (fun c3 => c_ifF rfl ?_)
 ·refine cK (xS (cI rfl (q0 (lP 1 tK rfl (q1 (cR (xB (xR (x1_ rfl rfl ?_)))))))))
  exact ⟨by congr 1; unfold signB; simp_all, rfl⟩
 refine q0 (lP 2 tK rfl (q1 ?_))
 refine c_splitP 4 _ rfl (fun c4 => cI rfl ?_) (fun c4 => c_ifF rfl ?_)
 ·refine cK (xS (cI rfl (q0 (lP 1 tK rfl (q1 (cR (xB (xR (x1_ rfl rfl ?_)))))))))
  exact ⟨by congr 1; unfold signB; simp_all, rfl⟩
 refine q0 (lP 2 tK rfl (q1 ?_))
 refine c_splitP 4 _ rfl (fun c5 => cI rfl ?_) (fun c5 => c_ifF rfl ?_)
 ·refine cK (xS (cI rfl (q0 (lP 1 tK rfl (q1 (cR (xB (xR (x1_ rfl rfl ?_)))))))))
  exact ⟨by congr 1; unfold signB; simp_all, rfl⟩
 refine q0 (lP 2 tK rfl (q1 ?_))
 refine c_splitP 4 _ rfl (fun c6 => cI rfl ?_) (fun c6 => c_ifF rfl ?_)
 ·refine cK (xS (cI rfl (q0 (lP 1 tK rfl (q1 (cR (xB (xR (x1_ rfl rfl ?_)))))))))
  exact ⟨by congr 1; unfold signB; simp_all, rfl⟩
 refine cG (lP 2 tK rfl (q1 ?_))
 refine c_splitP 4 _ rfl (fun c7 => cI rfl ?_) (fun c7 => c_ifF rfl ?_)
 ·refine q0 (lP 1 tK rfl (q1 (cR (xB (xR (x1_ rfl rfl ?_))))))
  exact ⟨by congr 1; unfold signB; simp_all, rfl⟩
 refine cK (x_blk (xS (q0 (lP 1 tK rfl (q1 (cR (x1_ rfl rfl ?_)))))))
 exact ⟨by congr 1; unfold signB; simp_all, rfl⟩
theorem arm_spec (op : Int) (b : Bool) (w : World) :
  Calls Try.prog 130 #[.int .u8 op, .bool b] w (Ret fun r w' => r = .bool (armB op b) ∧ w = w') := by
 refine cN (n := 14) Try.func130 rfl rfl rfl ?_
 refine q0 (lP 1 tK rfl (q1 (q0 (lP 3 tK rfl ?_))))
 refine lS 7 _ rfl (fun c1 => ?_) (fun c1 => ?_)
 ·refine lP 7 tK rfl (q1 (cR (x1_ rfl rfl ?_)))
  exact ⟨by congr 1; unfold armB; simp_all, rfl⟩
 refine lP 3 tK rfl ?_
 refine lS 10 _ rfl (fun c2 => ?_) (fun c2 => ?_)
 ·refine lP 4 tK rfl (q1 (cR (x1_ rfl rfl ?_)))
  exact ⟨by congr 1; unfold armB; simp_all, rfl⟩
 refine lP 4 tK rfl (q1 (cR (x1_ rfl rfl ?_)))
 exact ⟨by congr 1; unfold armB; simp_all, rfl⟩
theorem number_spec (t : Tm) (M : Nat → Prop) (w : World) (v : Value) (ht : Rep.R M w v t) (Lw : Low M w) :
  Calls Try.prog 126 #[v] w (Ret fun r w' => r = .bool (numberB t.op t.n) ∧ Ext w w') := by
 have hE := Below.refl w.heap.size w
 have hB := lR w.heap.size
 obtain ⟨akv, kv, rfl, op, nm, ag, n64, ha, hk⟩ := tm_open ht
 refine cN (n := 23) Try.func126 rfl rfl rfl ?_
 refine q0 ?_
 refine lC (o_box rfl rfl rfl ?_)
 intro b1 w1 hb_b1 ew1 h1
 replace h1 : Box _ b1 59 [.int .u8 t.op, .string t.name, .string t.arg, .int .i64 t.n, .bool t.has, .int .u8 t.ann.op, .string t.ann.name, .int .i64 t.ann.n, akv, kv] := h1
 replace h1 := h1.at (nO Lw hb_b1)
 replace hE := ew1.bl hE hB
 replace ht := Rep.Y ht ew1
 replace ha := Rep.Y ha ew1
 replace hk := hk.Y ew1
 replace Lw := Lw.Y ew1
 replace hB := ew1.z hB
 refine lP 1 tK rfl (q1 (cS (q0 (lP 1 tK rfl ?_))))
 refine lC (oD tK (h1.cell 0 _ rfl) rfl rfl rfl rfl rfl ?_)
 refine q1 (cB (q0 (lP 2 tK rfl (q1 ?_))))
 refine cP _ rfl (fun c1 => ?_) (fun c1 => ?_)
 ·refine q0 (lP 1 tK rfl ?_)
  refine lC (oD tK (h1.cell 3 _ rfl) rfl rfl rfl rfl rfl ?_)
  refine lP 2 tK rfl (q1 (cR (xB (xR (x1_ rfl rfl ?_)))))
  exact ⟨by congr 1; unfold numberB; simp_all, hE⟩
 refine q0 (lP 2 tK rfl (q1 ?_))
 refine cP _ rfl (fun c2 => ?_) (fun c2 => ?_)
 ·refine q0 (lP 1 tK rfl ?_)
  refine lC (oD tK (h1.cell 3 _ rfl) rfl rfl rfl rfl rfl ?_)
  refine lP 2 tK rfl ?_
  refine lS 15 _ rfl (fun c3 => ?_) (fun c3 => ?_)
  ·refine lP 5 tK rfl (q1 (cR (xB (xR (x1_ rfl rfl ?_)))))
   exact ⟨by congr 1; unfold numberB; simp_all, hE⟩
  refine lP 1 tK rfl ?_
  refine lC (oD tK (h1.cell 3 _ rfl) rfl rfl rfl rfl rfl ?_)
  refine lP 3 tK rfl (q1 (cR (xB (xR (x1_ rfl rfl ?_)))))
  exact ⟨by congr 1; unfold numberB; simp_all, hE⟩
 refine cK (x_blk (xS (q0 (lP 1 tK rfl ?_))))
 refine lC (oD tK (h1.cell 3 _ rfl) rfl rfl rfl rfl rfl ?_)
 refine lP 2 tK rfl (q1 (cR (x1_ rfl rfl ?_)))
 exact ⟨by congr 1; unfold numberB; simp_all, hE⟩
theorem noted_spec (t : Tm) (a : Int) (M : Nat → Prop) (w : World) (v : Value) (ht : Rep.R M w v t) (Lw : Low M w) (hz : psz t.ann ≤ 2000000) :
  Calls Try.prog 127 #[v, .int .i64 a] w (Ret fun r w' => r = .bool (notedB t.has t.ann a) ∧ Ext w w') := by
 have hE := Below.refl w.heap.size w
 have hB := lR w.heap.size
 obtain ⟨akv, kv, rfl, op, nm, ag, n64, ha, hk⟩ := tm_open ht
 refine cN (n := 26) Try.func127 rfl rfl rfl ?_
 refine q0 ?_
 refine lC (o_box rfl rfl rfl ?_)
 intro b2 w1 hb_b2 ew1 h2
 replace h2 : Box _ b2 59 [.int .u8 t.op, .string t.name, .string t.arg, .int .i64 t.n, .bool t.has, .int .u8 t.ann.op, .string t.ann.name, .int .i64 t.ann.n, akv, kv] := h2
 replace h2 := h2.at (nO Lw hb_b2)
 replace hE := ew1.bl hE hB
 replace ht := Rep.Y ht ew1
 replace ha := Rep.Y ha ew1
 replace hk := hk.Y ew1
 replace Lw := Lw.Y ew1
 replace hB := ew1.z hB
 refine lP 1 tK rfl (q1 (cS (q0 (lP 1 tK rfl ?_))))
 refine lC (oD tK (h2.cell 4 _ rfl) rfl rfl rfl rfl rfl ?_)
 refine q1 ?_
 refine c_if _ rfl (fun c1 => ?_) (fun c1 => ?_)
 ·refine q0 (lP 3 tK rfl ?_)
  refine lS 9 _ rfl (fun c2 => ?_) (fun c2 => ?_)
  ·refine lP 1 tK rfl ?_
   refine lC (oL tK (fun j v hv => (h2).mid 5 (sub := [.int .u8 t.ann.op, .string t.ann.name, .int .i64 t.ann.n, akv]) rfl j v hv) rfl rfl rfl rfl rfl rfl ?_)
   refine lC (oK fo16 rfl rfl rfl (kRight_specB _ _ _ _ ha Lw) ?_)
   rintro _ w2 ⟨rfl, ew2⟩
   replace hE := ew2.bl hE hB
   replace ht := Rep.Y ht ew2
   replace ha := Rep.Y ha ew2
   replace hk := hk.Y ew2
   replace h2 := h2.Y ew2
   replace Lw := Lw.Y ew2
   replace hB := ew2.z hB
   refine lP 2 tK rfl ?_
   refine l_split 14 _ rfl (fun c3 => ?_) (fun c3 => ?_)
   ·refine lP 1 tK rfl ?_
    refine lC (oL tK (fun j v hv => (h2).mid 5 (sub := [.int .u8 t.ann.op, .string t.ann.name, .int .i64 t.ann.n, akv]) rfl j v hv) rfl rfl rfl rfl rfl rfl ?_)
    refine lC (oK fo46 rfl rfl rfl (kClosed_spec _ _ _ _ ha Lw hz) ?_)
    rintro _ w3 ⟨rfl, ew3⟩
    replace hE := ew3.bl hE hB
    replace ht := Rep.Y ht ew3
    replace ha := Rep.Y ha ew3
    replace hk := hk.Y ew3
    replace h2 := h2.Y ew3
    replace Lw := Lw.Y ew3
    replace hB := ew3.z hB
    refine lP 2 tK rfl (q1 (cR (xR (x1_ rfl rfl ?_))))
    exact ⟨by congr 1; unfold notedB; simp_all <;> intros <;> omega, hE⟩
   refine lP 5 tK rfl (q1 (cR (xR (x1_ rfl rfl ?_))))
   exact ⟨by congr 1; unfold notedB; simp_all <;> intros <;> omega, hE⟩
  refine lP 10 tK rfl (q1 (cR (xR (x1_ rfl rfl ?_))))
  exact ⟨by congr 1; unfold notedB; simp_all <;> intros <;> omega, hE⟩
 refine cK (xS (q0 (lP 3 tK rfl ?_)))
 refine lS 21 _ rfl (fun c4 => ?_) (fun c4 => ?_)
 ·refine lP 1 tK rfl ?_
  refine lC (oL tK (fun j v hv => (h2).mid 5 (sub := [.int .u8 t.ann.op, .string t.ann.name, .int .i64 t.ann.n, akv]) rfl j v hv) rfl rfl rfl rfl rfl rfl ?_)
  refine lC (oK fo137 rfl rfl rfl (blank_spec _ _ _ _ ha Lw) ?_)
  rintro _ w4 ⟨rfl, ew4⟩
  replace hE := ew4.bl hE hB
  replace ht := Rep.Y ht ew4
  replace ha := Rep.Y ha ew4
  replace hk := hk.Y ew4
  replace h2 := h2.Y ew4
  replace Lw := Lw.Y ew4
  replace hB := ew4.z hB
  refine lP 2 tK rfl (q1 (cR (x1_ rfl rfl ?_)))
  exact ⟨by congr 1; unfold notedB; simp_all <;> intros <;> omega, hE⟩
 refine lP 5 tK rfl (q1 (cR (x1_ rfl rfl ?_)))
 exact ⟨by congr 1; unfold notedB; simp_all <;> intros <;> omega, hE⟩
theorem tright_spec : ∀ (t : Tm) (arms : Bool) (M : Nat → Prop) (w : World) (v : Value), Rep.R M w v t → Low M w → AnnS t → Calls Try.prog 113 #[v, .bool arms] w (Ret fun r w' => r = .bool (rightT t arms) ∧ Ext w w') := by
 refine Tm.ind fun t ih => ?_
 intro arms M w v ht Lw hz
 have hE := Below.refl w.heap.size w
 have hB := lR w.heap.size
 obtain ⟨akv, kv, rfl, op, nm, ag, n64, ha, hk⟩ := tm_open ht
 have hlt := hk.lt
 refine cN (n := 120) Try.func113 rfl rfl rfl ?_
 refine q0 ?_
 refine lC (o_box rfl rfl rfl ?_)
 intro b2 w1 hb_b2 ew1 h2
 replace h2 : Box _ b2 59 [.int .u8 t.op, .string t.name, .string t.arg, .int .i64 t.n, .bool t.has, .int .u8 t.ann.op, .string t.ann.name, .int .i64 t.ann.n, akv, kv] := h2
 replace h2 := h2.at (nO Lw hb_b2)
 replace hE := ew1.bl hE hB
 replace ht := Rep.Y ht ew1
 replace ha := Rep.Y ha ew1
 replace hk := hk.Y ew1
 replace Lw := Lw.Y ew1
 replace hB := ew1.z hB
 refine lP 1 tK rfl (q1 (q0 (lP 1 tK rfl ?_)))
 refine lC (oD tK (h2.cell 0 _ rfl) rfl rfl rfl rfl rfl ?_)
 refine lC (oK fo125 rfl rfl rfl (shaped_spec t.op M _ Lw) ?_)
 rintro _ w2 ⟨rfl, ew2⟩
 replace hE := ew2.bl hE hB
 replace ht := Rep.Y ht ew2
 replace ha := Rep.Y ha ew2
 replace hk := hk.Y ew2
 replace h2 := h2.Y ew2
 replace Lw := Lw.Y ew2
 replace hB := ew2.z hB
 refine lP 3 tK rfl ?_
 refine lC (o_new tK rfl rfl rfl ?_)
 intro b5 w3 qb5 ew3 hb5
 have nb5 := nO Lw qb5
 refine lC (o_st tK hb5 rfl rfl rfl rfl (by simp [Value.cells, Value.oneCell']) rfl rfl ?_)
 intro w4 h5 uw4 bew4
 have ew4 : Ext w2 w4 := ew3.trans (bew4 _ (lQ qb5.symm))
 replace hE := ew4.bl hE hB
 replace ht := Rep.Y ht ew4
 replace ha := Rep.Y ha ew4
 replace hk := hk.Y ew4
 replace h2 := h2.Y ew4
 replace Lw := Lw.Y ew4
 replace hB := ew4.z hB
 replace h5 : Box _ b5 115 [.bool (shp t.op).1, .bool (shp t.op).2.1, .int .i64 (shp t.op).2.2.1, .int .i64 (shp t.op).2.2.2.1] := h5
 replace h5 := h5.at nb5
 refine lP 1 tK rfl (q1 ?_)
 refine c_cut (X := Nat) (fun b5 => [(1, .bool arms), (2, .pointer (some ⟨b2, 0, none⟩)), (5, .pointer (some ⟨b5, 0, none⟩))]) (fun b5 w' => ((shp t.op).2.2.2.2 = true ∧ (arms == armsB t.op) = true ∧ numberB t.op t.n = true ∧ notedB t.has t.ann (shp t.op).2.2.2.1 = true ∧ namedB t.arg (shp t.op).2.1 = true) ∧ At M w' b2 0 [.int .u8 t.op, .string t.name, .string t.arg, .int .i64 t.n, .bool t.has, .int .u8 t.ann.op, .string t.ann.name, .int .i64 t.ann.n, akv, kv] ∧ At M w' b5 0 [.bool (shp t.op).1, .bool (shp t.op).2.1, .int .i64 (shp t.op).2.2.1, .int .i64 (shp t.op).2.2.2.1] ∧ Sl M w' kv t.kids ∧ Low M w' ∧ Below w.heap.size w w' ∧ w.heap.size ≤ w'.heap.size) ?_ ?_
 ·refine q0 (lP 3 tK rfl ?_)
  refine l_splitB 18 _ rfl (fun c1 => ?_) (fun c1 => ?_)
  ·refine lP 31 tK rfl (q1 (cI rfl (q0 (lP 1 tK rfl (q1 (cR (xR (x1_ rfl rfl ?_))))))))
   exact ⟨by rw [rightT_eq]; clear ih; unfold headT armsB; simp_all <;> intros <;> omega, hE⟩
  refine lP 2 tK rfl ?_
  refine lC (oD tK (h2.cell 0 _ rfl) rfl rfl rfl rfl rfl ?_)
  refine lP 2 tK rfl ?_
  refine lS 23 _ rfl (fun c2 => ?_) (fun c2 => ?_)
  ·refine lP 4 tK rfl ?_
   refine lC (o_bne tK rfl rfl rfl rfl rfl rfl ?_)
   refine lP 2 tK rfl ?_
   refine l_split 30 _ rfl (fun c3 => ?_) (fun c3 => ?_)
   ·refine lP 19 tK rfl (q1 (cI rfl (q0 (lP 1 tK rfl (q1 (cR (xR (x1_ rfl rfl ?_))))))))
    exact ⟨by rw [rightT_eq]; clear ih; unfold headT armsB; simp_all <;> intros <;> omega, hE⟩
   refine lC (oL tK (fun j v hv => h2.cell j v hv) rfl rfl rfl rfl rfl rfl ?_)
   refine lC (oK fo126 rfl rfl rfl (number_spec _ _ _ _ ht Lw) ?_)
   rintro _ w5 ⟨rfl, ew5⟩
   replace hE := ew5.bl hE hB
   replace ht := Rep.Y ht ew5
   replace ha := Rep.Y ha ew5
   replace hk := hk.Y ew5
   replace h2 := h2.Y ew5
   replace h5 := h5.Y ew5
   replace Lw := Lw.Y ew5
   replace hB := ew5.z hB
   refine lP 3 tK rfl ?_
   refine l_splitB 35 _ rfl (fun c4 => ?_) (fun c4 => ?_)
   ·refine lP 14 tK rfl (q1 (cI rfl (q0 (lP 1 tK rfl (q1 (cR (xR (x1_ rfl rfl ?_))))))))
    exact ⟨by rw [rightT_eq]; clear ih; unfold headT armsB; simp_all <;> intros <;> omega, hE⟩
   refine lC (oL tK (fun j v hv => h2.cell j v hv) rfl rfl rfl rfl rfl rfl ?_)
   refine lP 1 tK rfl ?_
   refine lC (oD tK (h5.cell 3 _ rfl) rfl rfl rfl rfl rfl ?_)
   refine lC (oK fo127 rfl rfl rfl (noted_spec _ _ _ _ _ ht Lw hz.self) ?_)
   rintro _ w6 ⟨rfl, ew6⟩
   replace hE := ew6.bl hE hB
   replace ht := Rep.Y ht ew6
   replace ha := Rep.Y ha ew6
   replace hk := hk.Y ew6
   replace h2 := h2.Y ew6
   replace h5 := h5.Y ew6
   replace Lw := Lw.Y ew6
   replace hB := ew6.z hB
   refine lP 3 tK rfl ?_
   refine l_splitB 42 _ rfl (fun c5 => ?_) (fun c5 => ?_)
   ·refine lP 7 tK rfl (q1 (cI rfl (q0 (lP 1 tK rfl (q1 (cR (xR (x1_ rfl rfl ?_))))))))
    exact ⟨by rw [rightT_eq]; clear ih; unfold headT armsB; simp_all <;> intros <;> omega, hE⟩
   refine lP 1 tK rfl ?_
   refine lC (oD tK (h2.cell 2 _ rfl) rfl rfl rfl rfl rfl ?_)
   refine lP 1 tK rfl ?_
   refine lC (oD tK (h5.cell 1 _ rfl) rfl rfl rfl rfl rfl ?_)
   refine lC (oK fo128 rfl rfl rfl (named_spec _ _ _ (by first | exact nm | exact ag)) ?_)
   rintro _ w7 ⟨rfl, ew7⟩
   replace hE := ew7.bl hE hB
   replace ht := Rep.Y ht ew7
   replace ha := Rep.Y ha ew7
   replace hk := hk.Y ew7
   replace h2 := h2.Y ew7
   replace h5 := h5.Y ew7
   replace Lw := Lw.Y ew7
   replace hB := ew7.z hB
   refine lP 2 tK rfl (q1 ?_)
   refine c_ifB _ rfl (fun c6 => ?_) (fun c6 => ?_)
   ·refine q0 (lP 1 tK rfl (q1 (cR (xR (x1_ rfl rfl ?_)))))
    exact ⟨by rw [rightT_eq]; clear ih; unfold headT armsB; simp_all <;> intros <;> omega, hE⟩
   refine cK ?_
   exact x_cut (b5) (s3 rfl rfl rfl) ⟨by clear ih; simp_all [armsB], h2, h5, hk, Lw, hE, hB⟩
  refine lP 1 tK rfl ?_
  refine lC (oD tK (h2.cell 0 _ rfl) rfl rfl rfl rfl rfl ?_)
  refine lP 2 tK rfl ?_
  refine lC (o_bne tK rfl rfl rfl rfl rfl rfl ?_)
  refine lP 2 tK rfl ?_
  refine l_split 30 _ rfl (fun c7 => ?_) (fun c7 => ?_)
  ·refine lP 19 tK rfl (q1 (cI rfl (q0 (lP 1 tK rfl (q1 (cR (xR (x1_ rfl rfl ?_))))))))
   exact ⟨by rw [rightT_eq]; clear ih; unfold headT armsB; simp_all <;> intros <;> omega, hE⟩
  refine lC (oL tK (fun j v hv => h2.cell j v hv) rfl rfl rfl rfl rfl rfl ?_)
  refine lC (oK fo126 rfl rfl rfl (number_spec _ _ _ _ ht Lw) ?_)
  rintro _ w8 ⟨rfl, ew8⟩
  replace hE := ew8.bl hE hB
  replace ht := Rep.Y ht ew8
  replace ha := Rep.Y ha ew8
  replace hk := hk.Y ew8
  replace h2 := h2.Y ew8
  replace h5 := h5.Y ew8
  replace Lw := Lw.Y ew8
  replace hB := ew8.z hB
  refine lP 3 tK rfl ?_
  refine l_splitB 35 _ rfl (fun c8 => ?_) (fun c8 => ?_)
  ·refine lP 14 tK rfl (q1 (cI rfl (q0 (lP 1 tK rfl (q1 (cR (xR (x1_ rfl rfl ?_))))))))
   exact ⟨by rw [rightT_eq]; clear ih; unfold headT armsB; simp_all <;> intros <;> omega, hE⟩
  refine lC (oL tK (fun j v hv => h2.cell j v hv) rfl rfl rfl rfl rfl rfl ?_)
  refine lP 1 tK rfl ?_
  refine lC (oD tK (h5.cell 3 _ rfl) rfl rfl rfl rfl rfl ?_)
  refine lC (oK fo127 rfl rfl rfl (noted_spec _ _ _ _ _ ht Lw hz.self) ?_)
  rintro _ w9 ⟨rfl, ew9⟩
  replace hE := ew9.bl hE hB
  replace ht := Rep.Y ht ew9
  replace ha := Rep.Y ha ew9
  replace hk := hk.Y ew9
  replace h2 := h2.Y ew9
  replace h5 := h5.Y ew9
  replace Lw := Lw.Y ew9
  replace hB := ew9.z hB
  refine lP 3 tK rfl ?_
  refine l_splitB 42 _ rfl (fun c9 => ?_) (fun c9 => ?_)
  ·refine lP 7 tK rfl (q1 (cI rfl (q0 (lP 1 tK rfl (q1 (cR (xR (x1_ rfl rfl ?_))))))))
   exact ⟨by rw [rightT_eq]; clear ih; unfold headT armsB; simp_all <;> intros <;> omega, hE⟩
  refine lP 1 tK rfl ?_
  refine lC (oD tK (h2.cell 2 _ rfl) rfl rfl rfl rfl rfl ?_)
  refine lP 1 tK rfl ?_
  refine lC (oD tK (h5.cell 1 _ rfl) rfl rfl rfl rfl rfl ?_)
  refine lC (oK fo128 rfl rfl rfl (named_spec _ _ _ (by first | exact nm | exact ag)) ?_)
  rintro _ w10 ⟨rfl, ew10⟩
  replace hE := ew10.bl hE hB
  replace ht := Rep.Y ht ew10
  replace ha := Rep.Y ha ew10
  replace hk := hk.Y ew10
  replace h2 := h2.Y ew10
  replace h5 := h5.Y ew10
  replace Lw := Lw.Y ew10
  replace hB := ew10.z hB
  refine lP 2 tK rfl (q1 ?_)
  refine c_ifB _ rfl (fun c10 => ?_) (fun c10 => ?_)
  ·refine q0 (lP 1 tK rfl (q1 (cR (xR (x1_ rfl rfl ?_)))))
   exact ⟨by rw [rightT_eq]; clear ih; unfold headT armsB; simp_all <;> intros <;> omega, hE⟩
  refine cK ?_
  exact x_cut (b5) (s3 rfl rfl rfl) ⟨by clear ih; simp_all [armsB], h2, h5, hk, Lw, hE, hB⟩
 clear ht ha h2 hk Lw hE hB
 rintro b5 w40 ⟨⟨H1, H2, H3, H4, H5⟩, h2, h5, hk, Lw, hE, hB⟩
 refine c_cut (X := Nat) (fun b5 => [(1, .bool arms), (2, .pointer (some ⟨b2, 0, none⟩)), (5, .pointer (some ⟨b5, 0, none⟩))]) (fun b5 w' => ((shp t.op).2.2.2.2 = true ∧ (arms == armsB t.op) = true ∧ numberB t.op t.n = true ∧ notedB t.has t.ann (shp t.op).2.2.2.1 = true ∧ namedB t.arg (shp t.op).2.1 = true ∧ (bif decide (t.op = 40) then signB t.name else namedB t.name (shp t.op).1) = true) ∧ At M w' b2 0 [.int .u8 t.op, .string t.name, .string t.arg, .int .i64 t.n, .bool t.has, .int .u8 t.ann.op, .string t.ann.name, .int .i64 t.ann.n, akv, kv] ∧ At M w' b5 0 [.bool (shp t.op).1, .bool (shp t.op).2.1, .int .i64 (shp t.op).2.2.1, .int .i64 (shp t.op).2.2.2.1] ∧ Sl M w' kv t.kids ∧ Low M w' ∧ Below w.heap.size w w' ∧ w.heap.size ≤ w'.heap.size) ?_ ?_
 ·refine q0 (lP 1 tK rfl ?_)
  refine lC (oD tK (h2.cell 0 _ rfl) rfl rfl rfl rfl rfl ?_)
  refine lP 1 tK rfl (q1 ?_)
  refine cP _ rfl (fun c11 => ?_) (fun c11 => ?_)
  ·refine q0 (lP 1 tK rfl ?_)
   refine lC (oD tK (h2.cell 1 _ rfl) rfl rfl rfl rfl rfl ?_)
   refine lC (oK fo129 rfl rfl rfl (sign_spec _ _) ?_)
   rintro _ _ ⟨rfl, rfl⟩
   refine lP 1 tK rfl (q1 ?_)
   refine c_ifB _ rfl (fun c12 => ?_) (fun c12 => ?_)
   ·refine q0 (lP 1 tK rfl (q1 (cR (xR (x1_ rfl rfl ?_)))))
    exact ⟨by rw [rightT_eq]; clear ih; unfold headT armsB; simp_all <;> intros <;> omega, hE⟩
   refine cK ?_
   exact x_cut (b5) (s3 rfl rfl rfl) ⟨by clear ih; simp_all, h2, h5, hk, Lw, hE, hB⟩
  refine q0 (lP 1 tK rfl ?_)
  refine lC (oD tK (h2.cell 1 _ rfl) rfl rfl rfl rfl rfl ?_)
  refine lP 1 tK rfl ?_
  refine lC (oD tK (h5.cell 0 _ rfl) rfl rfl rfl rfl rfl ?_)
  refine lC (oK fo128 rfl rfl rfl (named_spec _ _ _ (by first | exact nm | exact ag)) ?_)
  rintro _ w11 ⟨rfl, ew11⟩
  replace hE := ew11.bl hE hB
  replace h2 := h2.Y ew11
  replace h5 := h5.Y ew11
  replace hk := hk.Y ew11
  replace Lw := Lw.Y ew11
  replace hB := ew11.z hB
  refine lP 1 tK rfl (q1 ?_)
  refine c_ifB _ rfl (fun c13 => ?_) (fun c13 => ?_)
  ·refine q0 (lP 1 tK rfl (q1 (cR (xR (x1_ rfl rfl ?_)))))
   exact ⟨by rw [rightT_eq]; clear ih; unfold headT armsB; simp_all <;> intros <;> omega, hE⟩
  refine cK ?_
  exact x_cut (b5) (s3 rfl rfl rfl) ⟨by clear ih; simp_all, h2, h5, hk, Lw, hE, hB⟩
 clear h2 h5 hk Lw hE hB
 rintro b5 w90 ⟨⟨H1, H2, H3, H4, H5, H6⟩, h2, h5, hk, Lw, hE, hB⟩
 refine c_cut (X := Nat) (fun b5 => [(1, .bool arms), (2, .pointer (some ⟨b2, 0, none⟩)), (5, .pointer (some ⟨b5, 0, none⟩))]) (fun b5 w' => headT t arms = true ∧ At M w' b2 0 [.int .u8 t.op, .string t.name, .string t.arg, .int .i64 t.n, .bool t.has, .int .u8 t.ann.op, .string t.ann.name, .int .i64 t.ann.n, akv, kv] ∧ At M w' b5 0 [.bool (shp t.op).1, .bool (shp t.op).2.1, .int .i64 (shp t.op).2.2.1, .int .i64 (shp t.op).2.2.2.1] ∧ Sl M w' kv t.kids ∧ Low M w' ∧ Below w.heap.size w w' ∧ w.heap.size ≤ w'.heap.size) ?_ ?_
 ·refine q0 (lP 1 tK rfl ?_)
  refine lC (oD tK (h5.cell 2 _ rfl) rfl rfl rfl rfl rfl ?_)
  refine lP 2 tK rfl ?_
  refine lS 66 _ rfl (fun c14 => ?_) (fun c14 => ?_)
  ·refine lP 1 tK rfl ?_
   refine lC (oD tK (h2.cell 9 _ rfl) rfl rfl rfl rfl rfl ?_)
   refine lC (o_len tK hk rfl rfl rfl rfl rfl ?_)
   refine lP 1 tK rfl ?_
   refine lC (oD tK (h5.cell 2 _ rfl) rfl rfl rfl rfl rfl ?_)
   refine lP 3 tK rfl ?_
   refine l_splitN 74 _ rfl (fun c15 => ?_) (fun c15 => ?_)
   ·refine lP 10 tK rfl (q1 (cI rfl (q0 (lP 1 tK rfl (q1 (cR (xR (x1_ rfl rfl ?_))))))))
    exact ⟨by rw [rightT_eq]; clear ih; unfold headT armsB; simp_all <;> intros <;> omega, hE⟩
   refine lP 1 tK rfl ?_
   refine lC (oD tK (h5.cell 2 _ rfl) rfl rfl rfl rfl rfl ?_)
   refine lP 2 tK rfl ?_
   refine lS 78 _ rfl (fun c16 => ?_) (fun c16 => ?_)
   ·refine lP 1 tK rfl ?_
    refine lC (oD tK (h2.cell 9 _ rfl) rfl rfl rfl rfl rfl ?_)
    refine lC (o_len tK hk rfl rfl rfl rfl rfl ?_)
    refine lP 3 tK rfl (q1 ?_)
    refine cP _ rfl (fun c17 => ?_) (fun c17 => ?_)
    ·refine q0 (lP 1 tK rfl (q1 (cR (xR (x1_ rfl rfl ?_)))))
     exact ⟨by rw [rightT_eq]; clear ih; unfold headT armsB; simp_all <;> intros <;> omega, hE⟩
    refine cK ?_
    exact x_cut (b5) (s3 rfl rfl rfl) ⟨by clear ih; simp_all [headT], h2, h5, hk, Lw, hE, hB⟩
   refine lP 6 tK rfl (q1 (c_ifF rfl (cK ?_)))
   exact x_cut (b5) (s3 rfl rfl rfl) ⟨by clear ih; simp_all [headT], h2, h5, hk, Lw, hE, hB⟩
  refine lP 9 tK rfl ?_
  refine lC (oD tK (h5.cell 2 _ rfl) rfl rfl rfl rfl rfl ?_)
  refine lP 2 tK rfl ?_
  refine lS 78 _ rfl (fun c18 => ?_) (fun c18 => ?_)
  ·refine lP 1 tK rfl ?_
   refine lC (oD tK (h2.cell 9 _ rfl) rfl rfl rfl rfl rfl ?_)
   refine lC (o_len tK hk rfl rfl rfl rfl rfl ?_)
   refine lP 3 tK rfl (q1 ?_)
   refine cP _ rfl (fun c19 => ?_) (fun c19 => ?_)
   ·refine q0 (lP 1 tK rfl (q1 (cR (xR (x1_ rfl rfl ?_)))))
    exact ⟨by rw [rightT_eq]; clear ih; unfold headT armsB; simp_all <;> intros <;> omega, hE⟩
   refine cK ?_
   exact x_cut (b5) (s3 rfl rfl rfl) ⟨by clear ih; simp_all [headT], h2, h5, hk, Lw, hE, hB⟩
  refine lP 6 tK rfl (q1 (c_ifF rfl (cK ?_)))
  exact x_cut (b5) (s3 rfl rfl rfl) ⟨by clear ih; simp_all [headT], h2, h5, hk, Lw, hE, hB⟩
 clear h2 h5 hk Lw hE hB
 rintro b5 w110 ⟨HH, h2, h5, hk, Lw, hE, hB⟩
 refine cS (q0 (lP 1 tK rfl ?_))
 refine lC (oD tK (h2.cell 9 _ rfl) rfl rfl rfl rfl rfl ?_)
 refine lC (o_len tK hk rfl rfl rfl rfl rfl ?_)
 refine lP 1 tK rfl (q1 (cB ?_))
 refine c_loop (X := Nat) (fun i => [(1, .bool arms), (2, .pointer (some ⟨b2, 0, none⟩)), (86, kv), (87, .int .i64 (t.kids.length : Int)), (88, .int .i64 (i : Nat))]) (fun i w' => i ≤ t.kids.length ∧ rightT t arms = kidsT t.op i (kidL (t.kids.drop i)) ∧ At M w' b2 0 [.int .u8 t.op, .string t.name, .string t.arg, .int .i64 t.n, .bool t.has, .int .u8 t.ann.op, .string t.ann.name, .int .i64 t.ann.n, akv, kv] ∧ Sl M w' kv t.kids ∧ Low M w' ∧ Below w.heap.size w w' ∧ w.heap.size ≤ w'.heap.size) (fun i => t.kids.length - i) (0) (s5 rfl rfl rfl rfl rfl) ?_ ?_
 ·exact ⟨Nat.zero_le _, by rw [rightT_eq, HH]; rfl, h2, hk, Lw, hE, hB⟩
 rintro i w12 ⟨hi, hinv, h2, hk, Lw, hE, hB⟩
 refine q0 (lP 1 tK rfl (q1 (cS ?_)))
 refine cP _ rfl (fun c20 => ?_) (fun c20 => ?_)
 ·refine cK (xS (cS (cB (q0 (lP 1 tK rfl ?_)))))
  have hik : i < t.kids.length := by omega
  have hlast : decide ((i : Int) = (t.kids.length : Int) - 1) = decide (i + 1 = t.kids.length) := by rw [decide_eq_decide]; omega
  refine lC (o_ixS tK hk (gE hik) rfl rfl rfl rfl rfl rfl rfl rfl rfl ?_)
  intro ebx eox eux hyx hX
  obtain ⟨akvx, kvx, rfl, opx, nmx, agx, n64x, hax, hkx⟩ := tm_open hyx
  replace hX : At M w12 ebx eox [.int .u8 t.kids[i].op, .string t.kids[i].name, .string t.kids[i].arg, .int .i64 t.kids[i].n, .bool t.kids[i].has, .int .u8 t.kids[i].ann.op, .string t.kids[i].ann.name, .int .i64 t.kids[i].ann.n, akvx, kvx] := hX
  refine lC (oL tK (fun j v hv => hX.cell j v hv) rfl rfl rfl rfl rfl rfl ?_)
  refine lC (o_new tK rfl rfl rfl ?_)
  intro b8 w13 qb8 ew13 hb8
  have nb8 := nO Lw qb8
  refine lP 1 tK rfl ?_
  refine lC (o_st tK hb8 rfl rfl rfl rfl (Rep.one hyx) rfl rfl ?_)
  intro w14 h8 uw14 bew14
  have ew14 : Ext w12 w14 := ew13.trans (bew14 _ (lQ qb8.symm))
  replace hE := ew14.bl hE hB
  replace h2 := h2.Y ew14
  replace hk := hk.Y ew14
  replace hyx := Rep.Y hyx ew14
  replace hax := Rep.Y hax ew14
  replace hkx := hkx.Y ew14
  replace hX := hX.Y ew14
  replace Lw := Lw.Y ew14
  replace hB := ew14.z hB
  replace h8 : Box w14 b8 59 [.int .u8 t.kids[i].op, .string t.kids[i].name, .string t.kids[i].arg, .int .i64 t.kids[i].n, .bool t.kids[i].has, .int .u8 t.kids[i].ann.op, .string t.kids[i].ann.name, .int .i64 t.kids[i].ann.n, akvx, kvx] := h8
  replace h8 := h8.at nb8
  refine q1 (q0 (lP 1 tK rfl ?_))
  refine lC (oD tK (h2.cell 0 _ rfl) rfl rfl rfl rfl rfl ?_)
  refine lP 2 tK rfl ?_
  refine lS 96 _ rfl (fun c21 => ?_) (fun c21 => ?_)
  ·refine lP 4 tK rfl (q1 (q0 (lP 2 tK rfl ?_)))
   refine lS 101 _ rfl (fun c22 => ?_) (fun c22 => ?_)
   ·refine lP 1 tK rfl ?_
    refine lC (oD tK (h8.cell 0 _ rfl) rfl rfl rfl rfl rfl ?_)
    refine lP 2 tK rfl ?_
    refine lC (oD tK (h2.cell 9 _ rfl) rfl rfl rfl rfl rfl ?_)
    refine lC (o_len tK hk rfl rfl rfl rfl rfl ?_)
    refine lC (o_ai rfl rfl rfl (by omega) rfl rfl ?_)
    refine lP 1 tK rfl ?_
    refine lC (oK fo130 rfl rfl rfl (arm_spec _ _ _) ?_)
    rintro _ _ ⟨rfl, rfl⟩
    rw [hlast]
    refine lP 3 tK rfl ?_
    refine l_splitB 113 _ rfl (fun c23 => ?_) (fun c23 => ?_)
    ·refine lP 5 tK rfl (q1 (cI rfl (q0 (lP 1 tK rfl (q1 (cR (xB (xR (xR (xB (xR (x1_ rfl rfl ?_))))))))))))
     exact ⟨by rw [hinv, kidsT_step hik]; clear ih; unfold innerB; simp_all, hE⟩
    refine lC (oL tK (fun j v hv => h8.cell j v hv) rfl rfl rfl rfl rfl rfl ?_)
    refine lP 1 tK rfl ?_
    refine lC (oK fo113 rfl rfl rfl (ih _ (gM hik) _ M _ _ hyx Lw (hz.kid (gM hik))) ?_)
    rintro _ w15 ⟨rfl, ew15⟩
    replace hE := ew15.bl hE hB
    replace h2 := h2.Y ew15
    replace hk := hk.Y ew15
    replace hyx := Rep.Y hyx ew15
    replace hax := Rep.Y hax ew15
    replace hkx := hkx.Y ew15
    replace hX := hX.Y ew15
    replace h8 := h8.Y ew15
    replace Lw := Lw.Y ew15
    replace hB := ew15.z hB
    refine lP 2 tK rfl (q1 ?_)
    refine c_ifB _ rfl (fun c24 => ?_) (fun c24 => ?_)
    ·refine q0 (lP 1 tK rfl (q1 (cR (xB (xR (xR (xB (xR (x1_ rfl rfl ?_)))))))))
     exact ⟨by rw [hinv, kidsT_step hik]; clear ih; unfold innerB; simp_all, hE⟩
    refine cK (x_blk (xS (cG ?_)))
    refine lC (o_ai rfl rfl rfl (by omega) rfl rfl ?_)
    refine lP 1 tK rfl (lN ?_)
    exact x_round (i + 1) (s5 rfl rfl rfl rfl (gN rfl (by omega))) ⟨by omega, by rw [hinv, kidsT_step hik]; clear ih; unfold innerB; simp_all, h2, hk, Lw, hE, hB⟩ (by omega)
   refine lP 12 tK rfl ?_
   refine lC (oL tK (fun j v hv => h8.cell j v hv) rfl rfl rfl rfl rfl rfl ?_)
   refine lP 1 tK rfl ?_
   refine lC (oK fo113 rfl rfl rfl (ih _ (gM hik) _ M _ _ hyx Lw (hz.kid (gM hik))) ?_)
   rintro _ w16 ⟨rfl, ew16⟩
   replace hE := ew16.bl hE hB
   replace h2 := h2.Y ew16
   replace hk := hk.Y ew16
   replace hyx := Rep.Y hyx ew16
   replace hax := Rep.Y hax ew16
   replace hkx := hkx.Y ew16
   replace hX := hX.Y ew16
   replace h8 := h8.Y ew16
   replace Lw := Lw.Y ew16
   replace hB := ew16.z hB
   refine lP 2 tK rfl (q1 ?_)
   refine c_ifB _ rfl (fun c25 => ?_) (fun c25 => ?_)
   ·refine q0 (lP 1 tK rfl (q1 (cR (xB (xR (xR (xB (xR (x1_ rfl rfl ?_)))))))))
    exact ⟨by rw [hinv, kidsT_step hik]; clear ih; unfold innerB; simp_all, hE⟩
   refine cK (x_blk (xS (cG ?_)))
   refine lC (o_ai rfl rfl rfl (by omega) rfl rfl ?_)
   refine lP 1 tK rfl (lN ?_)
   exact x_round (i + 1) (s5 rfl rfl rfl rfl (gN rfl (by omega))) ⟨by omega, by rw [hinv, kidsT_step hik]; clear ih; unfold innerB; simp_all, h2, hk, Lw, hE, hB⟩ (by omega)
  refine lP 4 tK rfl (q1 (q0 (lP 14 tK rfl ?_)))
  refine lC (oL tK (fun j v hv => h8.cell j v hv) rfl rfl rfl rfl rfl rfl ?_)
  refine lP 1 tK rfl ?_
  refine lC (oK fo113 rfl rfl rfl (ih _ (gM hik) _ M _ _ hyx Lw (hz.kid (gM hik))) ?_)
  rintro _ w17 ⟨rfl, ew17⟩
  replace hE := ew17.bl hE hB
  replace h2 := h2.Y ew17
  replace hk := hk.Y ew17
  replace hyx := Rep.Y hyx ew17
  replace hax := Rep.Y hax ew17
  replace hkx := hkx.Y ew17
  replace hX := hX.Y ew17
  replace h8 := h8.Y ew17
  replace Lw := Lw.Y ew17
  replace hB := ew17.z hB
  refine lP 2 tK rfl (q1 ?_)
  refine c_ifB _ rfl (fun c26 => ?_) (fun c26 => ?_)
  ·refine q0 (lP 1 tK rfl (q1 (cR (xB (xR (xR (xB (xR (x1_ rfl rfl ?_)))))))))
   exact ⟨by rw [hinv, kidsT_step hik]; clear ih; unfold innerB; simp_all, hE⟩
  refine cK (x_blk (xS (cG ?_)))
  refine lC (o_ai rfl rfl rfl (by omega) rfl rfl ?_)
  refine lP 1 tK rfl (lN ?_)
  exact x_round (i + 1) (s5 rfl rfl rfl rfl (gN rfl (by omega))) ⟨by omega, by rw [hinv, kidsT_step hik]; clear ih; unfold innerB; simp_all, h2, hk, Lw, hE, hB⟩ (by omega)
 refine c_exit (xE (xE (x_blkE (xS (q0 (lP 1 tK rfl (q1 (cR (x1_ rfl rfl ?_)))))))))
 exact ⟨by rw [hinv, kidsT_end (by omega)], hE⟩
theorem tRight_spec (t : Tm) (M : Nat → Prop) (w : World) (v : Value) (ht : Rep.R M w v t) (Lw : Low M w) (hz : AnnS t) :
  Calls Try.prog 87 #[v] w (Ret fun r w' => r = .bool (rightT t false) ∧ Ext w w') := by
 have hE := Below.refl w.heap.size w
 have hB := lR w.heap.size
 obtain ⟨akv, kv, rfl, op, nm, ag, n64, ha, hk⟩ := tm_open ht
 refine cN (n := 5) Try.func87 rfl rfl rfl ?_
 refine q0 ?_
 refine lC (o_box rfl rfl rfl ?_)
 intro b1 w1 hb_b1 ew1 h1
 replace h1 : Box _ b1 59 [.int .u8 t.op, .string t.name, .string t.arg, .int .i64 t.n, .bool t.has, .int .u8 t.ann.op, .string t.ann.name, .int .i64 t.ann.n, akv, kv] := h1
 replace h1 := h1.at (nO Lw hb_b1)
 replace hE := ew1.bl hE hB
 replace ht := Rep.Y ht ew1
 replace ha := Rep.Y ha ew1
 replace hk := hk.Y ew1
 replace Lw := Lw.Y ew1
 replace hB := ew1.z hB
 refine lP 1 tK rfl (q1 (q0 ?_))
 refine lC (oL tK (fun j v hv => h1.cell j v hv) rfl rfl rfl rfl rfl rfl ?_)
 refine lC (oK fo113 rfl rfl rfl (tright_spec _ _ _ _ _ ht Lw hz) ?_)
 rintro _ w2 ⟨rfl, ew2⟩
 replace hE := ew2.bl hE hB
 replace ht := Rep.Y ht ew2
 replace ha := Rep.Y ha ew2
 replace hk := hk.Y ew2
 replace h1 := h1.Y ew2
 replace Lw := Lw.Y ew2
 replace hB := ew2.z hB
 refine lP 1 tK rfl (q1 (cR (x1_ rfl rfl ?_)))
 exact ⟨rfl, hE⟩
end Go.Proofs.Ytpoahmeacjggfaa
namespace Rw
open Go Go.RowKit
def tz5 : Tm := .mk 0 ⟨#[]⟩ ⟨#[]⟩ 0 false (.mk 0 ⟨#[]⟩ 0 []) []
open Go Go.RowKit
end Rw
namespace Go.Proofs.Ytpoahmeacjggfaa
open Go Rw Go.RowKit
set_option maxRecDepth 100000
theorem typed_own : ∀ (t : Ty) (M : Nat → Prop) (w : World) (v : Value), Rep.R M w v t → Low M w → psz t ≤ 2000000 → Calls Try.prog 114 #[v] w (Ret fun r w' => OTy 25 w.heap.size w' t r (Plus NoM w w') ∧ Ext w w') := by
  refine Ty.ind fun t ih => ?_
  intro M w v ht hlow0 hsz
  have Lw := hlow0
  have hB := lR w.heap.size
  have hE := Below.refl w.heap.size w
  have hsub : ∀ b, M b → M b := fun _ h => h
  obtain ⟨kv, rfl, op, nm, n64, hk⟩ := tO ht
  have hps := psz_eq t
  have hkl := len_psz t.kids
  refine cN (n := 22) Try.func114 rfl rfl rfl ?_
  refine q0 ?_
  refine lC (o_box rfl rfl rfl ?_)
  intro b1 w1 qb1 ew1 hb1
  have sw1 := Stp.add ew1 Lw hB (lQ qb1.symm) hb1.lt
  have h1 : MB w.heap.size (Rw.Add M b1) w1 b1 25 [.int .u8 t.op, .string t.name, .int .i64 t.n, kv] := MB.mk' hb1 qb1 hB
  replace hE := hE.trans sw1.below
  replace ht := Rep.sp ht sw1
  replace hk := hk.sp sw1
  replace hsub := sw1.sb hsub
  replace Lw := sw1.low
  replace hB := sw1.z hB
  refine lC (o_new tK rfl rfl rfl ?_)
  intro b2 w2 qb2 ew2 hb2
  have ne_h1_h2 : b1 ≠ b2 := by have := h1.lt; omega
  have sw2 := Stp.add ew2 Lw hB (lQ qb2.symm) hb2.lt
  have h2 : MB w.heap.size (Rw.Add (Rw.Add M b1) b2) w2 b2 25 [.int .u8 0, .string ⟨#[]⟩, .int .i64 0, .slice none 0 0] := MB.mk' hb2 qb2 hB
  replace h1 := h1.sp sw2 (ew2.block b1 h1.lt)
  replace hE := hE.trans sw2.below
  replace ht := Rep.sp ht sw2
  replace hk := hk.sp sw2
  replace hsub := sw2.sb hsub
  replace Lw := sw2.low
  replace hB := sw2.z hB
  refine q1 (q0 (lP 1 tK rfl (q1 (cS (q0 (lP 1 tK rfl ?_))))))
  refine lC (oD tK (h1.cell 3 _ rfl) rfl rfl rfl rfl rfl ?_)
  refine lC (o_len tK hk rfl rfl rfl rfl rfl ?_)
  refine lP 1 tK rfl (q1 (cB ?_))
  have d_ho_h1 : ∀ x, (.slice none 0 0 : Value).ownBlock = some x → x ≠ b1 := fun x hx => by simp [Value.ownBlock] at hx
  have d_ho_h2 : ∀ x, (.slice none 0 0 : Value).ownBlock = some x → x ≠ b2 := fun x hx => by simp [Value.ownBlock] at hx
  have d_hO_h1 : ∀ x, NoM x → x ≠ b1 := fun _ h => h.elim
  have d_hO_h2 : ∀ x, NoM x → x ≠ b2 := fun _ h => h.elim
  have dd_ho_hO : ∀ x y, (.slice none 0 0 : Value).ownBlock = some x → NoM y → x ≠ y := fun _ _ _ h => h.elim
  refine c_loop5 (X := Nat) (Y := Value) (Z := Nat → Prop) (U := List (VN 3)) (V := Nat → Prop) (fun i v M1 us F => [(1, .pointer (some ⟨b1, 0, none⟩)), (2, .pointer (some ⟨b2, 0, none⟩)), (3, v), (7, kv), (8, .int .i64 (t.kids.length : Int)), (9, .int .i64 (i : Nat))]) (fun i v M1 us F w' => i ≤ t.kids.length ∧ OwnSl 25 w.heap.size M1 w' v us ∧ OTs 25 w.heap.size w' us (t.kids.take i) F ∧ MB w.heap.size M1 w' b1 25 [.int .u8 t.op, .string t.name, .int .i64 t.n, kv] ∧ MB w.heap.size M1 w' b2 25 [.int .u8 0, .string ⟨#[]⟩, .int .i64 0, .slice none 0 0] ∧ (∀ x, (v : Value).ownBlock = some x → x ≠ b1) ∧ (∀ x, (v : Value).ownBlock = some x → x ≠ b2) ∧ (∀ x, F x → x ≠ b1) ∧ (∀ x, F x → x ≠ b2) ∧ (∀ x y, (v : Value).ownBlock = some x → F y → x ≠ y) ∧ Sl M1 w' kv t.kids ∧ Low M1 w' ∧ (∀ b, M b → M1 b) ∧ Below w.heap.size w w' ∧ w.heap.size ≤ w'.heap.size) (fun i v M1 us F => t.kids.length - i) (0) (.slice none 0 0) ((Rw.Add (Rw.Add M b1) b2)) ([]) (NoM) (s6 rfl rfl rfl rfl rfl rfl) ?_ ?_
  · exact ⟨Nat.zero_le _, own_nil, ots_nil (fun _ h => h.elim), h1, h2, d_ho_h1, d_ho_h2, d_hO_h1, d_hO_h2, dd_ho_hO, hk, Lw, hsub, hE, hB⟩
  rintro i v M1 us F w3 ⟨hi, ho, hO, h1, h2, d_ho_h1, d_ho_h2, d_hO_h1, d_hO_h2, dd_ho_hO, hk, Lw, hsub, hE, hB⟩
  have hul := hO.len
  rw [List.length_take] at hul
  refine q0 (lP 1 tK rfl (q1 (cS ?_)))
  refine cP _ rfl (fun c1 => ?_) (fun c1 => ?_)
  · refine cK (xS (cS (cB (q0 ?_))))
    have hik : i < t.kids.length := by omega
    have hp1 := psz_get hik
    refine lC (o_ixS tK hk (gE hik) rfl rfl rfl rfl rfl rfl rfl rfl rfl ?_)
    intro ebx eox eux hyx hX
    obtain ⟨kvx, rfl, opx, nmx, n64x, hkx⟩ := tO hyx
    replace hX : At M1 w3 ebx eox [.int .u8 t.kids[i].op, .string t.kids[i].name, .int .i64 t.kids[i].n, kvx] := hX
    refine lC (oL tK (fun j v hv => hX.cell j v hv) rfl rfl rfl rfl rfl rfl ?_)
    refine lC (o_new tK rfl rfl rfl ?_)
    intro b5 w4 qb5 ew4 hb5
    have nb5 := nO Lw qb5
    refine lC (o_st tK hb5 rfl rfl rfl rfl (Rep.one hyx) rfl rfl ?_)
    intro w5 h5 uw5 bew5
    have ew5 : Ext w3 w5 := ew4.trans (bew5 _ (lQ qb5.symm))
    replace ho := ho.Y Lw hB ew5
    replace hO := hO.Y Lw hB ew5
    replace h1 := h1.Y Lw hB ew5
    replace h2 := h2.Y Lw hB ew5
    replace hE := ew5.bl hE hB
    replace hk := hk.Y ew5
    replace hyx := Rep.Y hyx ew5
    replace hkx := hkx.Y ew5
    replace hX := hX.Y ew5
    replace Lw := Lw.Y ew5
    replace hB := ew5.z hB
    replace h5 : Box w5 b5 25 [.int .u8 t.kids[i].op, .string t.kids[i].name, .int .i64 t.kids[i].n, kvx] := h5
    replace h5 := h5.at nb5
    refine q1 (cG (lP 1 tK rfl ?_))
    refine lC (oL tK (fun j v hv => h5.cell j v hv) rfl rfl rfl rfl rfl rfl ?_)
    have l_h1 := h1.lt
    have l_h2 := h2.lt
    have l_ho := ho.lt
    have l_hO := hO.lt
    have hB0 := hB
    refine lC (oK fo114 rfl rfl rfl (ih _ (gM hik) _ _ _ hyx Lw (by omega)) ?_)
    rintro vr w6 ⟨hr, ew6⟩
    replace hr := hr.ge hB0
    have hGl : ∀ c, Plus NoM w5 w6 c → w5.heap.size ≤ c := fun c h => h.elim (fun h => h.elim) (fun h => h.1)
    replace ho := ho.Y Lw hB ew6
    replace hO := hO.Y Lw hB ew6
    replace h1 := h1.Y Lw hB ew6
    replace h2 := h2.Y Lw hB ew6
    replace hE := ew6.bl hE hB
    replace hk := hk.Y ew6
    replace hyx := Rep.Y hyx ew6
    replace hkx := hkx.Y ew6
    replace hX := hX.Y ew6
    replace h5 := h5.Y ew6
    replace Lw := Lw.Y ew6
    replace hB := ew6.z hB
    generalize Plus NoM w5 w6 = G at hr hGl
    have d_hr_h1 : ∀ x, G x → x ≠ b1 := fun x hx => by have := hGl x hx; omega
    have d_hr_h2 : ∀ x, G x → x ≠ b2 := fun x hx => by have := hGl x hx; omega
    have dd_ho_hr : ∀ x y, (v : Value).ownBlock = some x → G y → x ≠ y := fun x y hx hy => by have := hGl y hy; have := (l_ho x hx).2; omega
    have dd_hr_hO : ∀ c, G c → ¬ F c := fun c hg hf => by have := hGl c hg; have := (l_hO c hf).2; omega
    refine lC (o_bs tK rfl rfl rfl rfl rfl rfl rfl (sz1 hr.size) rfl rfl rfl ?_)
    intro bw7 w7 qbw7 ew7 hbw7
    have nbw7 := nO Lw qbw7
    replace ho := ho.Y Lw hB ew7
    replace hO := hO.Y Lw hB ew7
    replace h1 := h1.Y Lw hB ew7
    replace h2 := h2.Y Lw hB ew7
    replace hr := hr.Y Lw hB ew7
    replace hE := ew7.bl hE hB
    replace hk := hk.Y ew7
    replace hyx := Rep.Y hyx ew7
    replace hkx := hkx.Y ew7
    replace hX := hX.Y ew7
    replace h5 := h5.Y ew7
    replace Lw := Lw.Y ew7
    replace hB := ew7.z hB
    refine lC (o_app1 tK ho hbw7 nbw7 hr.vn Lw hB rfl rfl rfl rfl rfl rfl rfl (by omega) (by show (_ + _) * 56 ≤ _; omega) rfl rfl ?_)
    intro vw8 w8 Mw8 hw8 sw8 frw8 blw8
    have zd_ho_h1 := d_ho_h1
    replace d_ho_h1 : ∀ x, (vw8 : Value).ownBlock = some x → x ≠ b1 := fun x hx => (blw8 x hx).elim (d_ho_h1 x) (fun h e => by have := h1.lt; omega)
    have zd_ho_h2 := d_ho_h2
    replace d_ho_h2 : ∀ x, (vw8 : Value).ownBlock = some x → x ≠ b2 := fun x hx => (blw8 x hx).elim (d_ho_h2 x) (fun h e => by have := h2.lt; omega)
    have zdd_ho_hO := dd_ho_hO
    replace dd_ho_hO : ∀ x y, (vw8 : Value).ownBlock = some x → F y → x ≠ y := fun x y hx hy => (blw8 x hx).elim (fun h => dd_ho_hO x y h hy) (fun h e => by have := (hO.lt y hy).2; omega)
    have zdd_ho_hr := dd_ho_hr
    replace dd_ho_hr : ∀ x y, (vw8 : Value).ownBlock = some x → G y → x ≠ y := fun x y hx hy => (blw8 x hx).elim (fun h => dd_ho_hr x y h hy) (fun h e => by have := (hr.lt y hy).2; omega)
    replace hO := hO.sp sw8 (fun x hx => frw8 x (hO.lt x hx).2 (fun e => zdd_ho_hO x x e.symm hx rfl))
    replace h1 := h1.sp sw8 (frw8 b1 h1.lt (fun e => zd_ho_h1 _ e.symm rfl))
    replace h2 := h2.sp sw8 (frw8 b2 h2.lt (fun e => zd_ho_h2 _ e.symm rfl))
    replace hr := hr.sp sw8 (fun x hx => frw8 x (hr.lt x hx).2 (fun e => zdd_ho_hr x x e.symm hx rfl))
    replace hE := hE.trans sw8.below
    replace hk := hk.sp sw8
    replace hyx := Rep.sp hyx sw8
    replace hkx := hkx.sp sw8
    replace hX := hX.sp sw8
    replace h5 := h5.sp sw8
    replace hsub := sw8.sb hsub
    replace Lw := sw8.low
    replace hB := sw8.z hB
    replace ho := hw8
    clear hw8
    refine lP 1 tK rfl (q2 (xS (cG ?_)))
    refine lC (o_ai rfl rfl rfl (by omega) rfl rfl ?_)
    refine lP 1 tK rfl (lN ?_)
    have hO2 := hO.app hr dd_hr_hO
    exact x_round5 (i + 1) (vw8) (Mw8) (us ++ [⟨vr⟩]) (fun c => F c ∨ G c) (s6 rfl rfl rfl rfl rfl rfl) ⟨by omega, ho, by rw [List.take_succ_eq_append_getElem hik]; exact hO2, h1, h2, d_ho_h1, d_ho_h2, (fun x hx => hx.elim (d_hO_h1 x) (d_hr_h1 x)), (fun x hx => hx.elim (d_hO_h2 x) (d_hr_h2 x)), (fun x y hx hy => hy.elim (dd_ho_hO x y hx) (dd_ho_hr x y hx)), hk, Lw, hsub, hE, hB⟩ (by omega)
  refine c_exit (xE (xE (x_blkE (xS (q0 (lP 2 tK rfl ?_))))))
  obtain rfl : i = t.kids.length := by omega
  rw [List.take_of_length_le (lR _)] at hO
  obtain ⟨av, cv, rfl, hcv⟩ := ho.val
  refine lC (o_st tK h1.box rfl rfl rfl rfl (by simp [Value.cells, Value.oneCell']) rfl rfl ?_)
  intro w9 hw9 qw9 bew9
  have uw9 : UpdB _ _ _ := ⟨qw9, bew9⟩
  have sw9 := uw9.sp h1.inM Lw h1.ge
  have frw9 := qw9.2
  replace ho := ho.sp sw9 (fun x hx => frw9 x (ho.lt x hx).2 (d_ho_h1 x hx))
  replace hO := hO.sp sw9 (fun x hx => frw9 x (hO.lt x hx).2 (d_hO_h1 x hx))
  replace h2 := h2.sp sw9 (frw9 b2 h2.lt ne_h1_h2.symm)
  replace hE := hE.trans sw9.below
  replace hk := hk.sp sw9
  replace hsub := sw9.sb hsub
  replace Lw := sw9.low
  replace hB := sw9.z hB
  replace h1 : MB w.heap.size _ w9 b1 _ [.int .u8 t.op, .string t.name, .int .i64 t.n, .slice av us.length cv] := ⟨hw9, h1.inM, h1.ge⟩
  refine q1 (q0 ?_)
  refine lC (oL tK (fun j v hv => h1.cell j v hv) rfl rfl rfl rfl rfl rfl ?_)
  refine lC (o_st tK h2.box rfl rfl rfl rfl (by intro u hu; simp [Value.cells] at hu; rcases hu with rfl | rfl | rfl | rfl <;> rfl) rfl rfl ?_)
  intro w10 hw10 qw10 bew10
  have uw10 : UpdB _ _ _ := ⟨qw10, bew10⟩
  have sw10 := uw10.sp h2.inM Lw h2.ge
  have frw10 := qw10.2
  replace ho := ho.sp sw10 (fun x hx => frw10 x (ho.lt x hx).2 (d_ho_h2 x hx))
  replace hO := hO.sp sw10 (fun x hx => frw10 x (hO.lt x hx).2 (d_hO_h2 x hx))
  replace h1 := h1.sp sw10 (frw10 b1 h1.lt ne_h1_h2)
  replace hE := hE.trans sw10.below
  replace hk := hk.sp sw10
  replace hsub := sw10.sb hsub
  replace Lw := sw10.low
  replace hB := sw10.z hB
  replace h2 : MB w.heap.size _ w10 b2 _ [.int .u8 t.op, .string t.name, .int .i64 t.n, .slice av us.length cv] := ⟨hw10, h2.inM, h2.ge⟩
  refine q1 (cR ?_)
  refine x_ret1s tK (fun j v hv => h2.cell j v hv) rfl rfl rfl rfl rfl ?_
  have hfin := oty_fin op nm n64 (by omega) ho hO dd_ho_hO
  rw [← ty_eta] at hfin
  exact ⟨hfin, hE⟩
open Go Rw Go.RowKit
set_option maxRecDepth 100000
theorem at_spec (M : Nat → Prop) (w : World) (v : Value) (l : List Int) (n : Int) (hl : Sl M w v l) :
  Calls Try.prog 110 #[v, .int .i64 n] w (Ret fun r w' => r = .int .i64 (atOf l n) ∧ w = w') := by
 have hlt := hl.lt
 refine cN (n := 19) Try.func110 rfl rfl rfl ?_
 refine q0 (lP 1 tK rfl (q1 (cS (q0 (lP 1 tK rfl (q1 (cB ?_)))))))
 refine c_loop (X := Nat) (fun x => [(0, v), (1, .int .i64 n), (5, .int .i64 (x : Nat))]) (fun x w' => w = w' ∧ x ≤ l.length ∧ ∀ j, j < x → l[j]? ≠ some n) (fun x => l.length - x) (0) (s3 rfl rfl rfl) ?_ ?_
 ·exact ⟨rfl, Nat.zero_le _, fun j hj => absurd hj (Nat.not_lt_zero _)⟩
 rintro k _ ⟨rfl, hk, hno⟩
 refine cS (q0 (lP 2 tK rfl ?_))
 refine lC (o_len tK hl rfl rfl rfl rfl rfl ?_)
 refine lP 1 tK rfl (q1 ?_)
 refine cP _ rfl (fun h => ?_) (fun h => ?_)
 ·have hkl : k < l.length := by omega
  refine cK (xS (cS (cB (q0 (lP 2 tK rfl ?_)))))
  refine lC (o_ixS tK hl (gE hkl) rfl rfl rfl rfl rfl rfl rfl rfl rfl ?_)
  intro b o u hr hat
  obtain ⟨rfl, hb⟩ := hr
  refine lC (oD tK (hat.cell 0 _ rfl) rfl rfl rfl rfl rfl ?_)
  refine lP 2 tK rfl (q1 ?_)
  refine cP _ rfl (fun h2 => ?_) (fun h2 => ?_)
  ·refine q0 (lP 2 tK rfl (q1 (cR (xB (xR (xR (xB (xR (x1_ rfl rfl ?_)))))))))
   exact ⟨by rw [atOf_found hkl h2 hno], rfl⟩
  refine cK (x_blk (xS (cG (lP 1 tK rfl ?_))))
  refine lC (o_ai rfl rfl rfl (by omega) rfl rfl ?_)
  refine lP 1 tK rfl (lN ?_)
  exact x_round (k + 1) (s3 rfl rfl rfl) ⟨rfl, by omega, step_no hno hkl h2⟩ (by omega)
 refine c_exit (xE (xE (x_blkE (xS (q0 (lP 1 tK rfl (q1 (cR (x1_ rfl rfl ?_)))))))))
 exact ⟨by rw [atOf_none (by omega) hno], rfl⟩
theorem in_spec (M : Nat → Prop) (w : World) (v : Value) (l : List Int) (n : Int) (hl : Sl M w v l) :
  Calls Try.prog 83 #[v, .int .i64 n] w (Ret fun r w' => r = .bool (decide (n ∈ l)) ∧ w = w') := by
 refine cN (n := 9) Try.func83 rfl rfl rfl ?_
 refine q0 (lP 1 tK rfl (q1 (q0 (lP 2 tK rfl ?_))))
 refine lC (oK fo110 rfl rfl rfl (at_spec M _ _ l n hl) ?_)
 rintro _ _ ⟨rfl, rfl⟩
 refine lP 2 tK rfl (q1 (cR (x1_ rfl rfl ?_)))
 exact ⟨by rw [inOf_at], rfl⟩
theorem refVars_spec (t : Ty) (c : UInt8) (M : Nat → Prop) (w : World) (v : Value) (hsh : shapeF t c = true) (ht : Rep.R M w v t) (hlow0 : Low M w) (hz : psz t ≤ 2000000) :
  Calls Try.prog 48 #[v] w (Ret fun r w' => Sl M w' r (varsF t) ∧ Ext w w') := by
 have Lw := hlow0
 have hB := lR w.heap.size
 have hE := Below.refl w.heap.size w
 have hsub : ∀ b, M b → M b := fun _ h => h
 obtain ⟨kv, rfl, op, nm, n64, hk⟩ := tO ht
 have hpc := psz_canon _ t (lR _)
 have hpl : (partsL (canonF t)).length = psz (canonF t) := rfl
 refine cN (n := 48) Try.func48 rfl rfl rfl ?_
 refine q0 ?_
 refine lC (o_box rfl rfl rfl ?_)
 intro b1 w1 hb_b1 ew1 h1
 replace h1 : Box _ b1 25 [.int .u8 t.op, .string t.name, .int .i64 t.n, kv] := h1
 replace h1 := h1.at (nO Lw hb_b1)
 replace hE := ew1.bl hE hB
 replace ht := Rep.Y ht ew1
 replace hk := hk.Y ew1
 replace Lw := Lw.Y ew1
 replace hB := ew1.z hB
 refine lP 1 tK rfl (q1 (q0 (lP 1 tK rfl (q1 (q0 ?_)))))
 refine lC (oL tK (fun j v hv => h1.cell j v hv) rfl rfl rfl rfl rfl rfl ?_)
 refine lC (oK fo49 rfl rfl rfl (refCanon_all _ t c _ _ _ (lR _) hsh ht Lw hz) ?_)
 rintro vc w2 ⟨hc, ew2⟩
 replace hE := ew2.bl hE hB
 replace ht := Rep.Y ht ew2
 replace hk := hk.Y ew2
 replace h1 := h1.Y ew2
 replace Lw := Lw.Y ew2
 replace hB := ew2.z hB
 refine lC (oK fo21 rfl rfl rfl (parts_spec (canonF t) _ _ _ hc Lw (by omega)) ?_)
 rintro vhp w3 ⟨hp, ew3⟩
 replace hE := ew3.bl hE hB
 replace ht := Rep.Y ht ew3
 replace hk := hk.Y ew3
 replace h1 := h1.Y ew3
 replace hc := Rep.Y hc ew3
 replace Lw := Lw.Y ew3
 replace hB := ew3.z hB
 refine lP 1 tK rfl (q1 (cS (q0 (lP 1 tK rfl (q1 (cB ?_))))))
 refine c_loop3 (X := Nat) (Y := Value) (Z := Nat → Prop) (fun i v M1 => [(3, v), (4, vhp), (5, .int .i64 (i : Nat))]) (fun i v M1 w' => i ≤ (partsL (canonF t)).length ∧ OwnSl 3 w.heap.size M1 w' v (varsTo [] ((partsL (canonF t)).take i)) ∧ Sl M1 w' vhp (partsL (canonF t)) ∧ Low M1 w' ∧ (∀ b, M b → M1 b) ∧ Below w.heap.size w w' ∧ w.heap.size ≤ w'.heap.size) (fun i v M1 => (partsL (canonF t)).length - i) (0) (.slice none 0 0) (M) (s3 rfl rfl rfl) ?_ ?_
 ·exact ⟨Nat.zero_le _, own_nil, hp, Lw, hsub, hE, hB⟩
 rintro i v M1 w4 ⟨hi, ho, hp, Lw, hsub, hE, hB⟩
 have hvl := varsTo_len [] ((partsL (canonF t)).take i)
 rw [List.length_nil, List.length_take] at hvl
 refine cS (q0 (lP 2 tK rfl ?_))
 refine lC (o_len tK hp rfl rfl rfl rfl rfl ?_)
 refine lP 1 tK rfl (q1 ?_)
 refine cP _ rfl (fun c1 => ?_) (fun c1 => ?_)
 ·refine cK (xS (cS (cB (q0 (lP 2 tK rfl ?_)))))
  have hik : i < (partsL (canonF t)).length := by omega
  refine lC (o_ixS tK hp (gE hik) rfl rfl rfl rfl rfl rfl rfl rfl rfl ?_)
  intro ebx0 eox0 eux0 hyx0 hatx0
  obtain ⟨kvx0, rfl, opx0, nmx0, n64x0, hkx0⟩ := tO hyx0
  replace hatx0 : At M1 w4 ebx0 eox0 [.int .u8 (partsL (canonF t))[i].op, .string (partsL (canonF t))[i].name, .int .i64 (partsL (canonF t))[i].n, kvx0] := hatx0
  refine lP 1 tK rfl ?_
  refine lC (oD tK (hatx0.cell 0 _ rfl) rfl rfl rfl rfl rfl ?_)
  refine lP 2 tK rfl ?_
  refine lS 21 _ rfl (fun c2 => ?_) (fun c2 => ?_)
  ·refine lP 11 tK rfl ?_
   refine lC (o_ixS tK hp (gE hik) rfl rfl rfl rfl rfl rfl rfl rfl rfl ?_)
   intro ebx1 eox1 eux1 hyx1 hatx1
   obtain ⟨kvx1, rfl, opx1, nmx1, n64x1, hkx1⟩ := tO hyx1
   replace hatx1 : At M1 w4 ebx1 eox1 [.int .u8 (partsL (canonF t))[i].op, .string (partsL (canonF t))[i].name, .int .i64 (partsL (canonF t))[i].n, kvx1] := hatx1
   refine lP 1 tK rfl ?_
   refine lC (oD tK (hatx1.cell 2 _ rfl) rfl rfl rfl rfl rfl ?_)
   have hos : Sl NoM w4 v (varsTo [] ((partsL (canonF t)).take i)) := ho.sl (by omega) (fun _ h => h.elim) (fun _ h => h.elim)
   refine lC (oK fo83 rfl rfl rfl (in_spec NoM _ _ _ _ hos) ?_)
   rintro _ _ ⟨rfl, rfl⟩
   refine lP 2 tK rfl (q1 ?_)
   refine c_ifN _ rfl (fun c3 => ?_) (fun c3 => ?_)
   ·refine cG (lP 3 tK rfl ?_)
    refine lC (o_ixS tK hp (gE hik) rfl rfl rfl rfl rfl rfl rfl rfl rfl ?_)
    intro ebx2 eox2 eux2 hyx2 hatx2
    obtain ⟨kvx2, rfl, opx2, nmx2, n64x2, hkx2⟩ := tO hyx2
    replace hatx2 : At M1 w4 ebx2 eox2 [.int .u8 (partsL (canonF t))[i].op, .string (partsL (canonF t))[i].name, .int .i64 (partsL (canonF t))[i].n, kvx2] := hatx2
    refine lP 1 tK rfl ?_
    refine lC (oD tK (hatx2.cell 2 _ rfl) rfl rfl rfl rfl rfl ?_)
    refine lC (o_bs tK rfl rfl rfl rfl rfl rfl rfl (sz1 rfl) rfl rfl rfl ?_)
    intro bw5 w5 qbw5 ew5 hbw5
    have nbw5 := nO Lw qbw5
    replace ho := ho.Y Lw hB ew5
    replace hE := ew5.bl hE hB
    replace hp := hp.Y ew5
    replace hyx0 := Rep.Y hyx0 ew5
    replace hkx0 := hkx0.Y ew5
    replace hatx0 := hatx0.Y ew5
    replace hyx1 := Rep.Y hyx1 ew5
    replace hkx1 := hkx1.Y ew5
    replace hatx1 := hatx1.Y ew5
    replace hyx2 := Rep.Y hyx2 ew5
    replace hkx2 := hkx2.Y ew5
    replace hatx2 := hatx2.Y ew5
    replace Lw := Lw.Y ew5
    replace hB := ew5.z hB
    refine lC (o_app1 tK ho hbw5 nbw5 ⟨rfl, n64x2⟩ Lw hB rfl rfl rfl rfl rfl rfl rfl (by omega) (by show (_ + _) * 8 ≤ _; omega) rfl rfl ?_)
    intro vw6 w6 Mw6 hw6 sw6 frw6 blw6
    replace hE := hE.trans sw6.below
    replace hp := hp.sp sw6
    replace hyx0 := Rep.sp hyx0 sw6
    replace hkx0 := hkx0.sp sw6
    replace hatx0 := hatx0.sp sw6
    replace hyx1 := Rep.sp hyx1 sw6
    replace hkx1 := hkx1.sp sw6
    replace hatx1 := hatx1.sp sw6
    replace hyx2 := Rep.sp hyx2 sw6
    replace hkx2 := hkx2.sp sw6
    replace hatx2 := hatx2.sp sw6
    replace hsub := sw6.sb hsub
    replace Lw := sw6.low
    replace hB := sw6.z hB
    replace ho := hw6
    clear hw6
    refine lP 1 tK rfl (q2 (xS (cG (lP 1 tK rfl ?_))))
    refine lC (o_ai rfl rfl rfl (by omega) rfl rfl ?_)
    refine lP 1 tK rfl (lN ?_)
    have htk : (partsL (canonF t)).take (i + 1) = (partsL (canonF t)).take i ++ [(partsL (canonF t))[i]] := List.take_succ_eq_append_getElem hik
    have hnb : numB (partsL (canonF t))[i].op = true := by unfold numB; simp [*]
    have hni : (partsL (canonF t))[i].n ∉ varsTo [] ((partsL (canonF t)).take i) := by assumption
    exact x_round3 (i + 1) (vw6) (Mw6) (s3 rfl rfl (gN rfl (by omega))) ⟨by omega, by rw [htk, varsTo_yes hnb hni]; exact ho, hp, Lw, hsub, hE, hB⟩ (by omega)
   refine cK (x_blk (xS (cG (lP 1 tK rfl ?_))))
   refine lC (o_ai rfl rfl rfl (by omega) rfl rfl ?_)
   refine lP 1 tK rfl (lN ?_)
   have htk : (partsL (canonF t)).take (i + 1) = (partsL (canonF t)).take i ++ [(partsL (canonF t))[i]] := List.take_succ_eq_append_getElem hik
   have hst : varsTo [] ((partsL (canonF t)).take (i + 1)) = varsTo [] ((partsL (canonF t)).take i) := by
    rw [htk]
    cases hnb : numB (partsL (canonF t))[i].op with
    | false => exact varsTo_no hnb
    | true =>
     refine varsTo_old ?_
     unfold numB at hnb
     simp_all
   exact x_round3 (i + 1) (v) (M1) (s3 rfl rfl (gN rfl (by omega))) ⟨by omega, by rw [hst]; exact ho, hp, Lw, hsub, hE, hB⟩ (by omega)
  refine lP 2 tK rfl ?_
  refine lC (o_ixS tK hp (gE hik) rfl rfl rfl rfl rfl rfl rfl rfl rfl ?_)
  intro ebx1 eox1 eux1 hyx1 hatx1
  obtain ⟨kvx1, rfl, opx1, nmx1, n64x1, hkx1⟩ := tO hyx1
  replace hatx1 : At M1 w4 ebx1 eox1 [.int .u8 (partsL (canonF t))[i].op, .string (partsL (canonF t))[i].name, .int .i64 (partsL (canonF t))[i].n, kvx1] := hatx1
  refine lP 1 tK rfl ?_
  refine lC (oD tK (hatx1.cell 0 _ rfl) rfl rfl rfl rfl rfl ?_)
  refine lP 3 tK rfl ?_
  refine lS 29 _ rfl (fun c4 => ?_) (fun c4 => ?_)
  ·refine lP 3 tK rfl ?_
   refine lC (o_ixS tK hp (gE hik) rfl rfl rfl rfl rfl rfl rfl rfl rfl ?_)
   intro ebx2 eox2 eux2 hyx2 hatx2
   obtain ⟨kvx2, rfl, opx2, nmx2, n64x2, hkx2⟩ := tO hyx2
   replace hatx2 : At M1 w4 ebx2 eox2 [.int .u8 (partsL (canonF t))[i].op, .string (partsL (canonF t))[i].name, .int .i64 (partsL (canonF t))[i].n, kvx2] := hatx2
   refine lP 1 tK rfl ?_
   refine lC (oD tK (hatx2.cell 2 _ rfl) rfl rfl rfl rfl rfl ?_)
   have hos : Sl NoM w4 v (varsTo [] ((partsL (canonF t)).take i)) := ho.sl (by omega) (fun _ h => h.elim) (fun _ h => h.elim)
   refine lC (oK fo83 rfl rfl rfl (in_spec NoM _ _ _ _ hos) ?_)
   rintro _ _ ⟨rfl, rfl⟩
   refine lP 2 tK rfl (q1 ?_)
   refine c_ifN _ rfl (fun c5 => ?_) (fun c5 => ?_)
   ·refine cG (lP 3 tK rfl ?_)
    refine lC (o_ixS tK hp (gE hik) rfl rfl rfl rfl rfl rfl rfl rfl rfl ?_)
    intro ebx3 eox3 eux3 hyx3 hatx3
    obtain ⟨kvx3, rfl, opx3, nmx3, n64x3, hkx3⟩ := tO hyx3
    replace hatx3 : At M1 w4 ebx3 eox3 [.int .u8 (partsL (canonF t))[i].op, .string (partsL (canonF t))[i].name, .int .i64 (partsL (canonF t))[i].n, kvx3] := hatx3
    refine lP 1 tK rfl ?_
    refine lC (oD tK (hatx3.cell 2 _ rfl) rfl rfl rfl rfl rfl ?_)
    refine lC (o_bs tK rfl rfl rfl rfl rfl rfl rfl (sz1 rfl) rfl rfl rfl ?_)
    intro bw7 w7 qbw7 ew7 hbw7
    have nbw7 := nO Lw qbw7
    replace ho := ho.Y Lw hB ew7
    replace hE := ew7.bl hE hB
    replace hp := hp.Y ew7
    replace hyx0 := Rep.Y hyx0 ew7
    replace hkx0 := hkx0.Y ew7
    replace hatx0 := hatx0.Y ew7
    replace hyx1 := Rep.Y hyx1 ew7
    replace hkx1 := hkx1.Y ew7
    replace hatx1 := hatx1.Y ew7
    replace hyx2 := Rep.Y hyx2 ew7
    replace hkx2 := hkx2.Y ew7
    replace hatx2 := hatx2.Y ew7
    replace hyx3 := Rep.Y hyx3 ew7
    replace hkx3 := hkx3.Y ew7
    replace hatx3 := hatx3.Y ew7
    replace Lw := Lw.Y ew7
    replace hB := ew7.z hB
    refine lC (o_app1 tK ho hbw7 nbw7 ⟨rfl, n64x3⟩ Lw hB rfl rfl rfl rfl rfl rfl rfl (by omega) (by show (_ + _) * 8 ≤ _; omega) rfl rfl ?_)
    intro vw8 w8 Mw8 hw8 sw8 frw8 blw8
    replace hE := hE.trans sw8.below
    replace hp := hp.sp sw8
    replace hyx0 := Rep.sp hyx0 sw8
    replace hkx0 := hkx0.sp sw8
    replace hatx0 := hatx0.sp sw8
    replace hyx1 := Rep.sp hyx1 sw8
    replace hkx1 := hkx1.sp sw8
    replace hatx1 := hatx1.sp sw8
    replace hyx2 := Rep.sp hyx2 sw8
    replace hkx2 := hkx2.sp sw8
    replace hatx2 := hatx2.sp sw8
    replace hyx3 := Rep.sp hyx3 sw8
    replace hkx3 := hkx3.sp sw8
    replace hatx3 := hatx3.sp sw8
    replace hsub := sw8.sb hsub
    replace Lw := sw8.low
    replace hB := sw8.z hB
    replace ho := hw8
    clear hw8
    refine lP 1 tK rfl (q2 (xS (cG (lP 1 tK rfl ?_))))
    refine lC (o_ai rfl rfl rfl (by omega) rfl rfl ?_)
    refine lP 1 tK rfl (lN ?_)
    have htk : (partsL (canonF t)).take (i + 1) = (partsL (canonF t)).take i ++ [(partsL (canonF t))[i]] := List.take_succ_eq_append_getElem hik
    have hnb : numB (partsL (canonF t))[i].op = true := by unfold numB; simp [*]
    have hni : (partsL (canonF t))[i].n ∉ varsTo [] ((partsL (canonF t)).take i) := by assumption
    exact x_round3 (i + 1) (vw8) (Mw8) (s3 rfl rfl (gN rfl (by omega))) ⟨by omega, by rw [htk, varsTo_yes hnb hni]; exact ho, hp, Lw, hsub, hE, hB⟩ (by omega)
   refine cK (x_blk (xS (cG (lP 1 tK rfl ?_))))
   refine lC (o_ai rfl rfl rfl (by omega) rfl rfl ?_)
   refine lP 1 tK rfl (lN ?_)
   have htk : (partsL (canonF t)).take (i + 1) = (partsL (canonF t)).take i ++ [(partsL (canonF t))[i]] := List.take_succ_eq_append_getElem hik
   have hst : varsTo [] ((partsL (canonF t)).take (i + 1)) = varsTo [] ((partsL (canonF t)).take i) := by
    rw [htk]
    cases hnb : numB (partsL (canonF t))[i].op with
    | false => exact varsTo_no hnb
    | true =>
     refine varsTo_old ?_
     unfold numB at hnb
     simp_all
   exact x_round3 (i + 1) (v) (M1) (s3 rfl rfl (gN rfl (by omega))) ⟨by omega, by rw [hst]; exact ho, hp, Lw, hsub, hE, hB⟩ (by omega)
  refine lP 9 tK rfl (q1 (c_ifF rfl (cK (x_blk (xS (cG (lP 1 tK rfl ?_)))))))
  refine lC (o_ai rfl rfl rfl (by omega) rfl rfl ?_)
  refine lP 1 tK rfl (lN ?_)
  have htk : (partsL (canonF t)).take (i + 1) = (partsL (canonF t)).take i ++ [(partsL (canonF t))[i]] := List.take_succ_eq_append_getElem hik
  have hst : varsTo [] ((partsL (canonF t)).take (i + 1)) = varsTo [] ((partsL (canonF t)).take i) := by
   rw [htk]
   cases hnb : numB (partsL (canonF t))[i].op with
   | false => exact varsTo_no hnb
   | true =>
    refine varsTo_old ?_
    unfold numB at hnb
    simp_all
  exact x_round3 (i + 1) (v) (M1) (s3 rfl rfl (gN rfl (by omega))) ⟨by omega, by rw [hst]; exact ho, hp, Lw, hsub, hE, hB⟩ (by omega)
 refine c_exit (xE (xE (x_blkE (xS (q0 (lP 2 tK rfl (q1 (cR (x1_ rfl rfl ?_)))))))))
 obtain rfl : i = (partsL (canonF t)).length := by omega
 rw [List.take_of_length_le (lR _)] at ho hvl
 exact ⟨ho.sl (by omega) hlow0 hsub, hE⟩
end Go.Proofs.Ytpoahmeacjggfaa
namespace Rw
/-! ## Letters -/
theorem hasB_yes {s : ByteArray} {c : UInt8} {j : Nat} (h : s.data[j]? = some c) : hasB s c = true := by
  unfold hasB
  rw [List.any_eq_true]
  exact ⟨c, by rw [Array.mem_toList_iff]; exact Array.mem_of_getElem? h, by simp⟩
theorem hasB_no {s : ByteArray} {c : UInt8} (h : ∀ j, j < s.size → s.data[j]? ≠ some c) : hasB s c = false := by
  unfold hasB
  rw [List.any_eq_false]
  intro x hx
  simp only [decide_eq_true_eq]
  rintro rfl
  rw [Array.mem_toList_iff] at hx
  obtain ⟨j, hj, e⟩ := Array.getElem_of_mem hx
  exact h j hj (by rw [Array.getElem?_eq_getElem hj, e])
def countTo (s : ByteArray) (i : Nat) : Nat := ((s.data.toList.take i).filter fun x => decide (x = 101)).length
theorem countTo_all {s : ByteArray} {i : Nat} (h : s.size ≤ i) : countTo s i = countE s := by
  unfold countTo countE
  rw [List.take_of_length_le (by simpa using h)]
theorem countTo_step {s : ByteArray} {i : Nat} {c : UInt8} (h : s.data[i]? = some c) : countTo s (i + 1) = countTo s i + if c = 101 then 1 else 0 := by
  have hi : i < s.data.toList.length := by simpa using (Array.getElem?_eq_some_iff.1 h).1
  have e : s.data.toList[i] = c := by
    have := (Array.getElem?_eq_some_iff.1 h).2
    simpa using this
  unfold countTo
  rw [List.take_succ_eq_append_getElem hi, List.filter_append, List.length_append, e]
  by_cases hc : c = 101
  · subst hc; simp
  · simp [hc]
theorem countTo_le (s : ByteArray) (i : Nat) : countTo s i ≤ i := by
  unfold countTo
  have h1 := List.length_filter_le (fun x => decide (x = 101)) (s.data.toList.take i)
  rw [List.length_take] at h1
  omega
/-! ## Right, twice -/
theorem shp_parts {op : Int} (h : ¬ (op < 32 ∨ 52 ≤ op)) : (shp op).2.2.2.2 = true ∧ partsS op ≠ ⟨#[]⟩ ∧ (op ≠ 48 → (shp op).2.2.1 = (countE (partsS op) : Int) ∧ partsS op ≠ ⟨#[99]⟩) := by
  rcases op_cases h with e | e | e | e | e | e | e | e | e | e | e | e | e | e | e | e | e | e | e | e <;> subst e <;> exact ⟨by decide, by decide, by decide⟩
theorem shp_no {op : Int} (h : op < 32 ∨ 52 ≤ op) : (shp op).2.2.2.2 = false := by
  unfold shp
  repeat rw [if_neg (by omega)]
theorem arms_of {k : Tm} (h : rightT k true = true) : k.op = 49 ∨ k.op = 50 := by
  rw [rightT_eq, headT] at h
  simp only [Bool.and_eq_true, beq_iff_eq] at h
  have h1 := h.1.2.1
  unfold armsB at h1
  simpa using h1.symm
theorem kids_arms : ∀ (l : List Tm) (i : Nat), kidsT 48 (i + 1) (kidL l) = armsL (kidL l)
  | [], _ => rfl
  | k :: l, i => by
    show kidsT 48 (i + 1) ((k.op, rightT k) :: kidL l) = armsL ((k.op, rightT k) :: kidL l)
    have hi : innerB 48 (i + 1) = true := by unfold innerB; simp
    rw [kidsT, armsL, hi, kids_arms l (i + 1)]
    cases hg : rightT k true with
    | false => simp
    | true =>
      rcases arms_of hg with e | e
      · rw [e, show armB 49 (kidL l).isEmpty = true from rfl]; simp
      · rw [e, show armB 50 (kidL l).isEmpty = (kidL l).isEmpty by unfold armB; simp]; simp
theorem kids_all {op : Int} (h : op ≠ 48) : ∀ (l : List Tm) (i : Nat), kidsT op i (kidL l) = allL (kidL l)
  | [], _ => rfl
  | k :: l, i => by
    show kidsT op i ((k.op, rightT k) :: kidL l) = allL ((k.op, rightT k) :: kidL l)
    have hi : innerB op i = false := by unfold innerB; simp [h]
    rw [kidsT, hi, kids_all h l (i + 1)]
    simp [allL]
theorem ref_right (t : Tm) : ∀ arm, refT t arm = rightT t arm := by
  refine Tm.ind (p := fun t => ∀ arm, refT t arm = rightT t arm) (fun t ih => ?_) t
  intro arm
  have hk : refL t.kids = kidL t.kids := by
    unfold refL kidL
    apply List.map_congr_left
    intro k hk
    rw [show refT k = rightT k from funext (ih k hk)]
  rw [refT_eq, rightT_eq, hk, headT]
  by_cases ho : t.op < 32 ∨ 52 ≤ t.op
  · rw [shp_no ho, show partsS t.op = ⟨#[]⟩ by unfold partsS; rw [if_pos ho]]; simp
  · obtain ⟨h1, h2, h3⟩ := shp_parts ho
    rw [h1, dF h2, parts_node ho, nodeB]
    have hkids : (bif decide (partsS t.op = ⟨#[99]⟩) then caseL (kidL t.kids) else decide (t.kids.length = countE (partsS t.op)) && allL (kidL t.kids)) =
        ((bif decide (0 ≤ (shp t.op).2.2.1) then decide ((t.kids.length : Int) = (shp t.op).2.2.1) else !decide (t.kids = [])) && kidsT t.op 0 (kidL t.kids)) := by
      by_cases h48 : t.op = 48
      · rw [h48, show decide (partsS 48 = ⟨#[99]⟩) = true by decide, show decide (0 ≤ (shp 48).2.2.1) = false by decide]
        simp only [cond_true, cond_false]
        cases hl : t.kids with
        | nil => rfl
        | cons k l =>
          show caseL ((k.op, rightT k) :: kidL l) = (_ && kidsT 48 0 ((k.op, rightT k) :: kidL l))
          rw [caseL, kidsT, show innerB 48 0 = false from rfl, kids_arms l 0]
          simp
      · obtain ⟨h4, h5⟩ := h3 h48
        rw [dF h5, h4, dT (show (0 : Int) ≤ (countE (partsS t.op) : Int) by omega), kids_all h48]
        simp only [cond_true, cond_false]
        congr 1
        rw [decide_eq_decide]
        omega
    rw [hkids]
    simp only [Bool.not_false, Bool.true_and, Bool.and_assoc]
theorem allL_step {l : List Tm} {i : Nat} (hi : i < l.length) : allL (refL (l.drop i)) = (refT l[i] false && allL (refL (l.drop (i + 1)))) := by
  rw [List.drop_eq_getElem_cons hi]; rfl
theorem allL_end {l : List Tm} {i : Nat} (hi : l.length ≤ i) : allL (refL (l.drop i)) = true := by rw [List.drop_eq_nil_of_le hi]; rfl
theorem armsL_step {l : List Tm} {i : Nat} (hi : i < l.length) : armsL (refL (l.drop i)) = (refT l[i] true && (!(decide (l[i].op = 50) && decide (i + 1 < l.length)) && armsL (refL (l.drop (i + 1))))) := by
  rw [List.drop_eq_getElem_cons hi]
  show armsL ((l[i].op, refT l[i]) :: refL (l.drop (i + 1))) = _
  rw [armsL]
  have e : (!(refL (l.drop (i + 1))).isEmpty) = decide (i + 1 < l.length) := by
    rw [Bool.eq_iff_iff, Bool.not_eq_true', decide_eq_true_eq, ← Bool.not_eq_true, List.isEmpty_iff]
    unfold refL
    rw [List.map_eq_nil_iff, List.drop_eq_nil_iff]
    omega
  rw [e]
theorem armsL_end {l : List Tm} {i : Nat} (hi : l.length ≤ i) : armsL (refL (l.drop i)) = true := by rw [List.drop_eq_nil_of_le hi]; rfl
theorem caseL_step {l : List Tm} (hi : 0 < l.length) : caseL (refL l) = (refT l[0] false && armsL (refL (l.drop 1))) := by
  cases l with
  | nil => cases hi
  | cons k l => rfl
end Rw
namespace Go.Proofs.Ytpoahmeacjggfaa
open Go Rw Go.RowKit
set_option maxRecDepth 100000
theorem hasR_spec (s : ByteArray) (hs : s.size < 140737488355328) (c : UInt8) (w : World) :
  Calls Try.prog 115 #[.string s, .int .u8 c.toNat] w (Ret fun r w' => r = .bool (hasB s c) ∧ w = w') := by
 refine cN (n := 17) Try.func115 rfl rfl rfl ?_
 refine q0 (lP 1 tK rfl (q1 (cS (q0 (lP 1 tK rfl (q1 (cB ?_)))))))
 refine c_loop (X := Nat) (fun i => [(0, .string s), (1, .int .u8 c.toNat), (5, .int .i64 (i : Nat))]) (fun i w' => w = w' ∧ i ≤ s.size ∧ ∀ j, j < i → s.data[j]? ≠ some c) (fun i => s.size - i) (0) (s3 rfl rfl rfl) ?_ ?_
 ·exact ⟨rfl, Nat.zero_le _, fun j hj => absurd hj (Nat.not_lt_zero _)⟩
 rintro i _ ⟨rfl, hi, hall⟩
 refine cS (q0 (lP 4 tK rfl (q1 ?_)))
 refine cP _ rfl (fun c1 => ?_) (fun c1 => ?_)
 ·refine cK (xS (cS (cB (q0 (lP 2 tK rfl ?_)))))
  have his : i < s.size := by omega
  have hd : s.data[i]? = some s.data[i] := Array.getElem?_eq_getElem his
  generalize hcc : s.data[i] = ch at hd
  refine lC (o_si tK rfl rfl rfl rfl rfl hd rfl rfl ?_)
  refine lP 2 tK rfl (q1 ?_)
  refine cP _ rfl (fun c2 => ?_) (fun c2 => ?_)
  ·refine q0 (lP 1 tK rfl (q1 (cR (xB (xR (xR (xB (xR (x1_ rfl rfl ?_)))))))))
   exact ⟨by rw [hasB_yes (c := c) (by rw [hd]; congr 1; exact UInt8.toNat_inj.1 (by omega))], rfl⟩
  refine cK (x_blk (xS (cG (lP 1 tK rfl ?_))))
  refine lC (o_ai rfl rfl rfl (by omega) rfl rfl ?_)
  refine lP 1 tK rfl (lN ?_)
  exact x_round (i + 1) (s3 rfl rfl rfl) ⟨rfl, by omega, fun j hj e => by
   by_cases he : j = i
   ·subst he; rw [hd] at e; cases e; omega
   ·exact hall j (by omega) e⟩ (by omega)
 refine c_exit (xE (xE (x_blkE (xS (q0 (lP 1 tK rfl (q1 (cR (x1_ rfl rfl ?_)))))))))
 exact ⟨by rw [hasB_no (fun j hj => hall j (by omega))], rfl⟩
theorem partsS_spec (op : Int) (hop : 0 ≤ op ∧ op ≤ 255) (M : Nat → Prop) (w : World) (Lw : Low M w) :
  Calls Try.prog 90 #[.int .u8 op] w (Ret fun r w' => r = .string (partsS op) ∧ Ext w w') := by
 have hE := Below.refl w.heap.size w
 have hB := lR w.heap.size
 have hpl : partsT.length = 20 := rfl
 refine cN (n := 20) Try.func90 rfl rfl rfl ?_
 refine q0 (lP 1 tK rfl (q1 (q0 ?_)))
 refine lC (o_bs tK rfl rfl rfl rfl rfl rfl rfl (by intro v hv; simp at hv; rcases hv with rfl | rfl | rfl | rfl | rfl | rfl | rfl | rfl | rfl | rfl | rfl | rfl | rfl | rfl | rfl | rfl | rfl | rfl | rfl | rfl <;> rfl) rfl rfl rfl ?_)
 intro bw1 w1 qbw1 ew1 hbw1
 have nbw1 := nO Lw qbw1
 replace hE := ew1.bl hE hB
 replace Lw := Lw.Y ew1
 replace hB := ew1.z hB
 have hl : Sl M w1 (.slice (some ⟨bw1, 0, none⟩) 20 20) partsT := lit_sl hbw1 nbw1 (show Rs _ _ [_, _, _, _, _, _, _, _, _, _, _, _, _, _, _, _, _, _, _, _] partsT from ⟨⟨rfl, by decide⟩, ⟨rfl, by decide⟩, ⟨rfl, by decide⟩, ⟨rfl, by decide⟩, ⟨rfl, by decide⟩, ⟨rfl, by decide⟩, ⟨rfl, by decide⟩, ⟨rfl, by decide⟩, ⟨rfl, by decide⟩, ⟨rfl, by decide⟩, ⟨rfl, by decide⟩, ⟨rfl, by decide⟩, ⟨rfl, by decide⟩, ⟨rfl, by decide⟩, ⟨rfl, by decide⟩, ⟨rfl, by decide⟩, ⟨rfl, by decide⟩, ⟨rfl, by decide⟩, ⟨rfl, by decide⟩, ⟨rfl, by decide⟩, trivial⟩) (by decide)
 refine lP 1 tK rfl (q1 (cS (q0 (lP 3 tK rfl ?_))))
 refine lS 7 _ rfl (fun c1 => ?_) (fun c1 => ?_)
 ·refine lP 7 tK rfl (q1 (cI rfl (q0 (lP 1 tK rfl (q1 (cR (xR (x1_ rfl rfl ?_))))))))
  exact ⟨by unfold partsS; rw [if_pos (by omega)], hE⟩
 refine lP 1 tK rfl ?_
 refine lC (o_conv (y := op) tK rfl rfl rfl rfl rfl (IntWalk.i64_in _ (by omega)) rfl rfl ?_)
 refine lP 1 tK rfl ?_
 refine lC (o_len tK hl rfl rfl rfl rfl rfl ?_)
 refine lC (o_ai rfl rfl rfl (by omega) rfl rfl ?_)
 refine lP 2 tK rfl (q1 ?_)
 refine cP _ rfl (fun c2 => ?_) (fun c2 => ?_)
 ·refine q0 (lP 1 tK rfl (q1 (cR (xR (x1_ rfl rfl ?_)))))
  exact ⟨by unfold partsS; rw [if_pos (by omega)], hE⟩
 refine cK (xS (q0 (lP 2 tK rfl ?_)))
 refine lC (o_ar rfl rfl rfl (z := op - 32) (by rw [IntKind.wrap_u8]; omega) rfl rfl ?_)
 have hlen : (op - 32).toNat < partsT.length := by show _ < 20; omega
 refine lC (o_ixS tK hl (gE hlen) rfl rfl (by omega) rfl rfl rfl rfl rfl rfl ?_)
 intro b o u hr hat
 obtain ⟨rfl, _⟩ := hr
 refine lC (oD tK (hat.cell 0 _ rfl) rfl rfl rfl rfl rfl ?_)
 refine lP 1 tK rfl (q1 (cR (x1_ rfl rfl ?_)))
 exact ⟨by unfold partsS; rw [if_neg (by omega), gE hlen, Option.getD_some], hE⟩
theorem zero_spec (t : Ty) (M : Nat → Prop) (w : World) (v : Value) (ht : Rep.R M w v t) (Lw : Low M w) :
  Calls Try.prog 116 #[v] w (Ret fun r w' => r = .bool (blankB t) ∧ Ext w w') := by
 have hE := Below.refl w.heap.size w
 have hB := lR w.heap.size
 obtain ⟨kv, rfl, op, nm, n64, hk⟩ := tO ht
 refine cN (n := 22) Try.func116 rfl rfl rfl ?_
 refine q0 ?_
 refine lC (o_box rfl rfl rfl ?_)
 intro b1 w1 hb_b1 ew1 h1
 replace h1 : Box _ b1 25 [.int .u8 t.op, .string t.name, .int .i64 t.n, kv] := h1
 replace h1 := h1.at (nO Lw hb_b1)
 replace hE := ew1.bl hE hB
 replace ht := Rep.Y ht ew1
 replace hk := hk.Y ew1
 replace Lw := Lw.Y ew1
 replace hB := ew1.z hB
 refine lP 1 tK rfl (q1 (q0 (lP 1 tK rfl ?_)))
 refine lC (oD tK (h1.cell 0 _ rfl) rfl rfl rfl rfl rfl ?_)
 refine lP 2 tK rfl ?_
 refine lS 6 _ rfl (fun c1 => ?_) (fun c1 => ?_)
 ·refine lP 1 tK rfl ?_
  refine lC (oD tK (h1.cell 1 _ rfl) rfl rfl rfl rfl rfl ?_)
  refine lP 3 tK rfl ?_
  refine lS 11 _ rfl (fun c2 => ?_) (fun c2 => ?_)
  ·refine lP 1 tK rfl ?_
   refine lC (oD tK (h1.cell 2 _ rfl) rfl rfl rfl rfl rfl ?_)
   refine lP 3 tK rfl ?_
   refine lS 16 _ rfl (fun c3 => ?_) (fun c3 => ?_)
   ·refine lP 1 tK rfl ?_
    refine lC (oD tK (h1.cell 3 _ rfl) rfl rfl rfl rfl rfl ?_)
    refine lC (o_len tK hk rfl rfl rfl rfl rfl ?_)
    refine lP 3 tK rfl (q1 (cR (x1_ rfl rfl ?_)))
    exact ⟨by congr 1; unfold blankB; simp_all, hE⟩
   refine lP 6 tK rfl (q1 (cR (x1_ rfl rfl ?_)))
   exact ⟨by congr 1; unfold blankB; simp_all, hE⟩
  refine lP 11 tK rfl (q1 (cR (x1_ rfl rfl ?_)))
  exact ⟨by congr 1; unfold blankB; simp_all, hE⟩
 refine lP 16 tK rfl (q1 (cR (x1_ rfl rfl ?_)))
 exact ⟨by congr 1; unfold blankB; simp_all, hE⟩
theorem partsR_spec (t : Tm) (p : ByteArray) (hp : p.size < 140737488355328) (M : Nat → Prop) (w : World) (v : Value) (ht : Rep.R M w v t) (Lw : Low M w) (hz : psz t.ann ≤ 2000000) :
  Calls Try.prog 91 #[v, .string p] w (Ret fun r w' => r = .bool (partsB t p) ∧ Ext w w') := by
 have hE := Below.refl w.heap.size w
 have hB := lR w.heap.size
 obtain ⟨akv, kv, rfl, op, nm, ag, n64, ha, hk⟩ := tm_open ht
 refine cN (n := 135) Try.func91 rfl rfl rfl ?_
 refine q0 ?_
 refine lC (o_box rfl rfl rfl ?_)
 intro b2 w1 hb_b2 ew1 h2
 replace h2 : Box _ b2 59 [.int .u8 t.op, .string t.name, .string t.arg, .int .i64 t.n, .bool t.has, .int .u8 t.ann.op, .string t.ann.name, .int .i64 t.ann.n, akv, kv] := h2
 replace h2 := h2.at (nO Lw hb_b2)
 replace hE := ew1.bl hE hB
 replace ht := Rep.Y ht ew1
 replace ha := Rep.Y ha ew1
 replace hk := hk.Y ew1
 replace Lw := Lw.Y ew1
 replace hB := ew1.z hB
 refine lP 1 tK rfl (q1 ?_)
 refine c_cut (X := Unit) (fun _u => [(1, .string p), (2, .pointer (some ⟨b2, 0, none⟩))]) (fun _u w' => (hasB p 111 == signB t.name) = true ∧ At M w' b2 0 [.int .u8 t.op, .string t.name, .string t.arg, .int .i64 t.n, .bool t.has, .int .u8 t.ann.op, .string t.ann.name, .int .i64 t.ann.n, akv, kv] ∧ Rep.R M w' (.agg #[.int .u8 t.ann.op, .string t.ann.name, .int .i64 t.ann.n, akv]) t.ann ∧ Low M w' ∧ Below w.heap.size w w' ∧ w.heap.size ≤ w'.heap.size) ?_ ?_
 ·refine cS ?_
  refine a_beg Ext rfl ?_
  intro w2 ew2
  replace hE := ew2.bl hE hB
  replace ht := Rep.Y ht ew2
  replace ha := Rep.Y ha ew2
  replace hk := hk.Y ew2
  replace h2 := h2.Y ew2
  replace Lw := Lw.Y ew2
  replace hB := ew2.z hB
  have hS : Ext w2 w2 := ext_refl _
  have D_hk := hk
  have D_h2 := h2
  refine a_p 0 tK rfl rfl rfl rfl (by kernel_rfl) i3 hS ?_
  refine a_p 2 tK rfl rfl rfl rfl (by kernel_rfl) i3 hS ?_
  refine a_ld 3 tK (fun _ hs => (D_h2.Y hs).cell 1 _ rfl) rfl rfl rfl rfl rfl rfl (by kernel_rfl) i3 hS ?_
  refine a_p 4 tK rfl rfl rfl rfl (by kernel_rfl) i3 hS ?_
  refine a_one 1 rfl (by kernel_rfl) (oK fo115 rfl rfl rfl (hasR_spec p hp 111 _) ?_)
  rintro _ _ ⟨rfl, rfl⟩
  refine ⟨hS, ?_⟩
  refine a_p 5 tK rfl rfl rfl rfl (by kernel_rfl) i3 hS ?_
  refine a_splitP 10 _ rfl (fun c1 => ?_) (fun c1 => ?_)
  ·refine aK 6 rfl rfl rfl (by kernel_rfl) i3 hS ?_
   refine aK 7 rfl rfl rfl (by kernel_rfl) i3 hS ?_
   refine aK 8 rfl rfl rfl (by kernel_rfl) i3 hS ?_
   refine a_p 9 tK rfl rfl rfl rfl (by kernel_rfl) i3 hS ?_
   refine a_p 10 tK rfl rfl rfl rfl (by kernel_rfl) i3 hS ?_
   refine aK 11 rfl rfl rfl (by kernel_rfl) i3 hS ?_
   refine aK 12 rfl rfl rfl (by kernel_rfl) i3 hS ?_
   refine aK 13 rfl rfl rfl (by kernel_rfl) i3 hS ?_
   refine a_p 14 tK rfl rfl rfl rfl (by kernel_rfl) i3 hS ?_
   refine a_p 15 tK rfl rfl rfl rfl (by kernel_rfl) i3 hS ?_
   refine aK 16 rfl rfl rfl (by kernel_rfl) i3 hS ?_
   refine aK 17 rfl rfl rfl (by kernel_rfl) i3 hS ?_
   refine aK 18 rfl rfl rfl (by kernel_rfl) i3 hS ?_
   refine a_p 19 tK rfl rfl rfl rfl (by kernel_rfl) i3 hS ?_
   refine a_p 20 tK rfl rfl rfl rfl (by kernel_rfl) i3 hS ?_
   refine aK 21 rfl rfl rfl (by kernel_rfl) i3 hS ?_
   refine aK 22 rfl rfl rfl (by kernel_rfl) i3 hS ?_
   refine aK 23 rfl rfl rfl (by kernel_rfl) i3 hS ?_
   refine a_p 24 tK rfl rfl rfl rfl (by kernel_rfl) i3 hS ?_
   refine a_p 25 tK rfl rfl rfl rfl (by kernel_rfl) i3 hS ?_
   refine aK 26 rfl rfl rfl (by kernel_rfl) i3 hS ?_
   refine aK 27 rfl rfl rfl (by kernel_rfl) i3 hS ?_
   refine aK 28 rfl rfl rfl (by kernel_rfl) i3 hS ?_
   refine a_p 29 tK rfl rfl rfl rfl (by kernel_rfl) i3 hS ?_
   refine a_p 30 tK rfl rfl rfl rfl (by kernel_rfl) i3 hS ?_
   refine aK 31 rfl rfl rfl (by kernel_rfl) i3 hS ?_
   refine aK 32 rfl rfl rfl (by kernel_rfl) i3 hS ?_
   refine aK 33 rfl rfl rfl (by kernel_rfl) i3 hS ?_
   refine a_p 34 tK rfl rfl rfl rfl (by kernel_rfl) i3 hS ?_
   refine a_bar 35 rfl (by kernel_rfl) (by kernel_rfl) (o_bne tK rfl rfl rfl rfl rfl rfl ?_)
   refine a_end (by kernel_rfl) ?_
   refine xS ?_
   refine c_if _ rfl (fun c2 => ?_) (fun c2 => ?_)
   ·refine q0 (lP 1 tK rfl (q1 (cR (xR (x1_ rfl rfl ?_)))))
    refine ⟨?_, hE⟩
    have hA : ((hasB p 111 == signB t.name)) = false := by
     simp_all [signB]
    unfold partsB
    rw [hA]
    simp
   refine cK ?_
   have hA : (hasB p 111 == signB t.name) = true := by
    simp_all [signB]
   exact x_cut (()) (s2 rfl rfl) ⟨hA, h2, ha, Lw, hE, hB⟩
  refine a_p 6 tK rfl rfl rfl rfl (by kernel_rfl) i3 hS ?_
  refine a_ld 7 tK (fun _ hs => (D_h2.Y hs).cell 1 _ rfl) rfl rfl rfl rfl rfl rfl (by kernel_rfl) i3 hS ?_
  refine a_p 8 tK rfl rfl rfl rfl (by kernel_rfl) i3 hS ?_
  refine a_p 9 tK rfl rfl rfl rfl (by kernel_rfl) i3 hS ?_
  refine a_p 10 tK rfl rfl rfl rfl (by kernel_rfl) i3 hS ?_
  refine a_splitP 15 _ rfl (fun c3 => ?_) (fun c3 => ?_)
  ·refine aK 11 rfl rfl rfl (by kernel_rfl) i3 hS ?_
   refine aK 12 rfl rfl rfl (by kernel_rfl) i3 hS ?_
   refine aK 13 rfl rfl rfl (by kernel_rfl) i3 hS ?_
   refine a_p 14 tK rfl rfl rfl rfl (by kernel_rfl) i3 hS ?_
   refine a_p 15 tK rfl rfl rfl rfl (by kernel_rfl) i3 hS ?_
   refine aK 16 rfl rfl rfl (by kernel_rfl) i3 hS ?_
   refine aK 17 rfl rfl rfl (by kernel_rfl) i3 hS ?_
   refine aK 18 rfl rfl rfl (by kernel_rfl) i3 hS ?_
   refine a_p 19 tK rfl rfl rfl rfl (by kernel_rfl) i3 hS ?_
   refine a_p 20 tK rfl rfl rfl rfl (by kernel_rfl) i3 hS ?_
   refine aK 21 rfl rfl rfl (by kernel_rfl) i3 hS ?_
   refine aK 22 rfl rfl rfl (by kernel_rfl) i3 hS ?_
   refine aK 23 rfl rfl rfl (by kernel_rfl) i3 hS ?_
   refine a_p 24 tK rfl rfl rfl rfl (by kernel_rfl) i3 hS ?_
   refine a_p 25 tK rfl rfl rfl rfl (by kernel_rfl) i3 hS ?_
   refine aK 26 rfl rfl rfl (by kernel_rfl) i3 hS ?_
   refine aK 27 rfl rfl rfl (by kernel_rfl) i3 hS ?_
   refine aK 28 rfl rfl rfl (by kernel_rfl) i3 hS ?_
   refine a_p 29 tK rfl rfl rfl rfl (by kernel_rfl) i3 hS ?_
   refine a_p 30 tK rfl rfl rfl rfl (by kernel_rfl) i3 hS ?_
   refine aK 31 rfl rfl rfl (by kernel_rfl) i3 hS ?_
   refine aK 32 rfl rfl rfl (by kernel_rfl) i3 hS ?_
   refine aK 33 rfl rfl rfl (by kernel_rfl) i3 hS ?_
   refine a_p 34 tK rfl rfl rfl rfl (by kernel_rfl) i3 hS ?_
   refine a_bar 35 rfl (by kernel_rfl) (by kernel_rfl) (o_bne tK rfl rfl rfl rfl rfl rfl ?_)
   refine a_end (by kernel_rfl) ?_
   refine xS ?_
   refine c_if _ rfl (fun c4 => ?_) (fun c4 => ?_)
   ·refine q0 (lP 1 tK rfl (q1 (cR (xR (x1_ rfl rfl ?_)))))
    refine ⟨?_, hE⟩
    have hA : ((hasB p 111 == signB t.name)) = false := by
     simp_all [signB]
    unfold partsB
    rw [hA]
    simp
   refine cK ?_
   have hA : (hasB p 111 == signB t.name) = true := by
    simp_all [signB]
   exact x_cut (()) (s2 rfl rfl) ⟨hA, h2, ha, Lw, hE, hB⟩
  refine a_p 11 tK rfl rfl rfl rfl (by kernel_rfl) i3 hS ?_
  refine a_ld 12 tK (fun _ hs => (D_h2.Y hs).cell 1 _ rfl) rfl rfl rfl rfl rfl rfl (by kernel_rfl) i3 hS ?_
  refine a_p 13 tK rfl rfl rfl rfl (by kernel_rfl) i3 hS ?_
  refine a_p 14 tK rfl rfl rfl rfl (by kernel_rfl) i3 hS ?_
  refine a_p 15 tK rfl rfl rfl rfl (by kernel_rfl) i3 hS ?_
  refine a_splitP 20 _ rfl (fun c5 => ?_) (fun c5 => ?_)
  ·refine aK 16 rfl rfl rfl (by kernel_rfl) i3 hS ?_
   refine aK 17 rfl rfl rfl (by kernel_rfl) i3 hS ?_
   refine aK 18 rfl rfl rfl (by kernel_rfl) i3 hS ?_
   refine a_p 19 tK rfl rfl rfl rfl (by kernel_rfl) i3 hS ?_
   refine a_p 20 tK rfl rfl rfl rfl (by kernel_rfl) i3 hS ?_
   refine aK 21 rfl rfl rfl (by kernel_rfl) i3 hS ?_
   refine aK 22 rfl rfl rfl (by kernel_rfl) i3 hS ?_
   refine aK 23 rfl rfl rfl (by kernel_rfl) i3 hS ?_
   refine a_p 24 tK rfl rfl rfl rfl (by kernel_rfl) i3 hS ?_
   refine a_p 25 tK rfl rfl rfl rfl (by kernel_rfl) i3 hS ?_
   refine aK 26 rfl rfl rfl (by kernel_rfl) i3 hS ?_
   refine aK 27 rfl rfl rfl (by kernel_rfl) i3 hS ?_
   refine aK 28 rfl rfl rfl (by kernel_rfl) i3 hS ?_
   refine a_p 29 tK rfl rfl rfl rfl (by kernel_rfl) i3 hS ?_
   refine a_p 30 tK rfl rfl rfl rfl (by kernel_rfl) i3 hS ?_
   refine aK 31 rfl rfl rfl (by kernel_rfl) i3 hS ?_
   refine aK 32 rfl rfl rfl (by kernel_rfl) i3 hS ?_
   refine aK 33 rfl rfl rfl (by kernel_rfl) i3 hS ?_
   refine a_p 34 tK rfl rfl rfl rfl (by kernel_rfl) i3 hS ?_
   refine a_bar 35 rfl (by kernel_rfl) (by kernel_rfl) (o_bne tK rfl rfl rfl rfl rfl rfl ?_)
   refine a_end (by kernel_rfl) ?_
   refine xS ?_
   refine c_if _ rfl (fun c6 => ?_) (fun c6 => ?_)
   ·refine q0 (lP 1 tK rfl (q1 (cR (xR (x1_ rfl rfl ?_)))))
    refine ⟨?_, hE⟩
    have hA : ((hasB p 111 == signB t.name)) = false := by
     simp_all [signB]
    unfold partsB
    rw [hA]
    simp
   refine cK ?_
   have hA : (hasB p 111 == signB t.name) = true := by
    simp_all [signB]
   exact x_cut (()) (s2 rfl rfl) ⟨hA, h2, ha, Lw, hE, hB⟩
  refine a_p 16 tK rfl rfl rfl rfl (by kernel_rfl) i3 hS ?_
  refine a_ld 17 tK (fun _ hs => (D_h2.Y hs).cell 1 _ rfl) rfl rfl rfl rfl rfl rfl (by kernel_rfl) i3 hS ?_
  refine a_p 18 tK rfl rfl rfl rfl (by kernel_rfl) i3 hS ?_
  refine a_p 19 tK rfl rfl rfl rfl (by kernel_rfl) i3 hS ?_
  refine a_p 20 tK rfl rfl rfl rfl (by kernel_rfl) i3 hS ?_
  refine a_splitP 25 _ rfl (fun c7 => ?_) (fun c7 => ?_)
  ·refine aK 21 rfl rfl rfl (by kernel_rfl) i3 hS ?_
   refine aK 22 rfl rfl rfl (by kernel_rfl) i3 hS ?_
   refine aK 23 rfl rfl rfl (by kernel_rfl) i3 hS ?_
   refine a_p 24 tK rfl rfl rfl rfl (by kernel_rfl) i3 hS ?_
   refine a_p 25 tK rfl rfl rfl rfl (by kernel_rfl) i3 hS ?_
   refine aK 26 rfl rfl rfl (by kernel_rfl) i3 hS ?_
   refine aK 27 rfl rfl rfl (by kernel_rfl) i3 hS ?_
   refine aK 28 rfl rfl rfl (by kernel_rfl) i3 hS ?_
   refine a_p 29 tK rfl rfl rfl rfl (by kernel_rfl) i3 hS ?_
   refine a_p 30 tK rfl rfl rfl rfl (by kernel_rfl) i3 hS ?_
   refine aK 31 rfl rfl rfl (by kernel_rfl) i3 hS ?_
   refine aK 32 rfl rfl rfl (by kernel_rfl) i3 hS ?_
   refine aK 33 rfl rfl rfl (by kernel_rfl) i3 hS ?_
   refine a_p 34 tK rfl rfl rfl rfl (by kernel_rfl) i3 hS ?_
   refine a_bar 35 rfl (by kernel_rfl) (by kernel_rfl) (o_bne tK rfl rfl rfl rfl rfl rfl ?_)
   refine a_end (by kernel_rfl) ?_
   refine xS ?_
   refine c_if _ rfl (fun c8 => ?_) (fun c8 => ?_)
   ·refine q0 (lP 1 tK rfl (q1 (cR (xR (x1_ rfl rfl ?_)))))
    refine ⟨?_, hE⟩
    have hA : ((hasB p 111 == signB t.name)) = false := by
     simp_all [signB]
    unfold partsB
    rw [hA]
    simp
   refine cK ?_
   have hA : (hasB p 111 == signB t.name) = true := by
    simp_all [signB]
   exact x_cut (()) (s2 rfl rfl) ⟨hA, h2, ha, Lw, hE, hB⟩
  refine a_p 21 tK rfl rfl rfl rfl (by kernel_rfl) i3 hS ?_
  refine a_ld 22 tK (fun _ hs => (D_h2.Y hs).cell 1 _ rfl) rfl rfl rfl rfl rfl rfl (by kernel_rfl) i3 hS ?_
  refine a_p 23 tK rfl rfl rfl rfl (by kernel_rfl) i3 hS ?_
  refine a_p 24 tK rfl rfl rfl rfl (by kernel_rfl) i3 hS ?_
  refine a_p 25 tK rfl rfl rfl rfl (by kernel_rfl) i3 hS ?_
  refine a_splitP 30 _ rfl (fun c9 => ?_) (fun c9 => ?_)
  ·refine aK 26 rfl rfl rfl (by kernel_rfl) i3 hS ?_
   refine aK 27 rfl rfl rfl (by kernel_rfl) i3 hS ?_
   refine aK 28 rfl rfl rfl (by kernel_rfl) i3 hS ?_
   refine a_p 29 tK rfl rfl rfl rfl (by kernel_rfl) i3 hS ?_
   refine a_p 30 tK rfl rfl rfl rfl (by kernel_rfl) i3 hS ?_
   refine aK 31 rfl rfl rfl (by kernel_rfl) i3 hS ?_
   refine aK 32 rfl rfl rfl (by kernel_rfl) i3 hS ?_
   refine aK 33 rfl rfl rfl (by kernel_rfl) i3 hS ?_
   refine a_p 34 tK rfl rfl rfl rfl (by kernel_rfl) i3 hS ?_
   refine a_bar 35 rfl (by kernel_rfl) (by kernel_rfl) (o_bne tK rfl rfl rfl rfl rfl rfl ?_)
   refine a_end (by kernel_rfl) ?_
   refine xS ?_
   refine c_if _ rfl (fun c10 => ?_) (fun c10 => ?_)
   ·refine q0 (lP 1 tK rfl (q1 (cR (xR (x1_ rfl rfl ?_)))))
    refine ⟨?_, hE⟩
    have hA : ((hasB p 111 == signB t.name)) = false := by
     simp_all [signB]
    unfold partsB
    rw [hA]
    simp
   refine cK ?_
   have hA : (hasB p 111 == signB t.name) = true := by
    simp_all [signB]
   exact x_cut (()) (s2 rfl rfl) ⟨hA, h2, ha, Lw, hE, hB⟩
  refine a_p 26 tK rfl rfl rfl rfl (by kernel_rfl) i3 hS ?_
  refine a_ld 27 tK (fun _ hs => (D_h2.Y hs).cell 1 _ rfl) rfl rfl rfl rfl rfl rfl (by kernel_rfl) i3 hS ?_
  refine a_p 28 tK rfl rfl rfl rfl (by kernel_rfl) i3 hS ?_
  refine a_p 29 tK rfl rfl rfl rfl (by kernel_rfl) i3 hS ?_
  refine a_p 30 tK rfl rfl rfl rfl (by kernel_rfl) i3 hS ?_
  refine a_splitP 35 _ rfl (fun c11 => ?_) (fun c11 => ?_)
  ·refine aK 31 rfl rfl rfl (by kernel_rfl) i3 hS ?_
   refine aK 32 rfl rfl rfl (by kernel_rfl) i3 hS ?_
   refine aK 33 rfl rfl rfl (by kernel_rfl) i3 hS ?_
   refine a_p 34 tK rfl rfl rfl rfl (by kernel_rfl) i3 hS ?_
   refine a_bar 35 rfl (by kernel_rfl) (by kernel_rfl) (o_bne tK rfl rfl rfl rfl rfl rfl ?_)
   refine a_end (by kernel_rfl) ?_
   refine xS ?_
   refine c_if _ rfl (fun c12 => ?_) (fun c12 => ?_)
   ·refine q0 (lP 1 tK rfl (q1 (cR (xR (x1_ rfl rfl ?_)))))
    refine ⟨?_, hE⟩
    have hA : ((hasB p 111 == signB t.name)) = false := by
     simp_all [signB]
    unfold partsB
    rw [hA]
    simp
   refine cK ?_
   have hA : (hasB p 111 == signB t.name) = true := by
    simp_all [signB]
   exact x_cut (()) (s2 rfl rfl) ⟨hA, h2, ha, Lw, hE, hB⟩
  refine a_p 31 tK rfl rfl rfl rfl (by kernel_rfl) i3 hS ?_
  refine a_ld 32 tK (fun _ hs => (D_h2.Y hs).cell 1 _ rfl) rfl rfl rfl rfl rfl rfl (by kernel_rfl) i3 hS ?_
  refine a_p 33 tK rfl rfl rfl rfl (by kernel_rfl) i3 hS ?_
  refine a_p 34 tK rfl rfl rfl rfl (by kernel_rfl) i3 hS ?_
  refine a_bar 35 rfl (by kernel_rfl) (by kernel_rfl) (o_bne tK rfl rfl rfl rfl rfl rfl ?_)
  refine a_end (by kernel_rfl) ?_
  refine xS ?_
  refine c_if _ rfl (fun c13 => ?_) (fun c13 => ?_)
  ·refine q0 (lP 1 tK rfl (q1 (cR (xR (x1_ rfl rfl ?_)))))
   refine ⟨?_, hE⟩
   have hA : ((hasB p 111 == signB t.name)) = false := by
    simp_all [signB]
   unfold partsB
   rw [hA]
   simp
  refine cK ?_
  have hA : (hasB p 111 == signB t.name) = true := by
   simp_all [signB]
  exact x_cut (()) (s2 rfl rfl) ⟨hA, h2, ha, Lw, hE, hB⟩
 clear h2 ha Lw hE hB ht hk
 rintro _ w81 ⟨hA1, h2, ha, Lw, hE, hB⟩
 refine c_cut (X := Unit) (fun _u => [(1, .string p), (2, .pointer (some ⟨b2, 0, none⟩))]) (fun _u w' => (hasB p 111 || ((hasB p 110 == isWordB t.name) && (hasB p 110 || decide (t.name = ⟨#[]⟩)))) = true ∧ At M w' b2 0 [.int .u8 t.op, .string t.name, .string t.arg, .int .i64 t.n, .bool t.has, .int .u8 t.ann.op, .string t.ann.name, .int .i64 t.ann.n, akv, kv] ∧ Rep.R M w' (.agg #[.int .u8 t.ann.op, .string t.ann.name, .int .i64 t.ann.n, akv]) t.ann ∧ Low M w' ∧ Below w.heap.size w w' ∧ w.heap.size ≤ w'.heap.size) ?_ ?_
 ·refine cS ?_
  refine a_beg Ext rfl ?_
  intro w3 ew3
  replace hE := ew3.bl hE hB
  replace h2 := h2.Y ew3
  replace ha := Rep.Y ha ew3
  replace Lw := Lw.Y ew3
  replace hB := ew3.z hB
  have hS : Ext w3 w3 := ext_refl _
  have D_h2 := h2
  refine a_p 0 tK rfl rfl rfl rfl (by kernel_rfl) i3 hS ?_
  refine a_bar 1 rfl (by kernel_rfl) (by kernel_rfl) (oK fo115 rfl rfl rfl (hasR_spec p hp 111 _) ?_)
  rintro _ _ ⟨rfl, rfl⟩
  refine a_p 2 tK rfl rfl rfl rfl (by kernel_rfl) i3 hS ?_
  refine a_p 3 tK rfl rfl rfl rfl (by kernel_rfl) i3 hS ?_
  refine a_splitB 44 _ rfl (fun c14 => ?_) (fun c14 => ?_)
  ·refine a_p 4 tK rfl rfl rfl rfl (by kernel_rfl) i3 hS ?_
   refine a_p 6 tK rfl rfl rfl rfl (by kernel_rfl) i3 hS ?_
   refine a_ld 7 tK (fun _ hs => (D_h2.Y hs).cell 1 _ rfl) rfl rfl rfl rfl rfl rfl (by kernel_rfl) i3 hS ?_
   refine a_one 5 rfl (by kernel_rfl) (oK fo115 rfl rfl rfl (hasR_spec p hp 110 _) ?_)
   rintro _ _ ⟨rfl, rfl⟩
   refine ⟨hS, ?_⟩
   refine a_bar 8 rfl (by kernel_rfl) (by kernel_rfl) (oK fo96 rfl rfl rfl (risWord_spec M _ _ (by first | exact nm | exact ag) Lw) ?_)
   rintro _ w4 ⟨rfl, ew4⟩
   replace hS := hS.then ew4
   replace hE := ew4.bl hE hB
   replace h2 := h2.Y ew4
   replace ha := Rep.Y ha ew4
   replace Lw := Lw.Y ew4
   replace hB := ew4.z hB
   refine a_bar 9 rfl (by kernel_rfl) (by kernel_rfl) (o_bne tK rfl rfl rfl rfl rfl rfl ?_)
   refine a_p 10 tK rfl rfl rfl rfl (by kernel_rfl) i3 hS ?_
   refine a_p 11 tK rfl rfl rfl rfl (by kernel_rfl) i3 hS ?_
   refine a_split 52 _ rfl (fun c15 => ?_) (fun c15 => ?_)
   ·refine aK 12 rfl rfl rfl (by kernel_rfl) i3 hS ?_
    refine aK 13 rfl rfl rfl (by kernel_rfl) i3 hS ?_
    refine aK 14 rfl rfl rfl (by kernel_rfl) i3 hS ?_
    refine aK 15 rfl rfl rfl (by kernel_rfl) i3 hS ?_
    refine aK 16 rfl rfl rfl (by kernel_rfl) i3 hS ?_
    refine aK 17 rfl rfl rfl (by kernel_rfl) i3 hS ?_
    refine aK 18 rfl rfl rfl (by kernel_rfl) i3 hS ?_
    refine aK 19 rfl rfl rfl (by kernel_rfl) i3 hS ?_
    refine aK 20 rfl rfl rfl (by kernel_rfl) i3 hS ?_
    refine aK 21 rfl rfl rfl (by kernel_rfl) i3 hS ?_
    refine aK 22 rfl rfl rfl (by kernel_rfl) i3 hS ?_
    refine aK 23 rfl rfl rfl (by kernel_rfl) i3 hS ?_
    refine aK 24 rfl rfl rfl (by kernel_rfl) i3 hS ?_
    refine a_p 25 tK rfl rfl rfl rfl (by kernel_rfl) i3 hS ?_
    refine a_end (by kernel_rfl) ?_
    refine xS (cI rfl (q0 (lP 1 tK rfl (q1 (cR (xR (x1_ rfl rfl ?_)))))))
    refine ⟨?_, hE⟩
    have hA : ((hasB p 111 || ((hasB p 110 == isWordB t.name) && (hasB p 110 || decide (t.name = ⟨#[]⟩))))) = false := by
     simp_all
    unfold partsB
    rw [hA1, hA]
    simp
   refine a_p 12 tK rfl rfl rfl rfl (by kernel_rfl) i3 hS ?_
   refine a_bar 13 rfl (by kernel_rfl) (by kernel_rfl) (oK fo115 rfl rfl rfl (hasR_spec p hp 111 _) ?_)
   rintro _ _ ⟨rfl, rfl⟩
   refine a_p 14 tK rfl rfl rfl rfl (by kernel_rfl) i3 hS ?_
   refine a_p 15 tK rfl rfl rfl rfl (by kernel_rfl) i3 hS ?_
   refine a_splitB 56 _ rfl (fun c16 => ?_) (fun c16 => ?_)
   ·refine a_p 16 tK rfl rfl rfl rfl (by kernel_rfl) i3 hS ?_
    refine a_bar 17 rfl (by kernel_rfl) (by kernel_rfl) (oK fo115 rfl rfl rfl (hasR_spec p hp 110 _) ?_)
    rintro _ _ ⟨rfl, rfl⟩
    refine a_p 18 tK rfl rfl rfl rfl (by kernel_rfl) i3 hS ?_
    refine a_p 19 tK rfl rfl rfl rfl (by kernel_rfl) i3 hS ?_
    refine a_p 20 tK rfl rfl rfl rfl (by kernel_rfl) i3 hS ?_
    refine a_splitB 61 _ rfl (fun c17 => ?_) (fun c17 => ?_)
    ·refine a_p 21 tK rfl rfl rfl rfl (by kernel_rfl) i3 hS ?_
     refine a_ld 22 tK (fun _ hs => (D_h2.Y hs).cell 1 _ rfl) rfl rfl rfl rfl rfl rfl (by kernel_rfl) i3 hS ?_
     refine a_p 23 tK rfl rfl rfl rfl (by kernel_rfl) i3 hS ?_
     refine a_p 24 tK rfl rfl rfl rfl (by kernel_rfl) i3 hS ?_
     refine a_p 25 tK rfl rfl rfl rfl (by kernel_rfl) i3 hS ?_
     refine a_end (by kernel_rfl) ?_
     refine xS ?_
     refine c_ifN _ rfl (fun c18 => ?_) (fun c18 => ?_)
     ·refine q0 (lP 1 tK rfl (q1 (cR (xR (x1_ rfl rfl ?_)))))
      refine ⟨?_, hE⟩
      have hA : ((hasB p 111 || ((hasB p 110 == isWordB t.name) && (hasB p 110 || decide (t.name = ⟨#[]⟩))))) = false := by
       simp_all
      unfold partsB
      rw [hA1, hA]
      simp
     refine cK ?_
     have hA : (hasB p 111 || ((hasB p 110 == isWordB t.name) && (hasB p 110 || decide (t.name = ⟨#[]⟩)))) = true := by
      simp_all
     exact x_cut (()) (s2 rfl rfl) ⟨hA, h2, ha, Lw, hE, hB⟩
    refine aK 21 rfl rfl rfl (by kernel_rfl) i3 hS ?_
    refine aK 22 rfl rfl rfl (by kernel_rfl) i3 hS ?_
    refine aK 23 rfl rfl rfl (by kernel_rfl) i3 hS ?_
    refine a_p 24 tK rfl rfl rfl rfl (by kernel_rfl) i3 hS ?_
    refine a_p 25 tK rfl rfl rfl rfl (by kernel_rfl) i3 hS ?_
    refine a_end (by kernel_rfl) ?_
    refine xS (c_ifF rfl (cK ?_))
    have hA : (hasB p 111 || ((hasB p 110 == isWordB t.name) && (hasB p 110 || decide (t.name = ⟨#[]⟩)))) = true := by
     simp_all
    exact x_cut (()) (s2 rfl rfl) ⟨hA, h2, ha, Lw, hE, hB⟩
   refine aK 16 rfl rfl rfl (by kernel_rfl) i3 hS ?_
   refine aK 17 rfl rfl rfl (by kernel_rfl) i3 hS ?_
   refine aK 18 rfl rfl rfl (by kernel_rfl) i3 hS ?_
   refine a_p 19 tK rfl rfl rfl rfl (by kernel_rfl) i3 hS ?_
   refine a_p 20 tK rfl rfl rfl rfl (by kernel_rfl) i3 hS ?_
   refine aK 21 rfl rfl rfl (by kernel_rfl) i3 hS ?_
   refine aK 22 rfl rfl rfl (by kernel_rfl) i3 hS ?_
   refine aK 23 rfl rfl rfl (by kernel_rfl) i3 hS ?_
   refine a_p 24 tK rfl rfl rfl rfl (by kernel_rfl) i3 hS ?_
   refine a_p 25 tK rfl rfl rfl rfl (by kernel_rfl) i3 hS ?_
   refine a_end (by kernel_rfl) ?_
   refine xS (c_ifF rfl (cK ?_))
   have hA : (hasB p 111 || ((hasB p 110 == isWordB t.name) && (hasB p 110 || decide (t.name = ⟨#[]⟩)))) = true := by
    simp_all
   exact x_cut (()) (s2 rfl rfl) ⟨hA, h2, ha, Lw, hE, hB⟩
  refine aK 4 rfl rfl rfl (by kernel_rfl) i3 hS ?_
  refine aK 5 rfl rfl rfl (by kernel_rfl) i3 hS ?_
  refine aK 6 rfl rfl rfl (by kernel_rfl) i3 hS ?_
  refine aK 7 rfl rfl rfl (by kernel_rfl) i3 hS ?_
  refine aK 8 rfl rfl rfl (by kernel_rfl) i3 hS ?_
  refine aK 9 rfl rfl rfl (by kernel_rfl) i3 hS ?_
  refine a_p 10 tK rfl rfl rfl rfl (by kernel_rfl) i3 hS ?_
  refine a_p 11 tK rfl rfl rfl rfl (by kernel_rfl) i3 hS ?_
  refine a_p 12 tK rfl rfl rfl rfl (by kernel_rfl) i3 hS ?_
  refine a_bar 13 rfl (by kernel_rfl) (by kernel_rfl) (oK fo115 rfl rfl rfl (hasR_spec p hp 111 _) ?_)
  rintro _ _ ⟨rfl, rfl⟩
  refine a_p 14 tK rfl rfl rfl rfl (by kernel_rfl) i3 hS ?_
  refine a_p 15 tK rfl rfl rfl rfl (by kernel_rfl) i3 hS ?_
  refine a_splitB 56 _ rfl (fun c19 => ?_) (fun c19 => ?_)
  ·refine a_p 16 tK rfl rfl rfl rfl (by kernel_rfl) i3 hS ?_
   refine a_bar 17 rfl (by kernel_rfl) (by kernel_rfl) (oK fo115 rfl rfl rfl (hasR_spec p hp 110 _) ?_)
   rintro _ _ ⟨rfl, rfl⟩
   refine a_p 18 tK rfl rfl rfl rfl (by kernel_rfl) i3 hS ?_
   refine a_p 19 tK rfl rfl rfl rfl (by kernel_rfl) i3 hS ?_
   refine a_p 20 tK rfl rfl rfl rfl (by kernel_rfl) i3 hS ?_
   refine a_splitB 61 _ rfl (fun c20 => ?_) (fun c20 => ?_)
   ·refine a_p 21 tK rfl rfl rfl rfl (by kernel_rfl) i3 hS ?_
    refine a_ld 22 tK (fun _ hs => (D_h2.Y hs).cell 1 _ rfl) rfl rfl rfl rfl rfl rfl (by kernel_rfl) i3 hS ?_
    refine a_p 23 tK rfl rfl rfl rfl (by kernel_rfl) i3 hS ?_
    refine a_p 24 tK rfl rfl rfl rfl (by kernel_rfl) i3 hS ?_
    refine a_p 25 tK rfl rfl rfl rfl (by kernel_rfl) i3 hS ?_
    refine a_end (by kernel_rfl) ?_
    refine xS ?_
    refine c_ifN _ rfl (fun c21 => ?_) (fun c21 => ?_)
    ·refine q0 (lP 1 tK rfl (q1 (cR (xR (x1_ rfl rfl ?_)))))
     refine ⟨?_, hE⟩
     have hA : ((hasB p 111 || ((hasB p 110 == isWordB t.name) && (hasB p 110 || decide (t.name = ⟨#[]⟩))))) = false := by
      simp_all
     unfold partsB
     rw [hA1, hA]
     simp
    refine cK ?_
    have hA : (hasB p 111 || ((hasB p 110 == isWordB t.name) && (hasB p 110 || decide (t.name = ⟨#[]⟩)))) = true := by
     simp_all
    exact x_cut (()) (s2 rfl rfl) ⟨hA, h2, ha, Lw, hE, hB⟩
   refine aK 21 rfl rfl rfl (by kernel_rfl) i3 hS ?_
   refine aK 22 rfl rfl rfl (by kernel_rfl) i3 hS ?_
   refine aK 23 rfl rfl rfl (by kernel_rfl) i3 hS ?_
   refine a_p 24 tK rfl rfl rfl rfl (by kernel_rfl) i3 hS ?_
   refine a_p 25 tK rfl rfl rfl rfl (by kernel_rfl) i3 hS ?_
   refine a_end (by kernel_rfl) ?_
   refine xS (c_ifF rfl (cK ?_))
   have hA : (hasB p 111 || ((hasB p 110 == isWordB t.name) && (hasB p 110 || decide (t.name = ⟨#[]⟩)))) = true := by
    simp_all
   exact x_cut (()) (s2 rfl rfl) ⟨hA, h2, ha, Lw, hE, hB⟩
  refine aK 16 rfl rfl rfl (by kernel_rfl) i3 hS ?_
  refine aK 17 rfl rfl rfl (by kernel_rfl) i3 hS ?_
  refine aK 18 rfl rfl rfl (by kernel_rfl) i3 hS ?_
  refine a_p 19 tK rfl rfl rfl rfl (by kernel_rfl) i3 hS ?_
  refine a_p 20 tK rfl rfl rfl rfl (by kernel_rfl) i3 hS ?_
  refine aK 21 rfl rfl rfl (by kernel_rfl) i3 hS ?_
  refine aK 22 rfl rfl rfl (by kernel_rfl) i3 hS ?_
  refine aK 23 rfl rfl rfl (by kernel_rfl) i3 hS ?_
  refine a_p 24 tK rfl rfl rfl rfl (by kernel_rfl) i3 hS ?_
  refine a_p 25 tK rfl rfl rfl rfl (by kernel_rfl) i3 hS ?_
  refine a_end (by kernel_rfl) ?_
  refine xS (c_ifF rfl (cK ?_))
  have hA : (hasB p 111 || ((hasB p 110 == isWordB t.name) && (hasB p 110 || decide (t.name = ⟨#[]⟩)))) = true := by
   simp_all
  exact x_cut (()) (s2 rfl rfl) ⟨hA, h2, ha, Lw, hE, hB⟩
 clear h2 ha Lw hE hB
 rintro _ w82 ⟨hA2, h2, ha, Lw, hE, hB⟩
 refine c_cut (X := Unit) (fun _u => [(1, .string p), (2, .pointer (some ⟨b2, 0, none⟩))]) (fun _u w' => ((hasB p 97 == isWordB t.arg) && (hasB p 97 || decide (t.arg = ⟨#[]⟩))) = true ∧ At M w' b2 0 [.int .u8 t.op, .string t.name, .string t.arg, .int .i64 t.n, .bool t.has, .int .u8 t.ann.op, .string t.ann.name, .int .i64 t.ann.n, akv, kv] ∧ Rep.R M w' (.agg #[.int .u8 t.ann.op, .string t.ann.name, .int .i64 t.ann.n, akv]) t.ann ∧ Low M w' ∧ Below w.heap.size w w' ∧ w.heap.size ≤ w'.heap.size) ?_ ?_
 ·refine cS ?_
  refine a_beg Ext rfl ?_
  intro w5 ew5
  replace hE := ew5.bl hE hB
  replace h2 := h2.Y ew5
  replace ha := Rep.Y ha ew5
  replace Lw := Lw.Y ew5
  replace hB := ew5.z hB
  have hS : Ext w5 w5 := ext_refl _
  have D_h2 := h2
  refine a_p 0 tK rfl rfl rfl rfl (by kernel_rfl) i3 hS ?_
  refine a_p 2 tK rfl rfl rfl rfl (by kernel_rfl) i3 hS ?_
  refine a_ld 3 tK (fun _ hs => (D_h2.Y hs).cell 2 _ rfl) rfl rfl rfl rfl rfl rfl (by kernel_rfl) i3 hS ?_
  refine a_one 1 rfl (by kernel_rfl) (oK fo115 rfl rfl rfl (hasR_spec p hp 97 _) ?_)
  rintro _ _ ⟨rfl, rfl⟩
  refine ⟨hS, ?_⟩
  refine a_bar 4 rfl (by kernel_rfl) (by kernel_rfl) (oK fo96 rfl rfl rfl (risWord_spec M _ _ (by first | exact nm | exact ag) Lw) ?_)
  rintro _ w6 ⟨rfl, ew6⟩
  replace hS := hS.then ew6
  replace hE := ew6.bl hE hB
  replace h2 := h2.Y ew6
  replace ha := Rep.Y ha ew6
  replace Lw := Lw.Y ew6
  replace hB := ew6.z hB
  refine a_bar 5 rfl (by kernel_rfl) (by kernel_rfl) (o_bne tK rfl rfl rfl rfl rfl rfl ?_)
  refine a_p 6 tK rfl rfl rfl rfl (by kernel_rfl) i3 hS ?_
  refine a_split 73 _ rfl (fun c22 => ?_) (fun c22 => ?_)
  ·refine aK 7 rfl rfl rfl (by kernel_rfl) i3 hS ?_
   refine aK 8 rfl rfl rfl (by kernel_rfl) i3 hS ?_
   refine aK 9 rfl rfl rfl (by kernel_rfl) i3 hS ?_
   refine aK 10 rfl rfl rfl (by kernel_rfl) i3 hS ?_
   refine aK 11 rfl rfl rfl (by kernel_rfl) i3 hS ?_
   refine aK 12 rfl rfl rfl (by kernel_rfl) i3 hS ?_
   refine aK 13 rfl rfl rfl (by kernel_rfl) i3 hS ?_
   refine aK 14 rfl rfl rfl (by kernel_rfl) i3 hS ?_
   refine a_p 15 tK rfl rfl rfl rfl (by kernel_rfl) i3 hS ?_
   refine a_end (by kernel_rfl) ?_
   refine xS (cI rfl (q0 (lP 1 tK rfl (q1 (cR (xR (x1_ rfl rfl ?_)))))))
   refine ⟨?_, hE⟩
   have hA : (((hasB p 97 == isWordB t.arg) && (hasB p 97 || decide (t.arg = ⟨#[]⟩)))) = false := by
    simp_all
   unfold partsB
   rw [hA1, hA2, hA]
   simp
  refine a_p 7 tK rfl rfl rfl rfl (by kernel_rfl) i3 hS ?_
  refine a_bar 8 rfl (by kernel_rfl) (by kernel_rfl) (oK fo115 rfl rfl rfl (hasR_spec p hp 97 _) ?_)
  rintro _ _ ⟨rfl, rfl⟩
  refine a_p 9 tK rfl rfl rfl rfl (by kernel_rfl) i3 hS ?_
  refine a_p 10 tK rfl rfl rfl rfl (by kernel_rfl) i3 hS ?_
  refine a_splitB 77 _ rfl (fun c23 => ?_) (fun c23 => ?_)
  ·refine a_p 11 tK rfl rfl rfl rfl (by kernel_rfl) i3 hS ?_
   refine a_ld 12 tK (fun _ hs => (D_h2.Y hs).cell 2 _ rfl) rfl rfl rfl rfl rfl rfl (by kernel_rfl) i3 hS ?_
   refine a_p 13 tK rfl rfl rfl rfl (by kernel_rfl) i3 hS ?_
   refine a_p 14 tK rfl rfl rfl rfl (by kernel_rfl) i3 hS ?_
   refine a_p 15 tK rfl rfl rfl rfl (by kernel_rfl) i3 hS ?_
   refine a_end (by kernel_rfl) ?_
   refine xS ?_
   refine c_ifN _ rfl (fun c24 => ?_) (fun c24 => ?_)
   ·refine q0 (lP 1 tK rfl (q1 (cR (xR (x1_ rfl rfl ?_)))))
    refine ⟨?_, hE⟩
    have hA : (((hasB p 97 == isWordB t.arg) && (hasB p 97 || decide (t.arg = ⟨#[]⟩)))) = false := by
     simp_all
    unfold partsB
    rw [hA1, hA2, hA]
    simp
   refine cK ?_
   have hA : ((hasB p 97 == isWordB t.arg) && (hasB p 97 || decide (t.arg = ⟨#[]⟩))) = true := by
    simp_all
   exact x_cut (()) (s2 rfl rfl) ⟨hA, h2, ha, Lw, hE, hB⟩
  refine aK 11 rfl rfl rfl (by kernel_rfl) i3 hS ?_
  refine aK 12 rfl rfl rfl (by kernel_rfl) i3 hS ?_
  refine aK 13 rfl rfl rfl (by kernel_rfl) i3 hS ?_
  refine a_p 14 tK rfl rfl rfl rfl (by kernel_rfl) i3 hS ?_
  refine a_p 15 tK rfl rfl rfl rfl (by kernel_rfl) i3 hS ?_
  refine a_end (by kernel_rfl) ?_
  refine xS (c_ifF rfl (cK ?_))
  have hA : ((hasB p 97 == isWordB t.arg) && (hasB p 97 || decide (t.arg = ⟨#[]⟩))) = true := by
   simp_all
  exact x_cut (()) (s2 rfl rfl) ⟨hA, h2, ha, Lw, hE, hB⟩
 clear h2 ha Lw hE hB
 rintro _ w83 ⟨hA3, h2, ha, Lw, hE, hB⟩
 refine c_cut (X := Unit) (fun _u => [(1, .string p), (2, .pointer (some ⟨b2, 0, none⟩))]) (fun _u w' => (decide (0 ≤ t.n) && (!decide (0 < t.n) || (hasB p 105 || (hasB p 98 && decide (t.n = 1))))) = true ∧ At M w' b2 0 [.int .u8 t.op, .string t.name, .string t.arg, .int .i64 t.n, .bool t.has, .int .u8 t.ann.op, .string t.ann.name, .int .i64 t.ann.n, akv, kv] ∧ Rep.R M w' (.agg #[.int .u8 t.ann.op, .string t.ann.name, .int .i64 t.ann.n, akv]) t.ann ∧ Low M w' ∧ Below w.heap.size w w' ∧ w.heap.size ≤ w'.heap.size) ?_ ?_
 ·refine q0 (lP 1 tK rfl ?_)
  refine lC (oD tK (h2.cell 3 _ rfl) rfl rfl rfl rfl rfl ?_)
  refine lP 2 tK rfl ?_
  refine lS 86 _ rfl (fun c25 => ?_) (fun c25 => ?_)
  ·refine lP 19 tK rfl (q1 (cI rfl (q0 (lP 1 tK rfl (q1 (cR (xR (x1_ rfl rfl ?_))))))))
   refine ⟨?_, hE⟩
   have hA : ((decide (0 ≤ t.n) && (!decide (0 < t.n) || (hasB p 105 || (hasB p 98 && decide (t.n = 1)))))) = false := by
    simp_all <;> omega
   unfold partsB
   rw [hA1, hA2, hA3, hA]
   simp
  refine lP 1 tK rfl ?_
  refine lC (oD tK (h2.cell 3 _ rfl) rfl rfl rfl rfl rfl ?_)
  refine lP 2 tK rfl ?_
  refine lS 90 _ rfl (fun c26 => ?_) (fun c26 => ?_)
  ·refine lP 1 tK rfl ?_
   refine lC (oK fo115 rfl rfl rfl (hasR_spec p hp 105 _) ?_)
   rintro _ _ ⟨rfl, rfl⟩
   refine lP 3 tK rfl ?_
   refine l_splitB 95 _ rfl (fun c27 => ?_) (fun c27 => ?_)
   ·refine lP 1 tK rfl ?_
    refine lC (oK fo115 rfl rfl rfl (hasR_spec p hp 98 _) ?_)
    rintro _ _ ⟨rfl, rfl⟩
    refine lP 1 tK rfl ?_
    refine l_split 98 _ rfl (fun c28 => ?_) (fun c28 => ?_)
    ·refine lP 1 tK rfl ?_
     refine lC (oD tK (h2.cell 3 _ rfl) rfl rfl rfl rfl rfl ?_)
     refine lP 5 tK rfl (q1 ?_)
     refine c_ifN _ rfl (fun c29 => ?_) (fun c29 => ?_)
     ·refine q0 (lP 1 tK rfl (q1 (cR (xR (x1_ rfl rfl ?_)))))
      refine ⟨?_, hE⟩
      have hA : ((decide (0 ≤ t.n) && (!decide (0 < t.n) || (hasB p 105 || (hasB p 98 && decide (t.n = 1)))))) = false := by
       simp_all <;> omega
      unfold partsB
      rw [hA1, hA2, hA3, hA]
      simp
     refine cK ?_
     have hA : (decide (0 ≤ t.n) && (!decide (0 < t.n) || (hasB p 105 || (hasB p 98 && decide (t.n = 1))))) = true := by
      simp_all <;> omega
     exact x_cut (()) (s2 rfl rfl) ⟨hA, h2, ha, Lw, hE, hB⟩
    refine lP 7 tK rfl (q1 (cI rfl (q0 (lP 1 tK rfl (q1 (cR (xR (x1_ rfl rfl ?_))))))))
    refine ⟨?_, hE⟩
    have hA : ((decide (0 ≤ t.n) && (!decide (0 < t.n) || (hasB p 105 || (hasB p 98 && decide (t.n = 1)))))) = false := by
     simp_all <;> omega
    unfold partsB
    rw [hA1, hA2, hA3, hA]
    simp
   refine lP 10 tK rfl (q1 (c_ifF rfl (cK ?_)))
   have hA : (decide (0 ≤ t.n) && (!decide (0 < t.n) || (hasB p 105 || (hasB p 98 && decide (t.n = 1))))) = true := by
    simp_all <;> omega
   exact x_cut (()) (s2 rfl rfl) ⟨hA, h2, ha, Lw, hE, hB⟩
  refine lP 15 tK rfl (q1 (c_ifF rfl (cK ?_)))
  have hA : (decide (0 ≤ t.n) && (!decide (0 < t.n) || (hasB p 105 || (hasB p 98 && decide (t.n = 1))))) = true := by
   simp_all <;> omega
  exact x_cut (()) (s2 rfl rfl) ⟨hA, h2, ha, Lw, hE, hB⟩
 clear h2 ha Lw hE hB
 rintro _ w84 ⟨hA4, h2, ha, Lw, hE, hB⟩
 refine cS (q0 (lP 1 tK rfl ?_))
 refine lC (oD tK (h2.cell 4 _ rfl) rfl rfl rfl rfl rfl ?_)
 refine lP 1 tK rfl (q1 ?_)
 refine c_ifB _ rfl (fun c30 => ?_) (fun c30 => ?_)
 ·refine q0 (lP 1 tK rfl ?_)
  refine lC (oK fo115 rfl rfl rfl (hasR_spec p hp 84 _) ?_)
  rintro _ _ ⟨rfl, rfl⟩
  refine lP 2 tK rfl ?_
  refine l_splitB 112 _ rfl (fun c31 => ?_) (fun c31 => ?_)
  ·refine lP 1 tK rfl ?_
   refine lC (oL tK (fun j v hv => (h2).mid 5 (sub := [.int .u8 t.ann.op, .string t.ann.name, .int .i64 t.ann.n, akv]) rfl j v hv) rfl rfl rfl rfl rfl rfl ?_)
   refine lC (oK fo116 rfl rfl rfl (zero_spec _ _ _ _ ha Lw) ?_)
   rintro _ w7 ⟨rfl, ew7⟩
   replace hE := ew7.bl hE hB
   replace h2 := h2.Y ew7
   replace ha := Rep.Y ha ew7
   replace Lw := Lw.Y ew7
   replace hB := ew7.z hB
   refine lP 2 tK rfl (q1 (cR (xR (x1_ rfl rfl ?_))))
   refine ⟨?_, hE⟩
   unfold partsB
   rw [hA1, hA2, hA3, hA4]
   simp_all
  refine lP 5 tK rfl (q1 (cR (xR (x1_ rfl rfl ?_))))
  refine ⟨?_, hE⟩
  unfold partsB
  rw [hA1, hA2, hA3, hA4]
  simp_all
 refine cK (xS (q0 (lP 1 tK rfl ?_)))
 refine lC (oK fo115 rfl rfl rfl (hasR_spec p hp 84 _) ?_)
 rintro _ _ ⟨rfl, rfl⟩
 refine lP 1 tK rfl ?_
 refine l_split 119 _ rfl (fun c32 => ?_) (fun c32 => ?_)
 ·refine lP 5 tK rfl ?_
  refine lC (oL tK (fun j v hv => (h2).mid 5 (sub := [.int .u8 t.ann.op, .string t.ann.name, .int .i64 t.ann.n, akv]) rfl j v hv) rfl rfl rfl rfl rfl rfl ?_)
  refine lC (oK fo17 rfl rfl rfl (refRight_spec _ _ _ _ ha Lw hz) ?_)
  rintro _ w8 ⟨rfl, ew8⟩
  replace hE := ew8.bl hE hB
  replace h2 := h2.Y ew8
  replace ha := Rep.Y ha ew8
  replace Lw := Lw.Y ew8
  replace hB := ew8.z hB
  refine lP 2 tK rfl ?_
  refine l_split 128 _ rfl (fun c33 => ?_) (fun c33 => ?_)
  ·refine lP 1 tK rfl ?_
   refine lC (oL tK (fun j v hv => (h2).mid 5 (sub := [.int .u8 t.ann.op, .string t.ann.name, .int .i64 t.ann.n, akv]) rfl j v hv) rfl rfl rfl rfl rfl rfl ?_)
   have hsh : shapeF t.ann 116 = true := by
    have h9 : rightB t.ann = true := by assumption
    unfold rightB at h9; simp_all
   refine lC (oK fo48 rfl rfl rfl (refVars_spec t.ann 116 _ _ _ hsh ha Lw hz) ?_)
   rintro vhv w9 ⟨hv, ew9⟩
   replace hE := ew9.bl hE hB
   replace h2 := h2.Y ew9
   replace ha := Rep.Y ha ew9
   replace Lw := Lw.Y ew9
   replace hB := ew9.z hB
   refine lC (o_len tK hv rfl rfl rfl rfl rfl ?_)
   refine lP 3 tK rfl (q1 (cR (x1_ rfl rfl ?_)))
   refine ⟨?_, hE⟩
   unfold partsB
   rw [hA1, hA2, hA3, hA4]
   simp_all
  refine lP 7 tK rfl (q1 (cR (x1_ rfl rfl ?_)))
  refine ⟨?_, hE⟩
  unfold partsB
  rw [hA1, hA2, hA3, hA4]
  simp_all
 refine lP 1 tK rfl ?_
 refine lC (oK fo115 rfl rfl rfl (hasR_spec p hp 116 _) ?_)
 rintro _ _ ⟨rfl, rfl⟩
 refine lP 2 tK rfl ?_
 refine l_split 123 _ rfl (fun c34 => ?_) (fun c34 => ?_)
 ·refine lP 1 tK rfl ?_
  refine lC (oL tK (fun j v hv => (h2).mid 5 (sub := [.int .u8 t.ann.op, .string t.ann.name, .int .i64 t.ann.n, akv]) rfl j v hv) rfl rfl rfl rfl rfl rfl ?_)
  refine lC (oK fo17 rfl rfl rfl (refRight_spec _ _ _ _ ha Lw hz) ?_)
  rintro _ w10 ⟨rfl, ew10⟩
  replace hE := ew10.bl hE hB
  replace h2 := h2.Y ew10
  replace ha := Rep.Y ha ew10
  replace Lw := Lw.Y ew10
  replace hB := ew10.z hB
  refine lP 2 tK rfl ?_
  refine l_split 128 _ rfl (fun c35 => ?_) (fun c35 => ?_)
  ·refine lP 1 tK rfl ?_
   refine lC (oL tK (fun j v hv => (h2).mid 5 (sub := [.int .u8 t.ann.op, .string t.ann.name, .int .i64 t.ann.n, akv]) rfl j v hv) rfl rfl rfl rfl rfl rfl ?_)
   have hsh : shapeF t.ann 116 = true := by
    have h9 : rightB t.ann = true := by assumption
    unfold rightB at h9; simp_all
   refine lC (oK fo48 rfl rfl rfl (refVars_spec t.ann 116 _ _ _ hsh ha Lw hz) ?_)
   rintro vhv w11 ⟨hv, ew11⟩
   replace hE := ew11.bl hE hB
   replace h2 := h2.Y ew11
   replace ha := Rep.Y ha ew11
   replace Lw := Lw.Y ew11
   replace hB := ew11.z hB
   refine lC (o_len tK hv rfl rfl rfl rfl rfl ?_)
   refine lP 3 tK rfl (q1 (cR (x1_ rfl rfl ?_)))
   refine ⟨?_, hE⟩
   unfold partsB
   rw [hA1, hA2, hA3, hA4]
   simp_all
  refine lP 7 tK rfl (q1 (cR (x1_ rfl rfl ?_)))
  refine ⟨?_, hE⟩
  unfold partsB
  rw [hA1, hA2, hA3, hA4]
  simp_all
 refine lP 12 tK rfl (q1 (cR (x1_ rfl rfl ?_)))
 refine ⟨?_, hE⟩
 unfold partsB
 rw [hA1, hA2, hA3, hA4]
 simp_all
open Go Rw Go.RowKit
set_option maxRecDepth 100000
theorem takeM_same {l k : List Tm} {i : Nat} (hi : i < l.length) (hk : i < k.length) (h : l.take i = k.take i) (e : l[i] = k[i]) : l.take (i + 1) = k.take (i + 1) := by
 rw [List.take_succ_eq_append_getElem hi, List.take_succ_eq_append_getElem hk, h, e]
theorem takeM_full {l k : List Tm} {i : Nat} (hi : l.length ≤ i) (hl : l.length = k.length) (h : l.take i = k.take i) : l = k := by
 rw [List.take_of_length_le hi, List.take_of_length_le (by omega)] at h; exact h
theorem partsS_size (op : Int) : (partsS op).size < 100 := by
 by_cases h : op < 32 ∨ 52 ≤ op
 ·rw [partsS, if_pos h]; decide
 ·rcases op_cases h with e | e | e | e | e | e | e | e | e | e | e | e | e | e | e | e | e | e | e | e <;> subst e <;> decide
theorem refTRight_spec : ∀ (t : Tm) (arm : Bool) (M : Nat → Prop) (w : World) (v : Value), Rep.R M w v t → Low M w → AnnS t → Calls Try.prog 58 #[v, .bool arm] w (Ret fun r w' => r = .bool (refT t arm) ∧ Ext w w') := by
 refine Tm.ind fun t ih => ?_
 intro arm M w v ht Lw hz
 have hE := Below.refl w.heap.size w
 have hB := lR w.heap.size
 obtain ⟨akv, kv, rfl, op, nm, ag, n64, ha, hk⟩ := tm_open ht
 have hlt := hk.lt
 have hps : (partsS t.op).size < 100 := partsS_size t.op
 refine cN (n := 107) Try.func58 rfl rfl rfl ?_
 refine q0 ?_
 refine lC (o_box rfl rfl rfl ?_)
 intro b2 w1 hb_b2 ew1 h2
 replace h2 : Box _ b2 59 [.int .u8 t.op, .string t.name, .string t.arg, .int .i64 t.n, .bool t.has, .int .u8 t.ann.op, .string t.ann.name, .int .i64 t.ann.n, akv, kv] := h2
 replace h2 := h2.at (nO Lw hb_b2)
 replace hE := ew1.bl hE hB
 replace ht := Rep.Y ht ew1
 replace ha := Rep.Y ha ew1
 replace hk := hk.Y ew1
 replace Lw := Lw.Y ew1
 replace hB := ew1.z hB
 refine lP 1 tK rfl (q1 (q0 (lP 1 tK rfl ?_)))
 refine lC (oD tK (h2.cell 0 _ rfl) rfl rfl rfl rfl rfl ?_)
 refine lC (oK fo90 rfl rfl rfl (partsS_spec t.op op M _ Lw) ?_)
 rintro _ w2 ⟨rfl, ew2⟩
 replace hE := ew2.bl hE hB
 replace ht := Rep.Y ht ew2
 replace ha := Rep.Y ha ew2
 replace hk := hk.Y ew2
 replace h2 := h2.Y ew2
 replace Lw := Lw.Y ew2
 replace hB := ew2.z hB
 refine lP 1 tK rfl (q1 ?_)
 refine c_cut (X := Unit) (fun _u => [(2, .pointer (some ⟨b2, 0, none⟩)), (5, .string (partsS t.op))]) (fun _u w' => refT t arm = (bif decide ((partsS t.op) = ⟨#[99]⟩) then caseL (refL t.kids) else decide (t.kids.length = countE (partsS t.op)) && allL (refL t.kids)) ∧ At M w' b2 0 [.int .u8 t.op, .string t.name, .string t.arg, .int .i64 t.n, .bool t.has, .int .u8 t.ann.op, .string t.ann.name, .int .i64 t.ann.n, akv, kv] ∧ Sl M w' kv t.kids ∧ Low M w' ∧ Below w.heap.size w w' ∧ w.heap.size ≤ w'.heap.size) ?_ ?_
 ·refine q0 (lP 3 tK rfl ?_)
  refine lS 15 _ rfl (fun c1 => ?_) (fun c1 => ?_)
  ·refine lP 17 tK rfl (q1 (cI rfl (q0 (lP 1 tK rfl (q1 (cR (xR (x1_ rfl rfl ?_))))))))
   exact ⟨by rw [refT_eq]; clear ih; unfold armsB; simp_all, hE⟩
  refine lP 2 tK rfl ?_
  refine lC (oD tK (h2.cell 0 _ rfl) rfl rfl rfl rfl rfl ?_)
  refine lP 2 tK rfl ?_
  refine lS 20 _ rfl (fun c2 => ?_) (fun c2 => ?_)
  ·refine lP 4 tK rfl ?_
   refine lC (o_bne tK rfl rfl rfl rfl rfl rfl ?_)
   refine lP 2 tK rfl ?_
   refine l_split 27 _ rfl (fun c3 => ?_) (fun c3 => ?_)
   ·refine lP 5 tK rfl (q1 (cI rfl (q0 (lP 1 tK rfl (q1 (cR (xR (x1_ rfl rfl ?_))))))))
    exact ⟨by rw [refT_eq]; clear ih; unfold armsB; simp_all, hE⟩
   refine lC (oL tK (fun j v hv => h2.cell j v hv) rfl rfl rfl rfl rfl rfl ?_)
   refine lP 1 tK rfl ?_
   refine lC (oK fo91 rfl rfl rfl (partsR_spec t _ (by omega) _ _ _ ht Lw hz.self) ?_)
   rintro _ w3 ⟨rfl, ew3⟩
   replace hE := ew3.bl hE hB
   replace ht := Rep.Y ht ew3
   replace ha := Rep.Y ha ew3
   replace hk := hk.Y ew3
   replace h2 := h2.Y ew3
   replace Lw := Lw.Y ew3
   replace hB := ew3.z hB
   refine lP 2 tK rfl (q1 ?_)
   refine c_ifB _ rfl (fun c4 => ?_) (fun c4 => ?_)
   ·refine q0 (lP 1 tK rfl (q1 (cR (xR (x1_ rfl rfl ?_)))))
    exact ⟨by rw [refT_eq]; clear ih; unfold armsB; simp_all, hE⟩
   refine cK ?_
   have hhd : refT t arm = (bif decide ((partsS t.op) = ⟨#[99]⟩) then caseL (refL t.kids) else decide (t.kids.length = countE (partsS t.op)) && allL (refL t.kids)) := by
    rw [refT_eq]
    clear ih
    unfold armsB
    simp_all
   exact x_cut (()) (s2 rfl rfl) ⟨hhd, h2, hk, Lw, hE, hB⟩
  refine lP 1 tK rfl ?_
  refine lC (oD tK (h2.cell 0 _ rfl) rfl rfl rfl rfl rfl ?_)
  refine lP 2 tK rfl ?_
  refine lC (o_bne tK rfl rfl rfl rfl rfl rfl ?_)
  refine lP 2 tK rfl ?_
  refine l_split 27 _ rfl (fun c5 => ?_) (fun c5 => ?_)
  ·refine lP 5 tK rfl (q1 (cI rfl (q0 (lP 1 tK rfl (q1 (cR (xR (x1_ rfl rfl ?_))))))))
   exact ⟨by rw [refT_eq]; clear ih; unfold armsB; simp_all, hE⟩
  refine lC (oL tK (fun j v hv => h2.cell j v hv) rfl rfl rfl rfl rfl rfl ?_)
  refine lP 1 tK rfl ?_
  refine lC (oK fo91 rfl rfl rfl (partsR_spec t _ (by omega) _ _ _ ht Lw hz.self) ?_)
  rintro _ w4 ⟨rfl, ew4⟩
  replace hE := ew4.bl hE hB
  replace ht := Rep.Y ht ew4
  replace ha := Rep.Y ha ew4
  replace hk := hk.Y ew4
  replace h2 := h2.Y ew4
  replace Lw := Lw.Y ew4
  replace hB := ew4.z hB
  refine lP 2 tK rfl (q1 ?_)
  refine c_ifB _ rfl (fun c6 => ?_) (fun c6 => ?_)
  ·refine q0 (lP 1 tK rfl (q1 (cR (xR (x1_ rfl rfl ?_)))))
   exact ⟨by rw [refT_eq]; clear ih; unfold armsB; simp_all, hE⟩
  refine cK ?_
  have hhd : refT t arm = (bif decide ((partsS t.op) = ⟨#[99]⟩) then caseL (refL t.kids) else decide (t.kids.length = countE (partsS t.op)) && allL (refL t.kids)) := by
   rw [refT_eq]
   clear ih
   unfold armsB
   simp_all
  exact x_cut (()) (s2 rfl rfl) ⟨hhd, h2, hk, Lw, hE, hB⟩
 clear h2 hk ht ha Lw hE hB
 rintro _ w80 ⟨hhd, h2, hk, Lw, hE, hB⟩
 refine q0 (lP 1 tK rfl (q1 (cS (q0 (lP 1 tK rfl (q1 (cB ?_)))))))
 refine c_loop (X := Nat) (fun i => [(2, .pointer (some ⟨b2, 0, none⟩)), (5, .string (partsS t.op)), (6, .int .i64 (countTo (partsS t.op) i : Nat)), (7, .int .i64 (i : Nat))]) (fun i w' => i ≤ (partsS t.op).size ∧ At M w' b2 0 [.int .u8 t.op, .string t.name, .string t.arg, .int .i64 t.n, .bool t.has, .int .u8 t.ann.op, .string t.ann.name, .int .i64 t.ann.n, akv, kv] ∧ Sl M w' kv t.kids ∧ Low M w' ∧ Below w.heap.size w w' ∧ w.heap.size ≤ w'.heap.size) (fun i => (partsS t.op).size - i) (0) (s4 rfl rfl rfl rfl) ?_ ?_
 ·exact ⟨Nat.zero_le _, h2, hk, Lw, hE, hB⟩
 clear h2 hk Lw hE hB
 rintro i w5 ⟨hi, h2, hk, Lw, hE, hB⟩
 have hct := countTo_le (partsS t.op) i
 refine cS (q0 (lP 4 tK rfl (q1 ?_)))
 refine cP _ rfl (fun c7 => ?_) (fun c7 => ?_)
 ·refine cK (xS (cS (cB (q0 (lP 2 tK rfl ?_)))))
  have his : i < (partsS t.op).size := by omega
  obtain ⟨ch, hd⟩ : ∃ ch, (partsS t.op).data[i]? = some ch := ⟨_, Array.getElem?_eq_getElem (show i < (partsS t.op).data.size from his)⟩
  refine lC (o_si tK rfl rfl rfl rfl rfl hd rfl rfl ?_)
  refine lP 1 tK rfl (q1 ?_)
  refine cP _ rfl (fun c8 => ?_) (fun c8 => ?_)
  ·refine cG (lP 1 tK rfl ?_)
   refine lC (o_ai rfl rfl rfl (by omega) rfl rfl ?_)
   refine lP 1 tK rfl (q2 (xS (cG (lP 1 tK rfl ?_))))
   refine lC (o_ai rfl rfl rfl (by omega) rfl rfl ?_)
   refine lP 1 tK rfl (lN ?_)
   exact x_round (i + 1) (s4 rfl rfl (gN rfl (by rw [countTo_step hd, if_pos (UInt8.toNat_inj.1 (show ch.toNat = 101 by omega))]; omega)) (gN rfl (by omega))) ⟨by omega, h2, hk, Lw, hE, hB⟩ (by omega)
  refine cK (x_blk (xS (cG (lP 1 tK rfl ?_))))
  refine lC (o_ai rfl rfl rfl (by omega) rfl rfl ?_)
  refine lP 1 tK rfl (lN ?_)
  exact x_round (i + 1) (s4 rfl rfl (gN rfl (by rw [countTo_step hd, if_neg (fun e : ch = 101 => c8 (by rw [e]; rfl))]; omega)) (gN rfl (by omega))) ⟨by omega, h2, hk, Lw, hE, hB⟩ (by omega)
 refine c_exit (xE (xE (x_blkE (xS (cS (q0 (lP 2 tK rfl (q1 ?_))))))))
 refine cP _ rfl (fun c9 => ?_) (fun c9 => ?_)
 ·refine cS (q0 (lP 1 tK rfl ?_))
  refine lC (oD tK (h2.cell 9 _ rfl) rfl rfl rfl rfl rfl ?_)
  refine lC (o_len tK hk rfl rfl rfl rfl rfl ?_)
  refine lP 2 tK rfl ?_
  refine lS 51 _ rfl (fun c10 => ?_) (fun c10 => ?_)
  ·refine lP 7 tK rfl (q1 (cI rfl (q0 (lP 1 tK rfl (q1 (cR (xR (xR (x1_ rfl rfl ?_)))))))))
   refine ⟨?_, hE⟩
   rw [hhd, dT (by assumption), cond_true]
   by_cases h9 : t.kids.length = 0
   ·rw [List.eq_nil_of_length_eq_zero h9]; rfl
   ·first | (exfalso; omega) | (rw [caseL_step (by omega)]; clear ih; simp_all)
  refine lP 1 tK rfl ?_
  refine lC (oD tK (h2.cell 9 _ rfl) rfl rfl rfl rfl rfl ?_)
  have h0k : 0 < t.kids.length := by omega
  refine lC (o_ixS tK hk (gE h0k) rfl rfl rfl rfl rfl rfl rfl rfl rfl ?_)
  intro ebx eox eux hyx hX
  obtain ⟨akvx, kvx, rfl, opx, nmx, agx, n64x, hax, hkx⟩ := tm_open hyx
  replace hX : At M w5 ebx eox [.int .u8 t.kids[0].op, .string t.kids[0].name, .string t.kids[0].arg, .int .i64 t.kids[0].n, .bool t.kids[0].has, .int .u8 t.kids[0].ann.op, .string t.kids[0].ann.name, .int .i64 t.kids[0].ann.n, akvx, kvx] := hX
  refine lC (oL tK (fun j v hv => hX.cell j v hv) rfl rfl rfl rfl rfl rfl ?_)
  refine lC (oK fo58 rfl rfl rfl (ih _ (gM h0k) _ M _ _ hyx Lw (hz.kid (gM h0k))) ?_)
  rintro _ w6 ⟨rfl, ew6⟩
  replace hE := ew6.bl hE hB
  replace h2 := h2.Y ew6
  replace hk := hk.Y ew6
  replace hyx := Rep.Y hyx ew6
  replace hax := Rep.Y hax ew6
  replace hkx := hkx.Y ew6
  replace hX := hX.Y ew6
  replace Lw := Lw.Y ew6
  replace hB := ew6.z hB
  refine lP 2 tK rfl (q1 ?_)
  refine c_ifB _ rfl (fun c11 => ?_) (fun c11 => ?_)
  ·refine q0 (lP 1 tK rfl (q1 (cR (xR (xR (x1_ rfl rfl ?_))))))
   refine ⟨?_, hE⟩
   rw [hhd, dT (by assumption), cond_true]
   by_cases h9 : t.kids.length = 0
   ·rw [List.eq_nil_of_length_eq_zero h9]; rfl
   ·first | (exfalso; omega) | (rw [caseL_step (by omega)]; clear ih; simp_all)
  refine cK (xS (cS (q0 (lP 1 tK rfl (q1 (cB ?_))))))
  have h0k : 0 < t.kids.length := by omega
  have hcase : refT t arm = armsL (refL (t.kids.drop 1)) := by
   rw [hhd, dT (by assumption), cond_true, caseL_step h0k]; clear ih; simp_all
  refine c_loop (X := Nat) (fun i => [(2, .pointer (some ⟨b2, 0, none⟩)), (8, .int .i64 (i : Nat))]) (fun i w' => 1 ≤ i ∧ i ≤ t.kids.length ∧ refT t arm = armsL (refL (t.kids.drop i)) ∧ At M w' b2 0 [.int .u8 t.op, .string t.name, .string t.arg, .int .i64 t.n, .bool t.has, .int .u8 t.ann.op, .string t.ann.name, .int .i64 t.ann.n, akv, kv] ∧ Sl M w' kv t.kids ∧ Low M w' ∧ Below w.heap.size w w' ∧ w.heap.size ≤ w'.heap.size) (fun i => t.kids.length - i) (1) (s2 rfl rfl) ?_ ?_
  ·exact ⟨lR _, by omega, hcase, h2, hk, Lw, hE, hB⟩
  clear h2 hk Lw hE hB
  rintro i w7 ⟨hi1, hi, hinv, h2, hk, Lw, hE, hB⟩
  refine cS (q0 (lP 2 tK rfl ?_))
  refine lC (oD tK (h2.cell 9 _ rfl) rfl rfl rfl rfl rfl ?_)
  refine lC (o_len tK hk rfl rfl rfl rfl rfl ?_)
  refine lP 1 tK rfl (q1 ?_)
  refine cP _ rfl (fun c12 => ?_) (fun c12 => ?_)
  ·refine cK (xS (cS (cB (q0 (lP 1 tK rfl ?_)))))
   refine lC (oD tK (h2.cell 9 _ rfl) rfl rfl rfl rfl rfl ?_)
   refine lP 1 tK rfl ?_
   have hik : i < t.kids.length := by omega
   refine lC (o_ixS tK hk (gE hik) rfl rfl rfl rfl rfl rfl rfl rfl rfl ?_)
   intro ebx eox eux hyx hX
   obtain ⟨akvx, kvx, rfl, opx, nmx, agx, n64x, hax, hkx⟩ := tm_open hyx
   replace hX : At M w7 ebx eox [.int .u8 t.kids[i].op, .string t.kids[i].name, .string t.kids[i].arg, .int .i64 t.kids[i].n, .bool t.kids[i].has, .int .u8 t.kids[i].ann.op, .string t.kids[i].ann.name, .int .i64 t.kids[i].ann.n, akvx, kvx] := hX
   refine lC (oL tK (fun j v hv => hX.cell j v hv) rfl rfl rfl rfl rfl rfl ?_)
   refine lC (oK fo58 rfl rfl rfl (ih _ (gM hik) _ M _ _ hyx Lw (hz.kid (gM hik))) ?_)
   rintro _ w8 ⟨rfl, ew8⟩
   replace hE := ew8.bl hE hB
   replace h2 := h2.Y ew8
   replace hk := hk.Y ew8
   replace hyx := Rep.Y hyx ew8
   replace hax := Rep.Y hax ew8
   replace hkx := hkx.Y ew8
   replace hX := hX.Y ew8
   replace Lw := Lw.Y ew8
   replace hB := ew8.z hB
   refine lP 2 tK rfl ?_
   refine l_splitB 73 _ rfl (fun c13 => ?_) (fun c13 => ?_)
   ·refine lP 16 tK rfl (q1 (cI rfl (q0 (lP 1 tK rfl (q1 (cR (xB (xR (xR (xB (xR (xR (x1_ rfl rfl ?_)))))))))))))
    exact ⟨by rw [hinv, armsL_step hik]; clear ih; first | (rw [dT (show i + 1 < t.kids.length by omega)]; simp_all) | simp_all, hE⟩
   refine lP 1 tK rfl ?_
   refine lC (oD tK (h2.cell 9 _ rfl) rfl rfl rfl rfl rfl ?_)
   refine lP 1 tK rfl ?_
   refine lC (o_ixS tK hk (gE hik) rfl rfl rfl rfl rfl rfl rfl rfl rfl ?_)
   intro eby eoy euy hyy haty
   obtain ⟨akvy, kvy, rfl, opy, nmy, agy, n64y, hay, hky⟩ := tm_open hyy
   replace haty : At M w8 eby eoy [.int .u8 t.kids[i].op, .string t.kids[i].name, .string t.kids[i].arg, .int .i64 t.kids[i].n, .bool t.kids[i].has, .int .u8 t.kids[i].ann.op, .string t.kids[i].ann.name, .int .i64 t.kids[i].ann.n, akvy, kvy] := haty
   refine lP 1 tK rfl ?_
   refine lC (oD tK (haty.cell 0 _ rfl) rfl rfl rfl rfl rfl ?_)
   refine lP 2 tK rfl ?_
   refine lS 81 _ rfl (fun c14 => ?_) (fun c14 => ?_)
   ·refine lP 2 tK rfl ?_
    refine lC (oD tK (h2.cell 9 _ rfl) rfl rfl rfl rfl rfl ?_)
    refine lC (o_len tK hk rfl rfl rfl rfl rfl ?_)
    refine lC (o_ai rfl rfl rfl (by omega) rfl rfl ?_)
    refine lP 3 tK rfl (q1 ?_)
    refine cP _ rfl (fun c15 => ?_) (fun c15 => ?_)
    ·refine q0 (lP 1 tK rfl (q1 (cR (xB (xR (xR (xB (xR (xR (x1_ rfl rfl ?_))))))))))
     exact ⟨by rw [hinv, armsL_step hik]; clear ih; first | (rw [dT (show i + 1 < t.kids.length by omega)]; simp_all) | simp_all, hE⟩
    refine cK (x_blk (xS (cG (lP 1 tK rfl ?_))))
    refine lC (o_ai rfl rfl rfl (by omega) rfl rfl ?_)
    refine lP 1 tK rfl (lN ?_)
    exact x_round (i + 1) (s2 rfl (gN rfl (by omega))) ⟨by omega, by omega, by rw [hinv, armsL_step hik]; clear ih; first | (rw [dF (show ¬ i + 1 < t.kids.length by omega)]; simp_all) | simp_all, h2, hk, Lw, hE, hB⟩ (by omega)
   refine lP 8 tK rfl (q1 (c_ifF rfl (cK (x_blk (xS (cG (lP 1 tK rfl ?_)))))))
   refine lC (o_ai rfl rfl rfl (by omega) rfl rfl ?_)
   refine lP 1 tK rfl (lN ?_)
   exact x_round (i + 1) (s2 rfl (gN rfl (by omega))) ⟨by omega, by omega, by rw [hinv, armsL_step hik]; clear ih; first | (rw [dF (show ¬ i + 1 < t.kids.length by omega)]; simp_all) | simp_all, h2, hk, Lw, hE, hB⟩ (by omega)
  refine c_exit (xE (xE (x_blkE (xS (q0 (lP 1 tK rfl (q1 (cR (xR (x1_ rfl rfl ?_))))))))))
  exact ⟨by rw [hinv, armsL_end (by omega)], hE⟩
 refine cK (xS (cS (q0 (lP 1 tK rfl ?_))))
 refine lC (oD tK (h2.cell 9 _ rfl) rfl rfl rfl rfl rfl ?_)
 refine lC (o_len tK hk rfl rfl rfl rfl rfl ?_)
 refine lP 2 tK rfl (q1 ?_)
 refine c_ifN _ rfl (fun c16 => ?_) (fun c16 => ?_)
 ·refine q0 (lP 1 tK rfl (q1 (cR (xR (x1_ rfl rfl ?_)))))
  have hlen : t.kids.length ≠ countE (partsS t.op) := by rw [← countTo_all (s := (partsS t.op)) (i := i) (by omega)]; omega
  exact ⟨by rw [hhd, dF (by assumption), cond_false, dF hlen]; rfl, hE⟩
 refine cK (xS (cS (q0 (lP 1 tK rfl (q1 (cB ?_))))))
 have hlen : t.kids.length = countE (partsS t.op) := by rw [← countTo_all (s := (partsS t.op)) (i := i) (by omega)]; omega
 have hall : refT t arm = allL (refL (t.kids.drop 0)) := by
  rw [hhd, dF (by assumption), cond_false, dT hlen]; rfl
 have hcte : countTo (partsS t.op) i = t.kids.length := by rw [hlen, countTo_all (by omega)]
 have hgo : (countTo (partsS t.op) i : Int) = (t.kids.length : Int) := by omega
 refine c_loop (X := Nat) (fun j => [(2, .pointer (some ⟨b2, 0, none⟩)), (6, .int .i64 (t.kids.length : Int)), (9, .int .i64 (j : Nat))]) (fun j w' => j ≤ t.kids.length ∧ refT t arm = allL (refL (t.kids.drop j)) ∧ At M w' b2 0 [.int .u8 t.op, .string t.name, .string t.arg, .int .i64 t.n, .bool t.has, .int .u8 t.ann.op, .string t.ann.name, .int .i64 t.ann.n, akv, kv] ∧ Sl M w' kv t.kids ∧ Low M w' ∧ Below w.heap.size w w' ∧ w.heap.size ≤ w'.heap.size) (fun j => t.kids.length - j) (0) (s3 rfl (gN rfl hgo) rfl) ?_ ?_
 ·exact ⟨Nat.zero_le _, hall, h2, hk, Lw, hE, hB⟩
 clear h2 hk Lw hE hB
 rintro j w9 ⟨hj, hinv, h2, hk, Lw, hE, hB⟩
 refine cS (q0 (lP 3 tK rfl (q1 ?_)))
 refine cP _ rfl (fun c17 => ?_) (fun c17 => ?_)
 ·refine cK (xS (cS (cB (q0 (lP 1 tK rfl ?_)))))
  refine lC (oD tK (h2.cell 9 _ rfl) rfl rfl rfl rfl rfl ?_)
  refine lP 1 tK rfl ?_
  have hjk : j < t.kids.length := by omega
  refine lC (o_ixS tK hk (gE hjk) rfl rfl rfl rfl rfl rfl rfl rfl rfl ?_)
  intro ebx eox eux hyx hX
  obtain ⟨akvx, kvx, rfl, opx, nmx, agx, n64x, hax, hkx⟩ := tm_open hyx
  replace hX : At M w9 ebx eox [.int .u8 t.kids[j].op, .string t.kids[j].name, .string t.kids[j].arg, .int .i64 t.kids[j].n, .bool t.kids[j].has, .int .u8 t.kids[j].ann.op, .string t.kids[j].ann.name, .int .i64 t.kids[j].ann.n, akvx, kvx] := hX
  refine lC (oL tK (fun j v hv => hX.cell j v hv) rfl rfl rfl rfl rfl rfl ?_)
  refine lC (oK fo58 rfl rfl rfl (ih _ (gM hjk) _ M _ _ hyx Lw (hz.kid (gM hjk))) ?_)
  rintro _ w10 ⟨rfl, ew10⟩
  replace hE := ew10.bl hE hB
  replace h2 := h2.Y ew10
  replace hk := hk.Y ew10
  replace hyx := Rep.Y hyx ew10
  replace hax := Rep.Y hax ew10
  replace hkx := hkx.Y ew10
  replace hX := hX.Y ew10
  replace Lw := Lw.Y ew10
  replace hB := ew10.z hB
  refine lP 1 tK rfl (q1 ?_)
  refine c_ifB _ rfl (fun c18 => ?_) (fun c18 => ?_)
  ·refine q0 (lP 1 tK rfl (q1 (cR (xB (xR (xR (xB (xR (x1_ rfl rfl ?_)))))))))
   exact ⟨by rw [hinv, allL_step hjk]; clear ih; simp_all, hE⟩
  refine cK (x_blk (xS (cG (lP 1 tK rfl ?_))))
  refine lC (o_ai rfl rfl rfl (by omega) rfl rfl ?_)
  refine lP 1 tK rfl (lN ?_)
  exact x_round (j + 1) (s3 rfl rfl (gN rfl (by omega))) ⟨by omega, by rw [hinv, allL_step hjk]; clear ih; simp_all, h2, hk, Lw, hE, hB⟩ (by omega)
 refine c_exit (xE (xE (x_blkE (xS (q0 (lP 1 tK rfl (q1 (cR (x1_ rfl rfl ?_)))))))))
 exact ⟨by rw [hinv, allL_end (by omega)], hE⟩
theorem refTR_spec (t : Tm) (arm : Bool) (M : Nat → Prop) (w : World) (v : Value) (ht : Rep.R M w v t) (Lw : Low M w) (hz : AnnS t) :
  Calls Try.prog 58 #[v, .bool arm] w (Ret fun r w' => r = .bool (rightT t arm) ∧ Ext w w') := ref_right t arm ▸ refTRight_spec t arm M w v ht Lw hz
theorem alikeM_spec : ∀ (t : Tm) (s : Tm) (M : Nat → Prop) (w : World) (v u : Value), Rep.R M w v t → Rep.R M w u s → Low M w → Calls Try.prog 59 #[v, u] w (Ret fun r w' => r = .bool (@decide (t = s) (Classical.propDecidable _)) ∧ Ext w w') := by
 refine Tm.ind fun t ih => ?_
 intro s M w v u ht hs Lw
 have hE := Below.refl w.heap.size w
 have hB := lR w.heap.size
 obtain ⟨akv, kv, rfl, op, nm, ag, n64, ha, hk⟩ := tm_open ht
 obtain ⟨akvs, kvs, rfl, ops, nms, ags, n64s, has, hks⟩ := tm_open hs
 have hlt := hk.lt
 refine cN (n := 75) Try.func59 rfl rfl rfl ?_
 refine q0 ?_
 refine lC (o_box rfl rfl rfl ?_)
 intro b1 w1 hb_b1 ew1 h1
 replace h1 : Box _ b1 59 [.int .u8 t.op, .string t.name, .string t.arg, .int .i64 t.n, .bool t.has, .int .u8 t.ann.op, .string t.ann.name, .int .i64 t.ann.n, akv, kv] := h1
 replace h1 := h1.at (nO Lw hb_b1)
 replace hE := ew1.bl hE hB
 replace ht := Rep.Y ht ew1
 replace ha := Rep.Y ha ew1
 replace hk := hk.Y ew1
 replace hs := Rep.Y hs ew1
 replace has := Rep.Y has ew1
 replace hks := hks.Y ew1
 replace Lw := Lw.Y ew1
 replace hB := ew1.z hB
 refine lC (o_box rfl rfl rfl ?_)
 intro b2 w2 hb_b2 ew2 h2
 replace h2 : Box _ b2 59 [.int .u8 s.op, .string s.name, .string s.arg, .int .i64 s.n, .bool s.has, .int .u8 s.ann.op, .string s.ann.name, .int .i64 s.ann.n, akvs, kvs] := h2
 replace h2 := h2.at (nO Lw hb_b2)
 replace hE := ew2.bl hE hB
 replace ht := Rep.Y ht ew2
 replace ha := Rep.Y ha ew2
 replace hk := hk.Y ew2
 replace hs := Rep.Y hs ew2
 replace has := Rep.Y has ew2
 replace hks := hks.Y ew2
 replace h1 := h1.Y ew2
 replace Lw := Lw.Y ew2
 replace hB := ew2.z hB
 refine lP 1 tK rfl (q1 (cS (q0 (lP 1 tK rfl ?_))))
 refine lC (oD tK (h1.cell 0 _ rfl) rfl rfl rfl rfl rfl ?_)
 refine lP 1 tK rfl ?_
 refine lC (oD tK (h2.cell 0 _ rfl) rfl rfl rfl rfl rfl ?_)
 refine lP 2 tK rfl ?_
 refine l_splitN 11 _ rfl (fun c1 => ?_) (fun c1 => ?_)
 ·refine lP 44 tK rfl (q1 (cI rfl (q0 (lP 1 tK rfl (q1 (cR (xR (x1_ rfl rfl ?_))))))))
  exact ⟨by rw [cl_false (fun e => by subst e; clear ih; first | simp_all | (rw [cl_true rfl] at *; simp_all))], hE⟩
 refine lP 1 tK rfl ?_
 refine lC (oD tK (h1.cell 1 _ rfl) rfl rfl rfl rfl rfl ?_)
 refine lP 1 tK rfl ?_
 refine lC (oD tK (h2.cell 1 _ rfl) rfl rfl rfl rfl rfl ?_)
 refine lP 3 tK rfl ?_
 refine l_splitN 18 _ rfl (fun c2 => ?_) (fun c2 => ?_)
 ·refine lP 37 tK rfl (q1 (cI rfl (q0 (lP 1 tK rfl (q1 (cR (xR (x1_ rfl rfl ?_))))))))
  exact ⟨by rw [cl_false (fun e => by subst e; clear ih; first | simp_all | (rw [cl_true rfl] at *; simp_all))], hE⟩
 refine lP 1 tK rfl ?_
 refine lC (oD tK (h1.cell 2 _ rfl) rfl rfl rfl rfl rfl ?_)
 refine lP 1 tK rfl ?_
 refine lC (oD tK (h2.cell 2 _ rfl) rfl rfl rfl rfl rfl ?_)
 refine lP 3 tK rfl ?_
 refine l_splitN 25 _ rfl (fun c3 => ?_) (fun c3 => ?_)
 ·refine lP 30 tK rfl (q1 (cI rfl (q0 (lP 1 tK rfl (q1 (cR (xR (x1_ rfl rfl ?_))))))))
  exact ⟨by rw [cl_false (fun e => by subst e; clear ih; first | simp_all | (rw [cl_true rfl] at *; simp_all))], hE⟩
 refine lP 1 tK rfl ?_
 refine lC (oD tK (h1.cell 3 _ rfl) rfl rfl rfl rfl rfl ?_)
 refine lP 1 tK rfl ?_
 refine lC (oD tK (h2.cell 3 _ rfl) rfl rfl rfl rfl rfl ?_)
 refine lP 3 tK rfl ?_
 refine l_splitN 32 _ rfl (fun c4 => ?_) (fun c4 => ?_)
 ·refine lP 23 tK rfl (q1 (cI rfl (q0 (lP 1 tK rfl (q1 (cR (xR (x1_ rfl rfl ?_))))))))
  exact ⟨by rw [cl_false (fun e => by subst e; clear ih; first | simp_all | (rw [cl_true rfl] at *; simp_all))], hE⟩
 refine lP 1 tK rfl ?_
 refine lC (oD tK (h1.cell 4 _ rfl) rfl rfl rfl rfl rfl ?_)
 refine lP 1 tK rfl ?_
 refine lC (oD tK (h2.cell 4 _ rfl) rfl rfl rfl rfl rfl ?_)
 refine lC (o_bne tK rfl rfl rfl rfl rfl rfl ?_)
 refine lP 2 tK rfl ?_
 refine l_split 39 _ rfl (fun c5 => ?_) (fun c5 => ?_)
 ·refine lP 16 tK rfl (q1 (cI rfl (q0 (lP 1 tK rfl (q1 (cR (xR (x1_ rfl rfl ?_))))))))
  exact ⟨by rw [cl_false (fun e => by subst e; clear ih; first | simp_all | (rw [cl_true rfl] at *; simp_all))], hE⟩
 refine lP 1 tK rfl ?_
 refine lC (oL tK (fun j v hv => (h1).mid 5 (sub := [.int .u8 t.ann.op, .string t.ann.name, .int .i64 t.ann.n, akv]) rfl j v hv) rfl rfl rfl rfl rfl rfl ?_)
 refine lP 1 tK rfl ?_
 refine lC (oL tK (fun j v hv => (h2).mid 5 (sub := [.int .u8 s.ann.op, .string s.ann.name, .int .i64 s.ann.n, akvs]) rfl j v hv) rfl rfl rfl rfl rfl rfl ?_)
 refine lC (oK fo22 rfl rfl rfl (alike_spec _ _ M _ _ _ ha has Lw) ?_)
 rintro _ w3 ⟨rfl, ew3⟩
 replace hE := ew3.bl hE hB
 replace ht := Rep.Y ht ew3
 replace ha := Rep.Y ha ew3
 replace hk := hk.Y ew3
 replace hs := Rep.Y hs ew3
 replace has := Rep.Y has ew3
 replace hks := hks.Y ew3
 replace h1 := h1.Y ew3
 replace h2 := h2.Y ew3
 replace Lw := Lw.Y ew3
 replace hB := ew3.z hB
 refine lP 3 tK rfl ?_
 refine l_splitB 47 _ rfl (fun c6 => ?_) (fun c6 => ?_)
 ·refine lP 8 tK rfl (q1 (cI rfl (q0 (lP 1 tK rfl (q1 (cR (xR (x1_ rfl rfl ?_))))))))
  exact ⟨by rw [cl_false (fun e => by subst e; clear ih; first | simp_all | (rw [cl_true rfl] at *; simp_all))], hE⟩
 refine lP 1 tK rfl ?_
 refine lC (oD tK (h1.cell 9 _ rfl) rfl rfl rfl rfl rfl ?_)
 refine lC (o_len tK hk rfl rfl rfl rfl rfl ?_)
 refine lP 1 tK rfl ?_
 refine lC (oD tK (h2.cell 9 _ rfl) rfl rfl rfl rfl rfl ?_)
 refine lC (o_len tK hks rfl rfl rfl rfl rfl ?_)
 refine lP 2 tK rfl (q1 ?_)
 refine c_ifN _ rfl (fun c7 => ?_) (fun c7 => ?_)
 ·refine q0 (lP 1 tK rfl (q1 (cR (xR (x1_ rfl rfl ?_)))))
  exact ⟨by rw [cl_false (fun e => by subst e; clear ih; first | simp_all | (rw [cl_true rfl] at *; simp_all))], hE⟩
 refine cK (xS (cS (q0 (lP 1 tK rfl (q1 (cB ?_))))))
 have hop : t.op = s.op := by assumption
 have hnm : t.name = s.name := by assumption
 have hag : t.arg = s.arg := by assumption
 have hnn : t.n = s.n := by assumption
 have hhs : t.has = s.has := by clear ih; simp_all
 have han : t.ann = s.ann := cl_of (by clear ih; simp_all)
 have hll : t.kids.length = s.kids.length := by omega
 refine c_loop (X := Nat) (fun i => [(2, .pointer (some ⟨b1, 0, none⟩)), (3, .pointer (some ⟨b2, 0, none⟩)), (5, .int .i64 (i : Nat))]) (fun i w' => i ≤ t.kids.length ∧ t.kids.take i = s.kids.take i ∧ At M w' b1 0 [.int .u8 t.op, .string t.name, .string t.arg, .int .i64 t.n, .bool t.has, .int .u8 t.ann.op, .string t.ann.name, .int .i64 t.ann.n, akv, kv] ∧ At M w' b2 0 [.int .u8 s.op, .string s.name, .string s.arg, .int .i64 s.n, .bool s.has, .int .u8 s.ann.op, .string s.ann.name, .int .i64 s.ann.n, akvs, kvs] ∧ Sl M w' kv t.kids ∧ Sl M w' kvs s.kids ∧ Low M w' ∧ Below w.heap.size w w' ∧ w.heap.size ≤ w'.heap.size) (fun i => t.kids.length - i) (0) (s3 rfl rfl rfl) ?_ ?_
 ·exact ⟨Nat.zero_le _, rfl, h1, h2, hk, hks, Lw, hE, hB⟩
 clear h1 h2 ht hs ha has hk hks Lw hE hB
 rintro i w4 ⟨hi, htake, h1, h2, hk, hks, Lw, hE, hB⟩
 refine cS (q0 (lP 2 tK rfl ?_))
 refine lC (oD tK (h1.cell 9 _ rfl) rfl rfl rfl rfl rfl ?_)
 refine lC (o_len tK hk rfl rfl rfl rfl rfl ?_)
 refine lP 1 tK rfl (q1 ?_)
 refine cP _ rfl (fun c8 => ?_) (fun c8 => ?_)
 ·refine cK (xS (cS (cB (cS ?_))))
  refine a_beg Ext rfl ?_
  intro w5 ew5
  replace hE := ew5.bl hE hB
  replace h1 := h1.Y ew5
  replace h2 := h2.Y ew5
  replace hk := hk.Y ew5
  replace hks := hks.Y ew5
  replace Lw := Lw.Y ew5
  replace hB := ew5.z hB
  have hS : Ext w5 w5 := ext_refl _
  have D_h1 := h1
  have D_h2 := h2
  have D_hk := hk
  have D_hks := hks
  refine a_p 0 tK rfl rfl rfl rfl (by kernel_rfl) i3 hS ?_
  refine a_ld 1 tK (fun _ hs => (D_h1.Y hs).cell 9 _ rfl) rfl rfl rfl rfl rfl rfl (by kernel_rfl) i3 hS ?_
  refine a_p 2 tK rfl rfl rfl rfl (by kernel_rfl) i3 hS ?_
  have hik : i < t.kids.length := by omega
  have hiks : i < s.kids.length := by omega
  refine a_ixS 3 tK D_hk (gE hik) rfl rfl rfl rfl rfl rfl rfl rfl rfl rfl (by kernel_rfl) i4 hS ?_
  intro ebx eox eux hyx hX
  obtain ⟨akvx, kvx, rfl, opx, nmx, agx, n64x, hax, hkx⟩ := tm_open hyx
  replace hX : At M w5 ebx eox [.int .u8 t.kids[i].op, .string t.kids[i].name, .string t.kids[i].arg, .int .i64 t.kids[i].n, .bool t.kids[i].has, .int .u8 t.kids[i].ann.op, .string t.kids[i].ann.name, .int .i64 t.kids[i].ann.n, akvx, kvx] := hX
  refine a_lds 4 tK (fun _ hs j v hv => (hX.Y hs).cell j v hv) rfl rfl rfl rfl rfl rfl rfl (by kernel_rfl) i3 hS ?_
  refine a_p 5 tK rfl rfl rfl rfl (by kernel_rfl) i3 hS ?_
  refine a_ld 6 tK (fun _ hs => (D_h2.Y hs).cell 9 _ rfl) rfl rfl rfl rfl rfl rfl (by kernel_rfl) i3 hS ?_
  refine a_p 7 tK rfl rfl rfl rfl (by kernel_rfl) i3 hS ?_
  refine a_ixS 8 tK D_hks (gE hiks) rfl rfl rfl rfl rfl rfl rfl rfl rfl rfl (by kernel_rfl) i4 hS ?_
  intro eby eoy euy hyy haty
  obtain ⟨akvy, kvy, rfl, opy, nmy, agy, n64y, hay, hky⟩ := tm_open hyy
  replace haty : At M w5 eby eoy [.int .u8 s.kids[i].op, .string s.kids[i].name, .string s.kids[i].arg, .int .i64 s.kids[i].n, .bool s.kids[i].has, .int .u8 s.kids[i].ann.op, .string s.kids[i].ann.name, .int .i64 s.kids[i].ann.n, akvy, kvy] := haty
  refine a_lds 9 tK (fun _ hs j v hv => (haty.Y hs).cell j v hv) rfl rfl rfl rfl rfl rfl rfl (by kernel_rfl) i3 hS ?_
  refine a_bar 10 rfl (by kernel_rfl) (by kernel_rfl) (oK fo59 rfl rfl rfl (ih _ (gM hik) _ _ _ _ _ hyx hyy Lw) ?_)
  rintro _ w6 ⟨rfl, ew6⟩
  replace hS := hS.then ew6
  replace hE := ew6.bl hE hB
  replace h1 := h1.Y ew6
  replace h2 := h2.Y ew6
  replace hk := hk.Y ew6
  replace hks := hks.Y ew6
  replace hyx := Rep.Y hyx ew6
  replace hax := Rep.Y hax ew6
  replace hkx := hkx.Y ew6
  replace hX := hX.Y ew6
  replace hyy := Rep.Y hyy ew6
  replace hay := Rep.Y hay ew6
  replace hky := hky.Y ew6
  replace haty := haty.Y ew6
  replace Lw := Lw.Y ew6
  replace hB := ew6.z hB
  refine a_p 11 tK rfl rfl rfl rfl (by kernel_rfl) i3 hS ?_
  refine a_end (by kernel_rfl) ?_
  refine xS ?_
  refine c_ifB _ rfl (fun c9 => ?_) (fun c9 => ?_)
  ·refine q0 (lP 1 tK rfl (q1 (cR (xB (xR (xR (xB (xR (x1_ rfl rfl ?_)))))))))
   exact ⟨by rw [cl_false (fun e => by subst e; exact absurd rfl (cl_not c9))], hE⟩
  refine cK (x_blk (xS (cG (lP 1 tK rfl ?_))))
  refine lC (o_ai rfl rfl rfl (by omega) rfl rfl ?_)
  refine lP 1 tK rfl (lN ?_)
  exact x_round (i + 1) (s3 rfl rfl rfl) ⟨by omega, takeM_same hik hiks htake (cl_of (by simpa using c9)), h1, h2, hk, hks, Lw, hE, hB⟩ (by omega)
 refine c_exit (xE (xE (x_blkE (xS (q0 (lP 1 tK rfl (q1 (cR (x1_ rfl rfl ?_)))))))))
 exact ⟨by rw [cl_true (Tm.ext' hop hnm hag hnn hhs han (takeM_full (by omega) hll htake))], hE⟩
open Go Rw Go.RowKit
set_option maxRecDepth 100000
def aszTo (t : Tm) (i : Nat) : Nat := (((nodesL t).take i).map fun x => psz x.ann).sum
theorem aszTo_all {t : Tm} : aszTo t (nsz t) = asz t := by
 unfold aszTo asz
 rw [List.take_of_length_le (show (nodesL t).length ≤ nsz t from lR _)]
theorem aszTo_step {t : Tm} {i : Nat} (h : i < (nodesL t).length) : aszTo t (i + 1) = aszTo t i + psz (nodesL t)[i].ann := by
 unfold aszTo
 rw [List.take_succ_eq_append_getElem h, List.map_append, List.sum_append]
 simp
theorem aszTo_le (t : Tm) (i : Nat) : aszTo t i ≤ asz t := by
 have h : asz t = aszTo t i + (((nodesL t).drop i).map fun x => psz x.ann).sum := by
  unfold asz aszTo
  rw [← List.sum_append, ← List.map_append, List.take_append_drop]
 omega
theorem nodes_spec : ∀ (t : Tm) (M : Nat → Prop) (w : World) (v : Value), Rep.R M w v t → Low M w → nsz t ≤ 2000000 → Calls Try.prog 86 #[v] w (Ret fun r w' => Sl M w' r (nodesL t) ∧ Ext w w') := by
 refine Tm.ind fun t ih => ?_
 intro M w v ht hlow0 hsz
 have Lw := hlow0
 have hB := lR w.heap.size
 have hE := Below.refl w.heap.size w
 have hsub : ∀ b, M b → M b := fun _ h => h
 obtain ⟨akv, kv, rfl, op, nm, ag, n64, ha, hk⟩ := tm_open ht
 have hps := nsz_eq t
 have hkl := len_nsz t.kids
 refine cN (n := 23) Try.func86 rfl rfl rfl ?_
 refine q0 ?_
 refine lC (o_box rfl rfl rfl ?_)
 intro b1 w1 hb_b1 ew1 h1
 replace h1 : Box _ b1 59 [.int .u8 t.op, .string t.name, .string t.arg, .int .i64 t.n, .bool t.has, .int .u8 t.ann.op, .string t.ann.name, .int .i64 t.ann.n, akv, kv] := h1
 replace h1 := h1.at (nO Lw hb_b1)
 replace hE := ew1.bl hE hB
 replace ht := Rep.Y ht ew1
 replace ha := Rep.Y ha ew1
 replace hk := hk.Y ew1
 replace Lw := Lw.Y ew1
 replace hB := ew1.z hB
 refine lP 1 tK rfl (q1 (q0 ?_))
 refine lC (oL tK (fun j v hv => h1.cell j v hv) rfl rfl rfl rfl rfl rfl ?_)
 refine lC (o_bs tK rfl rfl rfl rfl rfl rfl rfl (sz1 rfl) rfl rfl rfl ?_)
 intro bw2 w2 qbw2 ew2 hbw2
 have sw2 := Stp.add ew2 Lw hB (lQ qbw2.symm) hbw2.lt
 have le_bw2 := hB
 replace hE := hE.trans sw2.below
 replace ht := Rep.sp ht sw2
 replace ha := Rep.sp ha sw2
 replace hk := hk.sp sw2
 replace h1 := h1.sp sw2
 replace hsub := sw2.sb hsub
 replace Lw := sw2.low
 replace hB := sw2.z hB
 have ho := own_litS sw2 hbw2 (show Rs _ _ [_] [t] from ⟨ht, trivial⟩) qbw2 le_bw2 (by simp [maxLen])
 refine lP 1 tK rfl (q1 (cS (q0 (lP 1 tK rfl (q1 (cB ?_))))))
 refine c_loop3 (X := Nat) (Y := Value) (Z := Nat → Prop) (fun i v M1 => [(1, .pointer (some ⟨b1, 0, none⟩)), (3, v), (4, .int .i64 (i : Nat))]) (fun i v M1 w' => i ≤ t.kids.length ∧ OwnSl 59 w.heap.size M1 w' v (t :: (t.kids.take i).flatMap nodesL) ∧ At M1 w' b1 0 [.int .u8 t.op, .string t.name, .string t.arg, .int .i64 t.n, .bool t.has, .int .u8 t.ann.op, .string t.ann.name, .int .i64 t.ann.n, akv, kv] ∧ Sl M1 w' kv t.kids ∧ Low M1 w' ∧ (∀ b, M b → M1 b) ∧ Below w.heap.size w w' ∧ w.heap.size ≤ w'.heap.size) (fun i v M1 => t.kids.length - i) (0) (.slice (some ⟨bw2, 0, none⟩) 1 1) ((Rw.Add M bw2)) (s3 rfl rfl rfl) ?_ ?_
 ·exact ⟨Nat.zero_le _, ho, h1, hk, Lw, hsub, hE, hB⟩
 clear ho h1 ht ha hk Lw hsub hE hB
 rintro i v M1 w3 ⟨hi, ho, h1, hk, Lw, hsub, hE, hB⟩
 refine cS (q0 (lP 2 tK rfl ?_))
 refine lC (oD tK (h1.cell 9 _ rfl) rfl rfl rfl rfl rfl ?_)
 refine lC (o_len tK hk rfl rfl rfl rfl rfl ?_)
 refine lP 1 tK rfl (q1 ?_)
 refine cP _ rfl (fun c1 => ?_) (fun c1 => ?_)
 ·refine cK (xS (cS (cB (cG (lP 2 tK rfl ?_)))))
  refine lC (oD tK (h1.cell 9 _ rfl) rfl rfl rfl rfl rfl ?_)
  refine lP 1 tK rfl ?_
  have hik : i < t.kids.length := by omega
  have hp1 := nsz_get hik
  have hp2 := take_nsz t.kids i
  refine lC (o_ixS tK hk (gE hik) rfl rfl rfl rfl rfl rfl rfl rfl rfl ?_)
  intro ebx eox eux hyx hX
  obtain ⟨akvx, kvx, rfl, opx, nmx, agx, n64x, hax, hkx⟩ := tm_open hyx
  replace hX : At M1 w3 ebx eox [.int .u8 t.kids[i].op, .string t.kids[i].name, .string t.kids[i].arg, .int .i64 t.kids[i].n, .bool t.kids[i].has, .int .u8 t.kids[i].ann.op, .string t.kids[i].ann.name, .int .i64 t.kids[i].ann.n, akvx, kvx] := hX
  refine lC (oL tK (fun j v hv => hX.cell j v hv) rfl rfl rfl rfl rfl rfl ?_)
  refine lC (oK fo86 rfl rfl rfl (ih _ (gM hik) _ _ _ hyx Lw (by omega)) ?_)
  rintro vhr w4 ⟨hr, ew4⟩
  replace ho := ho.Y Lw hB ew4
  replace hE := ew4.bl hE hB
  replace h1 := h1.Y ew4
  replace hk := hk.Y ew4
  replace hyx := Rep.Y hyx ew4
  replace hax := Rep.Y hax ew4
  replace hkx := hkx.Y ew4
  replace hX := hX.Y ew4
  replace Lw := Lw.Y ew4
  replace hB := ew4.z hB
  have e1 : (t :: (t.kids.take i).flatMap nodesL).length = nszs (t.kids.take i) + 1 := rfl
  have e2 : (nodesL t.kids[i]).length = nsz t.kids[i] := rfl
  have e3 := take_nsz t.kids (i + 1)
  rw [nszs_take hik] at e3
  refine lC (o_app tK ho hr Lw hB rfl rfl rfl rfl rfl rfl rfl (by omega) (by rw [e1, e2]; show _ * 136 ≤ _; omega) rfl rfl ?_)
  intro vw5 w5 Mw5 hw5 sw5 frw5 blw5
  replace hE := hE.trans sw5.below
  replace h1 := h1.sp sw5
  replace hk := hk.sp sw5
  replace hyx := Rep.sp hyx sw5
  replace hax := Rep.sp hax sw5
  replace hkx := hkx.sp sw5
  replace hX := hX.sp sw5
  replace hr := hr.sp sw5
  replace hsub := sw5.sb hsub
  replace Lw := sw5.low
  replace hB := sw5.z hB
  replace ho := hw5
  clear hw5
  refine lP 1 tK rfl (q2 (xS (cG (lP 1 tK rfl ?_))))
  refine lC (o_ai rfl rfl rfl (by omega) rfl rfl ?_)
  refine lP 1 tK rfl (lN ?_)
  exact x_round3 (i + 1) (vw5) (Mw5) (s3 rfl rfl rfl) ⟨by omega, by rw [ntake_step hik]; exact ho, h1, hk, Lw, hsub, hE, hB⟩ (by omega)
 refine c_exit (xE (xE (x_blkE (xS (q0 (lP 2 tK rfl (q1 (cR (x1_ rfl rfl ?_)))))))))
 obtain rfl : i = t.kids.length := by omega
 rw [List.take_of_length_le (lR _), ← nodesL_eq] at ho
 exact ⟨ho.sl (by have : (nodesL t).length = nsz t := rfl; omega) hlow0 hsub, hE⟩
theorem large_spec (t : Tm) (M : Nat → Prop) (w : World) (v : Value) (ht : Rep.R M w v t) (Lw : Low M w) (hz : AnnS t) (hn : nsz t ≤ 2000000) (has : asz t ≤ 2000000) :
  Calls Try.prog 56 #[v] w (Ret fun r w' => r = .bool (decide ((300 : Int) < (nsz t : Int)) || decide ((900 : Int) < (asz t : Int))) ∧ Ext w w') := by
 have hE := Below.refl w.heap.size w
 have hB := lR w.heap.size
 obtain ⟨akv, kv, rfl, op, nm, ag, n64, ha, hk⟩ := tm_open ht
 refine cN (n := 30) Try.func56 rfl rfl rfl ?_
 refine q0 ?_
 refine lC (o_box rfl rfl rfl ?_)
 intro b3 w1 hb_b3 ew1 h3
 replace h3 : Box _ b3 59 [.int .u8 t.op, .string t.name, .string t.arg, .int .i64 t.n, .bool t.has, .int .u8 t.ann.op, .string t.ann.name, .int .i64 t.ann.n, akv, kv] := h3
 replace h3 := h3.at (nO Lw hb_b3)
 replace hE := ew1.bl hE hB
 replace ht := Rep.Y ht ew1
 replace ha := Rep.Y ha ew1
 replace hk := hk.Y ew1
 replace Lw := Lw.Y ew1
 replace hB := ew1.z hB
 refine lP 1 tK rfl (q1 (q0 ?_))
 refine lC (oL tK (fun j v hv => h3.cell j v hv) rfl rfl rfl rfl rfl rfl ?_)
 refine lC (oK fo86 rfl rfl rfl (nodes_spec t M _ _ ht Lw hn) ?_)
 rintro vhl w2 ⟨hl, ew2⟩
 replace hE := ew2.bl hE hB
 replace ht := Rep.Y ht ew2
 replace ha := Rep.Y ha ew2
 replace hk := hk.Y ew2
 replace h3 := h3.Y ew2
 replace Lw := Lw.Y ew2
 replace hB := ew2.z hB
 have hll : (nodesL t).length = nsz t := rfl
 refine lP 1 tK rfl (q1 (q0 (lP 1 tK rfl (q1 (cS (q0 (lP 1 tK rfl (q1 (cB ?_)))))))))
 refine c_loop (X := Nat) (fun i => [(3, vhl), (4, .int .i64 (aszTo t i : Nat)), (5, .int .i64 (i : Nat))]) (fun i w' => i ≤ nsz t ∧ Sl M w' vhl (nodesL t) ∧ Low M w' ∧ Below w.heap.size w w' ∧ w.heap.size ≤ w'.heap.size) (fun i => nsz t - i) (0) (s3 rfl rfl rfl) ?_ ?_
 ·exact ⟨Nat.zero_le _, hl, Lw, hE, hB⟩
 clear hl h3 ht ha hk Lw hE hB
 rintro i w3 ⟨hi, hl, Lw, hE, hB⟩
 have hat := aszTo_le t i
 refine cS (q0 (lP 2 tK rfl ?_))
 refine lC (o_len tK hl rfl rfl rfl rfl rfl ?_)
 refine lP 1 tK rfl (q1 ?_)
 refine cP _ rfl (fun c1 => ?_) (fun c1 => ?_)
 ·refine cK (xS (cS (cB (cG (lP 3 tK rfl ?_)))))
  have hik : i < (nodesL t).length := by omega
  have hpa := hz _ (gM hik)
  have hst := aszTo_step hik
  have hat2 := aszTo_le t (i + 1)
  refine lC (o_ixS tK hl (gE hik) rfl rfl rfl rfl rfl rfl rfl rfl rfl ?_)
  intro ebx eox eux hyx hX
  obtain ⟨akvx, kvx, rfl, opx, nmx, agx, n64x, hax, hkx⟩ := tm_open hyx
  replace hX : At M w3 ebx eox [.int .u8 (nodesL t)[i].op, .string (nodesL t)[i].name, .string (nodesL t)[i].arg, .int .i64 (nodesL t)[i].n, .bool (nodesL t)[i].has, .int .u8 (nodesL t)[i].ann.op, .string (nodesL t)[i].ann.name, .int .i64 (nodesL t)[i].ann.n, akvx, kvx] := hX
  refine lP 1 tK rfl ?_
  refine lC (oL tK (fun j v hv => (hX).mid 5 (sub := [.int .u8 (nodesL t)[i].ann.op, .string (nodesL t)[i].ann.name, .int .i64 (nodesL t)[i].ann.n, akvx]) rfl j v hv) rfl rfl rfl rfl rfl rfl ?_)
  refine lC (oK fo21 rfl rfl rfl (parts_spec _ M _ _ hax Lw hpa) ?_)
  rintro vhpt w4 ⟨hpt, ew4⟩
  replace hE := ew4.bl hE hB
  replace hl := hl.Y ew4
  replace hyx := Rep.Y hyx ew4
  replace hax := Rep.Y hax ew4
  replace hkx := hkx.Y ew4
  replace hX := hX.Y ew4
  replace Lw := Lw.Y ew4
  replace hB := ew4.z hB
  have hpl : (partsL (nodesL t)[i].ann).length = psz (nodesL t)[i].ann := rfl
  refine lC (o_len tK hpt rfl rfl rfl rfl rfl ?_)
  refine lC (o_ai rfl rfl rfl (by omega) rfl rfl ?_)
  refine lP 1 tK rfl (q2 (xS (cG (lP 1 tK rfl ?_))))
  refine lC (o_ai rfl rfl rfl (by omega) rfl rfl ?_)
  refine lP 1 tK rfl (lN ?_)
  exact x_round (i + 1) (s3 rfl (gN rfl (by rw [aszTo_step hik]; rfl)) (gN rfl (by omega))) ⟨by omega, hl, Lw, hE, hB⟩ (by omega)
 refine c_exit (xE (xE (x_blkE (xS (q0 (lP 1 tK rfl ?_))))))
 refine lC (o_len tK hl rfl rfl rfl rfl rfl ?_)
 refine lP 2 tK rfl ?_
 obtain rfl : i = nsz t := by omega
 rw [aszTo_all]
 refine lS 26 _ rfl (fun c2 => ?_) (fun c2 => ?_)
 ·refine lP 4 tK rfl (q1 (cR (x1_ rfl rfl ?_)))
  exact ⟨by rw [dT (show (300 : Int) < (nsz t : Int) by omega)]; rfl, hE⟩
 refine lP 4 tK rfl (q1 (cR (x1_ rfl rfl ?_)))
 exact ⟨by rw [dF (show ¬ (300 : Int) < (nsz t : Int) by omega), Bool.false_or], hE⟩
end Go.Proofs.Ytpoahmeacjggfaa
namespace Rw
open Go Go.RowKit
/-- The value is the expression; all its blocks are in F (rows of A's: its annotations', of E's: its kids', from B on). -/
inductive OTm (A E B : Nat) (w : World) : Tm → Value → (Nat → Prop) → Prop
  | mk {op n : Int} {name arg : ByteArray} {has : Bool} {ann : Ty} {kids : List Tm} {akv kv : Value} (us : List (VN 9)) (Fs : Nat → Nat → Prop) (FA F : Nat → Prop)
      (hop : 0 ≤ op ∧ op ≤ 255) (hs : name.size < 140737488355328) (hg : arg.size < 140737488355328) (hn : I64 n) (hann : OTy A B w ann (.agg #[.int .u8 ann.op, .string ann.name, .int .i64 ann.n, akv]) FA) (hl : kids.length < 140737488355328)
      (hlt : ∀ c, F c → B ≤ c ∧ c < w.heap.size) (hr : OwnSl E B F w kv us) (hlen : us.length = kids.length)
      (hu : ∀ (i : Nat) (x : Tm) (u : VN 9), kids[i]? = some x → us[i]? = some u → OTm A E B w x u.v (Fs i))
      (hF : ∀ i c, i < kids.length → Fs i c → F c ∧ kv.ownBlock ≠ some c)
      (hd : ∀ i j c, i < kids.length → j < kids.length → i ≠ j → Fs i c → ¬ Fs j c)
      (hA : ∀ c, FA c → F c ∧ kv.ownBlock ≠ some c ∧ ∀ i, i < kids.length → ¬ Fs i c) :
      OTm A E B w (.mk op name arg n has ann kids) (.agg #[.int .u8 op, .string name, .string arg, .int .i64 n, .bool has, .int .u8 ann.op, .string ann.name, .int .i64 ann.n, akv, kv]) F
/-- Trees, one by one, that share nothing. -/
structure OMs (A E B : Nat) (w : World) (us : List (VN 9)) (ts : List Tm) (F : Nat → Prop) : Prop where
  len : us.length = ts.length
  lt : ∀ c, F c → B ≤ c ∧ c < w.heap.size
  fam : ∃ Fs : Nat → Nat → Prop, (∀ (i : Nat) (x : Tm) (u : VN 9), ts[i]? = some x → us[i]? = some u → OTm A E B w x u.v (Fs i)) ∧ (∀ i c, i < ts.length → Fs i c → F c) ∧
    (∀ i j c, i < ts.length → j < ts.length → i ≠ j → Fs i c → ¬ Fs j c)
section
variable {A E B B' : Nat} {w w' : World} {t x : Tm} {v : Value} {us : List (VN 9)} {ts : List Tm} {F F' G G' : Nat → Prop} {M M' : Nat → Prop}
theorem otm_open (h : OTm A E B w t v F) : ∃ (akv kv : Value) (us : List (VN 9)) (H FA : Nat → Prop), v = .agg #[.int .u8 t.op, .string t.name, .string t.arg, .int .i64 t.n, .bool t.has, .int .u8 t.ann.op, .string t.ann.name, .int .i64 t.ann.n, akv, kv] ∧
    OTy A B w t.ann (.agg #[.int .u8 t.ann.op, .string t.ann.name, .int .i64 t.ann.n, akv]) FA ∧ t.kids.length < 140737488355328 ∧
    OwnSl E B F w kv us ∧ OMs A E B w us t.kids H ∧ (∀ c, H c → F c ∧ kv.ownBlock ≠ some c) ∧ (∀ c, FA c → F c ∧ kv.ownBlock ≠ some c ∧ ¬ H c) := by
  cases h with
  | mk us Fs FA F hop hs hg hn hann hl hlt hr hlen hu hF hd hA =>
    exact ⟨_, _, us, fun c => ∃ i, i < _ ∧ Fs i c, FA, rfl, hann, hl, hr, ⟨hlen, fun c ⟨i, hi, hc⟩ => hlt c (hF i c hi hc).1, Fs, hu, fun i c hi hc => ⟨i, hi, hc⟩, hd⟩, fun c ⟨i, hi, hc⟩ => hF i c hi hc, fun c hc => ⟨(hA c hc).1, (hA c hc).2.1, fun ⟨i, hi, hf⟩ => (hA c hc).2.2 i hi hf⟩⟩
theorem otm_mk {akv kv : Value} {op n : Int} {name arg : ByteArray} {has : Bool} {ann : Ty} {kids : List Tm} {H FA : Nat → Prop} (h1 : 0 ≤ op ∧ op ≤ 255) (h2 : name.size < 140737488355328) (hg : arg.size < 140737488355328) (h3 : I64 n)
    (hann : OTy A B w ann (.agg #[.int .u8 ann.op, .string ann.name, .int .i64 ann.n, akv]) FA) (h4 : kids.length < 140737488355328) (hlt : ∀ c, F c → B ≤ c ∧ c < w.heap.size)
    (hr : OwnSl E B F w kv us) (hk : OMs A E B w us kids H) (hH : ∀ c, H c → F c ∧ kv.ownBlock ≠ some c) (hA : ∀ c, FA c → F c ∧ kv.ownBlock ≠ some c ∧ ¬ H c) :
    OTm A E B w (.mk op name arg n has ann kids) (.agg #[.int .u8 op, .string name, .string arg, .int .i64 n, .bool has, .int .u8 ann.op, .string ann.name, .int .i64 ann.n, akv, kv]) F := by
  obtain ⟨Fs, h5, h6, h7⟩ := hk.fam
  exact .mk us Fs FA F h1 h2 hg h3 hann h4 hlt hr hk.len h5 (fun i c hi hc => hH c (h6 i c hi hc)) h7 (fun c hc => ⟨(hA c hc).1, (hA c hc).2.1, fun i hi hf => (hA c hc).2.2 (h6 i c hi hf)⟩)
theorem OTm.lt (h : OTm A E B w t v F) : ∀ c, F c → B ≤ c ∧ c < w.heap.size := by
  cases h with
  | mk us Fs FA F hop hs hg hn hann hl hlt => exact hlt
theorem OTm.keepC (h : OTm A E B w t v F) (hs : w.heap.size ≤ w'.heap.size) (hw : ∀ c cs T, F c → w.heap[c]? = some (.cells cs T (0, 0)) → w'.heap[c]? = w.heap[c]?) : OTm A E B w' t v F := by
  induction h with
  | mk us Fs FA F hop hnm hg hn hann hl hlt hr hlen hu hF hd hA ih =>
    exact .mk us Fs FA F hop hnm hg hn (hann.keepC hs fun c cs T hc => hw c cs T (hA c hc).1) hl (fun c hc => ⟨(hlt c hc).1, lT (hlt c hc).2 hs⟩) (hr.keepV hr.inM fun b cs T hb hg => hw b cs T (hr.inM b hb) hg) hlen (fun i x u hx hu' => ih i x u hx hu' fun c cs T hc => hw c cs T (hF i c (List.getElem?_eq_some_iff.1 hx).1 hc).1) hF hd hA
theorem OTm.keep (h : OTm A E B w t v F) (hs : w.heap.size ≤ w'.heap.size) (hw : ∀ c, F c → w'.heap[c]? = w.heap[c]?) : OTm A E B w' t v F := h.keepC hs fun c _ _ hc _ => hw c hc
theorem OTm.Y (h : OTm A E B w t v F) (_hl : Low M w) (_hB : B ≤ w.heap.size) (e : Ext w w') : OTm A E B w' t v F := h.keep e.size fun c hc => e.block c (h.lt c hc).2
theorem OTm.sp (h : OTm A E B w t v F) (s : Stp B' M M' w w') (hw : ∀ c, F c → w'.heap[c]? = w.heap[c]?) : OTm A E B w' t v F := h.keep s.upd.1 hw
theorem OTm.ge (h : OTm A E B w t v F) (hB : B' ≤ B) : OTm A E B' w t v F := by
  induction h with
  | mk us Fs FA F hop hs hg hn hann hl hlt hr hlen hu hF hd hA ih => exact .mk us Fs FA F hop hs hg hn (hann.ge hB) hl (fun c hc => ⟨Nat.le_trans hB (hlt c hc).1, (hlt c hc).2⟩) (hr.geV hB) hlen ih hF hd hA
theorem OTm.size (h : OTm A E B w t v F) : v.cells.size = 10 := by cases h; rfl
theorem OTm.rep (h : OTm A E B w t v F) (hM : ∀ c, F c → ¬ M c) : Rep.R M w v t := by
  induction h with
  | mk us Fs FA F hop hs hg hn hann hl hlt hr hlen hu hF hd hA ih =>
    exact tm_mk hop hs hg hn (hann.rep fun c hc => hM c (hA c hc).1) ((hr.slV (M0 := M) (by omega) (fun b hb => hM b (hr.inM b hb))).ofV (k := 9) rfl hlen fun i x u hx hu' => ih i x u hx hu' fun c hc => hM c (hF i c (List.getElem?_eq_some_iff.1 hx).1 hc).1)
theorem OTm.one (h : OTm A E B w t v F) : ∀ u ∈ v.cells.toList, u.oneCell' = true := Rep.one (h.rep (M := NoM) fun _ _ h => h)
theorem OTm.vn (h : OTm A E B w t v F) : Rep.R M w' v (⟨v⟩ : VN 9) := ⟨rfl, h.size, h.one⟩
theorem oms_nil (hlt : ∀ c, F c → B ≤ c ∧ c < w.heap.size) : OMs A E B w [] [] F := ⟨rfl, hlt, fun _ _ => False, fun i x u h => by simp at h, fun i c h => by simp at h, fun i j c h => by simp at h⟩
theorem OMs.keepC (h : OMs A E B w us ts F) (hs : w.heap.size ≤ w'.heap.size) (hw : ∀ c cs T, F c → w.heap[c]? = some (.cells cs T (0, 0)) → w'.heap[c]? = w.heap[c]?) : OMs A E B w' us ts F := by
  obtain ⟨Fs, h5, h6, h7⟩ := h.fam
  exact ⟨h.len, fun c hc => ⟨(h.lt c hc).1, lT (h.lt c hc).2 hs⟩, Fs, fun i x u hx hu => (h5 i x u hx hu).keepC hs fun c cs T hc => hw c cs T (h6 i c (List.getElem?_eq_some_iff.1 hx).1 hc), h6, h7⟩
theorem OMs.keep (h : OMs A E B w us ts F) (hs : w.heap.size ≤ w'.heap.size) (hw : ∀ c, F c → w'.heap[c]? = w.heap[c]?) : OMs A E B w' us ts F := h.keepC hs fun c _ _ hc _ => hw c hc
theorem OMs.Y (h : OMs A E B w us ts F) (_hl : Low M w) (_hB : B ≤ w.heap.size) (e : Ext w w') : OMs A E B w' us ts F := h.keep e.size fun c hc => e.block c (h.lt c hc).2
theorem OMs.sp (h : OMs A E B w us ts F) (s : Stp B' M M' w w') (hw : ∀ c, F c → w'.heap[c]? = w.heap[c]?) : OMs A E B w' us ts F := h.keep s.upd.1 hw
theorem OMs.app (h : OMs A E B w us ts F) (hx : OTm A E B w x v G) (hd : ∀ c, G c → ¬ F c) : OMs A E B w (us ++ [⟨v⟩]) (ts ++ [x]) (fun c => F c ∨ G c) := by
  obtain ⟨Fs, h5, h6, h7⟩ := h.fam
  refine ⟨by simp [h.len], fun c hc => hc.elim (h.lt c) (hx.lt c), fun i c => if i < ts.length then Fs i c else G c, fun i y u hy hu => ?_, fun i c hi hc => ?_, fun i j c hi hj hij hc hc' => ?_⟩
  · by_cases hlt : i < ts.length
    · have hlt' : i < us.length := by rw [h.len]; exact hlt
      rw [List.getElem?_append_left hlt] at hy
      rw [List.getElem?_append_left hlt'] at hu
      simp only [hlt, if_true]
      exact h5 i y u hy hu
    · have h8 := (List.getElem?_eq_some_iff.1 hy).1
      simp only [List.length_append, List.length_singleton] at h8
      obtain rfl : i = ts.length := by omega
      rw [List.getElem?_append_right (lR _)] at hy
      rw [← h.len, List.getElem?_append_right (lR _)] at hu
      simp at hy hu
      subst hy; subst hu
      simpa using hx
  · by_cases hlt : i < ts.length
    · simp only [hlt, if_true] at hc; exact .inl (h6 i c hlt hc)
    · simp only [hlt, if_false] at hc; exact .inr hc
  · simp only [List.length_append, List.length_singleton] at hi hj
    by_cases hlt : i < ts.length
    · simp only [hlt, if_true] at hc
      by_cases hlt' : j < ts.length
      · simp only [hlt', if_true] at hc'; exact h7 i j c hlt hlt' hij hc hc'
      · simp only [hlt', if_false] at hc'; exact hd c hc' (h6 i c hlt hc)
    · simp only [hlt, if_false] at hc
      by_cases hlt' : j < ts.length
      · simp only [hlt', if_true] at hc'; exact hd c hc (h6 j c hlt' hc')
      · omega
/-- .. with number i taken out: its blocks are G. -/
structure OMh (A E B : Nat) (w : World) (us : List (VN 9)) (ts : List Tm) (i : Nat) (F G : Nat → Prop) : Prop where
  len : us.length = ts.length
  at' : i < ts.length
  lt : ∀ c, F c → B ≤ c ∧ c < w.heap.size
  fam : ∃ Fs : Nat → Nat → Prop, (∀ (j : Nat) (x : Tm) (u : VN 9), j ≠ i → ts[j]? = some x → us[j]? = some u → OTm A E B w x u.v (Fs j)) ∧ (∀ j c, j < ts.length → j ≠ i → Fs j c → F c ∧ ¬ G c) ∧
    (∀ j k c, j < ts.length → k < ts.length → j ≠ i → k ≠ i → j ≠ k → Fs j c → ¬ Fs k c)
theorem OMs.take (h : OMs A E B w us ts F) {i : Nat} (hx : ts[i]? = some x) : ∃ (u : VN 9) (G : Nat → Prop), us[i]? = some u ∧ OTm A E B w x u.v G ∧ (∀ c, G c → F c) ∧ OMh A E B w us ts i F G := by
  obtain ⟨Fs, h5, h6, h7⟩ := h.fam
  have hi := (List.getElem?_eq_some_iff.1 hx).1
  have hi' : i < us.length := by rw [h.len]; exact hi
  exact ⟨_, Fs i, gE hi', h5 i x _ hx (gE hi'), fun c hc => h6 i c hi hc, h.len, hi, h.lt, Fs, fun j y u _ hy hu => h5 j y u hy hu, fun j c hj hji hc => ⟨h6 j c hj hc, h7 j i c hj hi hji hc⟩, fun j k c hj hk _ _ hjk => h7 j k c hj hk hjk⟩
theorem OMh.keep {i : Nat} (h : OMh A E B w us ts i F G) (hs : w.heap.size ≤ w'.heap.size) (hw : ∀ c, F c → ¬ G c → w'.heap[c]? = w.heap[c]?) : OMh A E B w' us ts i F G := by
  obtain ⟨Fs, h5, h6, h7⟩ := h.fam
  exact ⟨h.len, h.at', fun c hc => ⟨(h.lt c hc).1, lT (h.lt c hc).2 hs⟩, Fs, fun j y u hj hy hu => (h5 j y u hj hy hu).keep hs fun c hc => have hq := h6 j c (List.getElem?_eq_some_iff.1 hy).1 hj hc; hw c hq.1 hq.2, h6, h7⟩
theorem OMh.Y {i : Nat} (h : OMh A E B w us ts i F G) (_hl : Low M w) (_hB : B ≤ w.heap.size) (e : Ext w w') : OMh A E B w' us ts i F G := h.keep e.size fun c hc _ => e.block c (h.lt c hc).2
theorem OMh.sp {i : Nat} (h : OMh A E B w us ts i F G) (s : Stp B' M M' w w') (hw : ∀ c, F c → ¬ G c → w'.heap[c]? = w.heap[c]?) : OMh A E B w' us ts i F G := h.keep s.upd.1 hw
theorem OMh.put {i : Nat} (h : OMh A E B w us ts i F G) (hx : OTm A E B w x v G') (hG : ∀ c, G' c → G c ∨ ¬ F c) : OMs A E B w (us.set i ⟨v⟩) (ts.set i x) (fun c => F c ∨ G' c) := by
  obtain ⟨Fs, h5, h6, h7⟩ := h.fam
  have hi := h.at'
  have hi' : i < us.length := by rw [h.len]; exact hi
  refine ⟨by simp [h.len], fun c hc => hc.elim (h.lt c) (hx.lt c), fun j c => if j = i then G' c else Fs j c, fun j y u hy hu => ?_, fun j c hj hc => ?_, fun j k c hj hk hjk hc hc' => ?_⟩
  · by_cases e : j = i
    · subst e
      simp [hi] at hy
      simp [hi'] at hu
      subst hy; subst hu
      simpa using hx
    · rw [List.getElem?_set_ne (fun e' => e e'.symm)] at hy hu
      simp only [e, if_false]
      exact h5 j y u e hy hu
  · rw [List.length_set] at hj
    by_cases e : j = i
    · simp only [e, if_true] at hc; exact .inr hc
    · simp only [e, if_false] at hc; exact .inl (h6 j c hj e hc).1
  · rw [List.length_set] at hj hk
    have key : ∀ j c, j < ts.length → j ≠ i → Fs j c → ¬ G' c := fun j c hj hji hc hg => (hG c hg).elim (h6 j c hj hji hc).2 (fun hn => hn (h6 j c hj hji hc).1)
    by_cases e : j = i
    · simp only [e, if_true] at hc
      by_cases e' : k = i
      · omega
      · simp only [e', if_false] at hc'; exact key k c hk e' hc' hc
    · simp only [e, if_false] at hc
      by_cases e' : k = i
      · simp only [e', if_true] at hc'; exact key j c hj e hc hc'
      · simp only [e', if_false] at hc'; exact h7 j k c hj hk e e' hjk hc hc'
theorem otm_fin {w0 : World} {akv kv : Value} {op n : Int} {name arg : ByteArray} {has : Bool} {ann : Ty} {kids : List Tm} {FA : Nat → Prop} (h1 : 0 ≤ op ∧ op ≤ 255) (h2 : name.size < 140737488355328) (hg : arg.size < 140737488355328) (h3 : I64 n) (h4 : kids.length < 140737488355328)
    (hann : OTy A w0.heap.size w ann (.agg #[.int .u8 ann.op, .string ann.name, .int .i64 ann.n, akv]) FA)
    (hr : OwnSl E w0.heap.size M w kv us) (hk : OMs A E w0.heap.size w us kids F) (hd : ∀ x y, kv.ownBlock = some x → F y → x ≠ y) (hd2 : ∀ x y, kv.ownBlock = some x → FA y → x ≠ y) (hd3 : ∀ c, FA c → ¬ F c) :
    OTm A E w0.heap.size w (.mk op name arg n has ann kids) (.agg #[.int .u8 op, .string name, .string arg, .int .i64 n, .bool has, .int .u8 ann.op, .string ann.name, .int .i64 ann.n, akv, kv]) (Plus NoM w0 w) :=
  otm_mk h1 h2 hg h3 hann h4 (fun c hc => hc.elim (fun h => h.elim) id) (hr.keepV (fun b hb => .inr (hr.lt b hb)) fun _ _ _ _ _ => rfl) hk (fun c hc => ⟨.inr (hk.lt c hc), fun e => hd c c e hc rfl⟩) (fun c hc => ⟨.inr (hann.lt c hc), fun e => hd2 c c e hc rfl, hd3 c hc⟩)
end
theorem kidsT_each {op : Int} : ∀ (l : List Tm) (i : Nat), kidsT op i (kidL l) = true → ∀ k ∈ l, ∃ b, rightT k b = true
  | [], _, _, k, hk => by cases hk
  | y :: l, i, h, k, hk => by
    have h' : kidsT op i ((y.op, rightT y) :: kidL l) = true := h
    rw [kidsT] at h'
    simp only [Bool.and_eq_true] at h'
    rcases List.mem_cons.1 hk with rfl | hk
    · exact ⟨_, h'.2.1⟩
    · exact kidsT_each l _ h'.2.2 k hk
theorem right_kids {t : Tm} {b : Bool} (h : rightT t b = true) : (t.op ≠ 48 → (t.kids.length : Int) = (shp t.op).2.2.1) ∧ (∀ k ∈ t.kids, ∃ b', rightT k b' = true) ∧ (32 ≤ t.op ∧ t.op < 52) ∧ (t.op = 48 → 0 < t.kids.length) := by
  rw [rightT_eq] at h
  simp only [Bool.and_eq_true] at h
  obtain ⟨hh, hk⟩ := h
  unfold headT at hh
  simp only [Bool.and_eq_true] at hh
  have hv : ¬ (t.op < 32 ∨ 52 ≤ t.op) := fun e => by rw [shp_no e] at hh; exact absurd hh.1 (by simp)
  have hl := hh.2.2.2.2.2.2
  refine ⟨fun e => ?_, kidsT_each _ _ hk, by omega, fun e => ?_⟩
  · have h1 := ((shp_parts hv).2.2 e).1
    rw [h1, dT (show (0 : Int) ≤ _ by omega)] at hl
    rw [h1]
    simpa using hl
  · rw [e] at hl
    simp [shp] at hl
    exact List.length_pos_iff.2 hl
theorem right_note {t : Tm} {b : Bool} (h : rightT t b = true) : (t.has = true → rightB t.ann = true ∧ varsF t.ann = []) ∧ (t.has = false → t.ann = .mk 0 ⟨#[]⟩ 0 []) := by
  rw [rightT_eq] at h
  simp only [Bool.and_eq_true] at h
  obtain ⟨hh, hk⟩ := h
  unfold headT at hh
  simp only [Bool.and_eq_true] at hh
  obtain ⟨h0, _, hnum, hnote, harg, hname, hkids⟩ := hh
  unfold notedB at hnote
  cases hb : t.has with
  | true =>
    rw [hb] at hnote
    simp only [cond_true, Bool.and_eq_true, decide_eq_true_eq] at hnote
    exact ⟨fun _ => ⟨hnote.2.1, hnote.2.2⟩, fun e => (by cases e)⟩
  | false =>
    rw [hb] at hnote
    simp only [cond_false, Bool.and_eq_true] at hnote
    refine ⟨fun e => (by cases e), fun _ => ?_⟩
    have h2 := hnote.2
    unfold blankB at h2
    simp only [Bool.and_eq_true, decide_eq_true_eq] at h2
    exact Ty.ext' h2.1 h2.2.1 h2.2.2.1 h2.2.2.2
/-- How many bytes an expression takes. -/
def asz1 (t : Tm) : Nat := bif t.has then psz (canonF t.ann) else 0
def usz : Tm → Nat
  | .mk op name arg n has ann kids => (bif has then psz (canonF ann) else 0) + (kids.map usz).sum
theorem usz_eq (t : Tm) : usz t = asz1 t + (t.kids.map usz).sum := by cases t; rw [usz]; rfl
def uszs (l : List Tm) : Nat := (l.map usz).sum
theorem uszs_take {l : List Tm} {i : Nat} (h : i < l.length) : uszs (l.take (i + 1)) = uszs (l.take i) + usz l[i] := by
  unfold uszs
  rw [List.take_succ_eq_append_getElem h, List.map_append, List.sum_append]; simp
def lsM : List (Nat × (List UInt8 → Tm)) → List UInt8 → List Tm
  | [], _ => []
  | (n, g) :: r, b => g b :: lsM r (b.drop n)
/-- An expression loosened. -/
def loosM : Tm → List UInt8 → Tm
  | .mk op name arg n has ann kids => fun b => .mk op name arg n has (bif has then loosF (canonF ann) b else ann) (lsM (kids.map fun k => (usz k, loosM k)) (b.drop (bif has then psz (canonF ann) else 0)))
def loosMK (l : List Tm) (b : List UInt8) : List Tm := lsM (l.map fun k => (usz k, loosM k)) b
theorem loosM_eq (t : Tm) (b : List UInt8) : loosM t b = .mk t.op t.name t.arg t.n t.has (bif t.has then loosF (canonF t.ann) b else t.ann) (loosMK t.kids (b.drop (asz1 t))) := by
  cases t; rw [loosM]; rfl
theorem loosMK_cons (t : Tm) (l : List Tm) (b : List UInt8) : loosMK (t :: l) b = loosM t b :: loosMK l (b.drop (usz t)) := rfl
theorem loosMK_len : ∀ (l : List Tm) (b : List UInt8), (loosMK l b).length = l.length
  | [], _ => rfl
  | t :: l, b => by rw [loosMK_cons, List.length_cons, List.length_cons, loosMK_len l]
theorem loosMK_get : ∀ (l : List Tm) (b : List UInt8) (i : Nat) (hi : i < l.length), (loosMK l b)[i]? = some (loosM l[i] (b.drop (uszs (l.take i))))
  | t :: l, b, 0, _ => by rw [loosMK_cons]; simp [uszs]
  | t :: l, b, i + 1, hi => by
    rw [loosMK_cons, List.getElem?_cons_succ, loosMK_get l _ i (by simpa using hi), List.take_succ_cons, List.drop_drop]
    simp [uszs]
theorem loosMK_at {l : List Tm} {b : List UInt8} {i : Nat} (hi : i < l.length) : (loosMK l b)[i]'(by rw [loosMK_len]; exact hi) = loosM l[i] (b.drop (uszs (l.take i))) := by
  have h := loosMK_get l b i hi
  rw [gE (by rw [loosMK_len]; exact hi)] at h
  injection h
theorem take_loosMK {l : List Tm} {b : List UInt8} {i : Nat} (hi : i < l.length) : (loosMK l b).take (i + 1) = (loosMK l b).take i ++ [loosM l[i] (b.drop (uszs (l.take i)))] := by
  rw [List.take_succ_eq_append_getElem (by rw [loosMK_len]; exact hi), loosMK_at hi]
theorem asz1_le (t : Tm) : asz1 t ≤ psz t.ann := by
  unfold asz1
  cases t.has
  · exact Nat.zero_le _
  · show psz (canonF t.ann) ≤ _
    exact lQ (psz_canon _ t.ann (lR _))
theorem asz_eq (t : Tm) : asz t = psz t.ann + (t.kids.map asz).sum := by
  unfold asz
  rw [nodesL_eq, List.map_cons, List.sum_cons]
  congr 1
  induction t.kids with
  | nil => rfl
  | cons k r ih => rw [List.flatMap_cons, List.map_append, List.sum_append, ih, List.map_cons, List.sum_cons]
theorem usz_asz (t : Tm) : usz t ≤ asz t := by
  refine Tm.ind (p := fun t => usz t ≤ asz t) (fun t ih => ?_) t
  rw [usz_eq, asz_eq]
  have h : ∀ l : List Tm, (∀ k ∈ l, usz k ≤ asz k) → (l.map usz).sum ≤ (l.map asz).sum := by
    intro l
    induction l with
    | nil => intro _; exact lR _
    | cons k l ihl =>
      intro h
      rw [List.map_cons, List.map_cons, List.sum_cons, List.sum_cons]
      have h1 := h k List.mem_cons_self
      have h2 := ihl fun x hx => h x (List.mem_cons_of_mem _ hx)
      omega
  have := h t.kids ih
  have := asz1_le t
  omega
theorem asz_kid {t k : Tm} (h : k ∈ t.kids) : asz k ≤ asz t := by
  rw [asz_eq t]
  have : ∀ l : List Tm, k ∈ l → asz k ≤ (l.map asz).sum := by
    intro l
    induction l with
    | nil => intro h; cases h
    | cons x l ih =>
      intro h
      rw [List.map_cons, List.sum_cons]
      rcases List.mem_cons.1 h with rfl | h
      · omega
      · have := ih h; omega
  have := this _ h
  omega
theorem uszs_le (t : Tm) (i : Nat) : asz1 t + uszs (t.kids.take i) ≤ usz t := by
  rw [usz_eq]
  have : (t.kids.map usz).sum = uszs (t.kids.take i) + uszs (t.kids.drop i) := by
    unfold uszs
    rw [← List.sum_append, ← List.map_append, List.take_append_drop]
  omega
/-- Does each say at least as much? -/
def allK : List (Tm → Bool) → List Tm → Bool
  | [], [] => true
  | g :: r, x :: l => g x && allK r l
  | _, _ => false
/-- Alike but for the annotations, of which each says at least as much? -/
def termsF : Tm → Tm → Bool
  | .mk op name arg n has ann kids => fun b => (decide (op = b.op) && (decide (name = b.name) && (decide (arg = b.arg) && (decide (n = b.n) && decide (has = b.has))))) && ((!has || askedF true ann b.ann) && allK (kids.map termsF) b.kids)
theorem termsF_eq (a b : Tm) : termsF a b = ((decide (a.op = b.op) && (decide (a.name = b.name) && (decide (a.arg = b.arg) && (decide (a.n = b.n) && decide (a.has = b.has))))) && ((!a.has || askedF true a.ann b.ann) && allK (a.kids.map termsF) b.kids)) := by
  cases a; rw [termsF]; rfl
theorem allK_iff : ∀ (l k : List Tm), allK (l.map termsF) k = true ↔ l.length = k.length ∧ ∀ i (h1 : i < l.length) (h2 : i < k.length), termsF l[i] k[i] = true
  | [], [] => ⟨fun _ => ⟨rfl, fun i h => (by cases h)⟩, fun _ => rfl⟩
  | [], _ :: _ => ⟨fun h => (by cases h), fun h => (by cases h.1)⟩
  | _ :: _, [] => ⟨fun h => (by cases h), fun h => (by cases h.1)⟩
  | x :: l, y :: k => by
    show (termsF x y && allK (l.map termsF) k) = true ↔ _
    rw [Bool.and_eq_true, allK_iff l k]
    constructor
    · rintro ⟨h1, h2, h3⟩
      refine ⟨by simp [h2], fun i hi hj => ?_⟩
      cases i with
      | zero => exact h1
      | succ i => exact h3 i (by simpa using hi) (by simpa using hj)
    · rintro ⟨h1, h2⟩
      refine ⟨h2 0 (by simp) (by simp), by simpa using h1, fun i hi hj => ?_⟩
      exact h2 (i + 1) (by simp; omega) (by simp; omega)
theorem allK_yes {l k : List Tm} (hl : l.length = k.length) (h : ∀ j (h1 : j < l.length) (h2 : j < k.length), j < l.length → termsF l[j] k[j] = true) : allK (l.map termsF) k = true := (allK_iff l k).2 ⟨hl, fun i h1 h2 => h i h1 h2 h1⟩
theorem allK_len {l k : List Tm} (hl : l.length ≠ k.length) : allK (l.map termsF) k = false := by
  cases h : allK (l.map termsF) k with
  | false => rfl
  | true => exact absurd ((allK_iff l k).1 h).1 hl
theorem allK_no {l k : List Tm} {i : Nat} (h1 : i < l.length) (h2 : i < k.length) (h : termsF l[i] k[i] = false) : allK (l.map termsF) k = false := by
  cases hh : allK (l.map termsF) k with
  | false => rfl
  | true => rw [((allK_iff l k).1 hh).2 i h1 h2] at h; cases h
open Go Go.RowKit
theorem Ret.out {R : Value → World → Prop} {e : Ending} {w : World} (h : Ret R e w) : ∃ v, e = .returned v ∧ R v w := by
  cases e with
  | returned v => exact ⟨v, rfl, h⟩
  | _ => exact h.elim
/-! ## What the form's reach pays -/
open Go Go.RowKit
open Go.Proofs.Ytpoahmeacjggfaa.Rows (uptoBulk uptoBulkAll uptoSmall)
section
variable {H : Type}
theorem bulk_one (d : DataW H) : 1 ≤ uptoBulk d := by
  cases d with
  | lit l => cases l <;> simp [uptoBulk]
  | nil => simp [uptoBulk]
  | ptr d => simp [uptoBulk]
  | slice elems spare => simp [uptoBulk]
  | agg parts => simp [uptoBulk]
  | iface t d => simp [uptoBulk]
  | map entries => simp [uptoBulk]
  | held h => simp [uptoBulk]
theorem bulk_all : ∀ (l : List (DataW H)), uptoBulkAll l = (l.map uptoBulk).sum
  | [] => by simp [uptoBulkAll]
  | x :: r => by simp [uptoBulkAll, bulk_all r]
theorem bulk_str (l : List UInt8) : uptoBulk (DataW.lit (H := H) (.string l)) = l.length + 1 := by simp [uptoBulk]
theorem bulk_slice (l s : List (DataW H)) : uptoBulk (.slice l s) = uptoBulkAll l + uptoBulkAll s + 1 := by simp [uptoBulk]
theorem bulk_agg (l : List (DataW H)) : uptoBulk (.agg l) = uptoBulkAll l + 1 := by simp [uptoBulk]
theorem bulk_len (l : List (DataW H)) : l.length ≤ uptoBulkAll l := by
  induction l with
  | nil => simp
  | cons x r ih => have := bulk_one x; simp only [uptoBulkAll, List.length_cons]; omega
theorem bulk_mem {l : List (DataW H)} {d : DataW H} (h : d ∈ l) : uptoBulk d ≤ uptoBulkAll l := by
  induction l with
  | nil => cases h
  | cons x r ih =>
    simp only [uptoBulkAll]
    rcases List.mem_cons.1 h with e | e
    · subst e; omega
    · have := ih e; omega
theorem bulk_each {l : List (DataW H)} (h : uptoSmall H l = true) {j : Nat} {d : DataW H} (hd : l[j]? = some d) : uptoBulk d ≤ 1048576 := by
  have h1 : uptoBulkAll l ≤ 1048576 := by simpa [uptoSmall] using h
  exact Nat.le_trans (bulk_mem (List.mem_of_getElem? hd)) h1
/-- A type's readings, of bulk up to N, are things of α, of size at most that bulk. -/
structure OpensD (H : Type) {α : Type} [Rep α] (P : Program) (t : TypeId) (N : Nat) (sz : α → Nat) : Prop where
  cells : P.cellsOf t = Rep.sz α
  read : ∀ (enc : TypeId × Value → H) (w : World) (fuel : Nat) (cs : List Value) (d : DataW H) (ps : List MemPlace), DataW.trod enc P w 0 (fun _ => true) true fuel t cs = some (d, ps) → uptoBulk d ≤ N →
    ∃ (v : Value) (x : α), v.cells.toList = cs ∧ Rep.R NoM w v x ∧ sz x ≤ uptoBulk d
variable {P : Program}
theorem opensD_int {t : TypeId} (N : Nat) (ht : P.underlying t = some (.int .i64)) (hc : P.cellsOf t = 1) : OpensD H (α := Int) P t N (fun _ => 1) := by
  refine ⟨hc, fun enc w fuel cs d ps h _ => ?_⟩
  obtain ⟨n, rfl, _, hw⟩ := DataW.trod_int ht h
  refine ⟨.int .i64 n, n, rfl, ⟨rfl, ?_⟩, bulk_one d⟩
  have : -9223372036854775808 ≤ n ∧ n ≤ 9223372036854775807 := by simpa [Lit.wf, IntKind.min, IntKind.max, IntKind.signed, IntKind.bits] using hw
  exact this
theorem opensD_byte {t : TypeId} (N : Nat) (ht : P.underlying t = some (.int .u8)) (hc : P.cellsOf t = 1) : OpensD H (α := UInt8) P t N (fun _ => 1) := by
  refine ⟨hc, fun enc w fuel cs d ps h _ => ?_⟩
  obtain ⟨n, rfl, _, hw⟩ := DataW.trod_int ht h
  have : 0 ≤ n ∧ n ≤ 255 := by simpa [Lit.wf, IntKind.min, IntKind.max, IntKind.signed, IntKind.bits] using hw
  refine ⟨.int .u8 n, UInt8.ofNat n.toNat, rfl, ?_, bulk_one d⟩
  show Value.int .u8 n = Value.int .u8 ((UInt8.ofNat n.toNat).toNat : Int)
  congr 1
  rw [UInt8.toNat_ofNat']
  omega
theorem opensD_string {t : TypeId} (N : Nat) (hN : N < 140737488355328) (ht : P.underlying t = some .string) (hc : P.cellsOf t = 1) : OpensD H (α := ByteArray) P t N (fun s => 1 + s.size) := by
  refine ⟨hc, fun enc w fuel cs d ps h hQ => ?_⟩
  obtain ⟨s, rfl, hx, _⟩ := DataW.trod_string ht h
  cases hx
  rw [bulk_str] at hQ ⊢
  have e : s.data.toList.length = s.size := by simp
  exact ⟨.string s, s, rfl, ⟨rfl, by omega⟩, by omega⟩
theorem sum_le {α : Type} (f g : α → Nat) : ∀ (l : List α), (∀ x ∈ l, f x ≤ g x) → (l.map f).sum ≤ (l.map g).sum
  | [], _ => by simp
  | x :: l, h => by
    have := sum_le f g l (fun y hy => h y (List.mem_cons_of_mem _ hy))
    have := h x List.mem_cons_self
    simp only [List.map_cons, List.sum_cons]; omega
theorem opensD_slice {α : Type} [Rep α] {sz : α → Nat} {t e : TypeId} (N : Nat) (hN : N < 140737488355328) (ht : P.underlying t = some (.slice e)) (hc : P.cellsOf t = 1) (he : OpensD H P e (N - 1) sz) : OpensD H (α := List α) P t N (fun l => 1 + (l.map sz).sum) := by
  refine ⟨hc, fun enc w fuel cs d ps h hQ => ?_⟩
  rcases Go.Deep.open_slice ht h with ⟨rfl, _⟩ | ⟨a, len, cap, m, n, D, Pl, rfl, _, hl, _, hm, hx, hel⟩
  · exact ⟨.slice none 0 0, [], rfl, sl_nil, by have := bulk_one d; simpa using this⟩
  · have hm' : m = cap := by simpa using hm
    subst hm'
    have hd : d = .slice ((List.range len).map D) ((List.range (m - len)).map fun j => D (len + j)) := congrArg Prod.fst hx
    subst hd
    rw [bulk_slice] at hQ ⊢
    have hlen := bulk_len ((List.range len).map D)
    rw [List.length_map, List.length_range] at hlen
    have hlen' : len < 140737488355328 := by omega
    rw [he.cells] at hel
    have each : ∀ i : Fin len, ∃ y : Value × α, w.cells? 0 (a.add (i.1 * Rep.sz α)) (Rep.sz α) = some y.1.cells.toList ∧ Rep.R NoM w y.1 y.2 ∧ sz y.2 ≤ uptoBulk (D i.1) := by
      intro i
      obtain ⟨cs', h1, h2⟩ := hel i.1 (lT i.2 hl)
      have hi : uptoBulk (D i.1) ≤ uptoBulkAll ((List.range len).map D) := bulk_mem (List.mem_map.2 ⟨i.1, List.mem_range.2 i.2, rfl⟩)
      obtain ⟨v, x, hv, hR, hp⟩ := he.read enc w n cs' _ _ h2 (by omega)
      exact ⟨(v, x), by rw [hv]; exact h1, hR, hp⟩
    obtain ⟨f, hf⟩ := Classical.axiomOfChoice each
    refine ⟨.slice (some a) len m, List.ofFn fun i => (f i).2, rfl, ⟨some a, m, by simp, by simpa using hlen', by simpa using hl, ?_⟩, ?_⟩
    · by_cases h0 : len = 0
      · subst h0; left; simp
      · right
        have hpos : 0 < Rep.sz α := Rep.pos
        obtain ⟨_, _, hc0⟩ := World.cells?_some (hf ⟨0, by omega⟩).1
        have hc00 := hc0 0 hpos
        have hlen0 := Rep.size (hf ⟨0, by omega⟩).2.1
        obtain ⟨b, off, spot⟩ := a
        have hsome : ∃ v, w.cell? ⟨b, off, spot⟩ = some v := by
          have e1 : (Addr.add ⟨b, off, spot⟩ (0 * Rep.sz α)).add 0 = ⟨b, off, spot⟩ := by simp [Addr.add]
          rw [e1] at hc00
          refine ⟨_, hc00.trans (gE (by simpa [hlen0] using hpos))⟩
        obtain ⟨v0, hv0⟩ := hsome
        have hsp : spot = none := by
          cases spot with
          | none => rfl
          | some s => simp [World.cell?] at hv0; split at hv0 <;> simp at hv0
        subst hsp
        have hb : b < w.heap.size := by
          rcases Nat.lt_or_ge b w.heap.size with h | h
          · exact h
          · simp [World.cell?, Array.getElem?_eq_none h] at hv0
        refine ⟨b, off, rfl, fun i x hi => ?_⟩
        have hi' : i < len := by
          have := (List.getElem?_eq_some_iff.1 hi).1
          simpa using this
        have hxe : x = (f ⟨i, hi'⟩).2 := by
          rw [List.getElem?_ofFn, dif_pos hi'] at hi
          simpa using hi.symm
        subst hxe
        refine ⟨(f ⟨i, hi'⟩).1, (hf ⟨i, hi'⟩).2.1, hb, fun h => h.elim, fun j c hj => ?_⟩
        obtain ⟨_, hl2, hc2⟩ := World.cells?_some (hf ⟨i, hi'⟩).1
        have hj' : j < Rep.sz α := by rw [← hl2]; exact (List.getElem?_eq_some_iff.1 hj).1
        have := hc2 j hj'
        rw [addr_add, addr_add, hj] at this
        exact this
    · rw [bulk_all, List.map_map]
      have e1 : (List.range len).map (uptoBulk ∘ D) = List.ofFn fun i : Fin len => uptoBulk (D i.1) := by
        apply List.ext_getElem
        · simp
        · intro i h1 h2
          simp
      have e2 : (List.ofFn fun i => (f i).2).map sz = List.ofFn fun i : Fin len => sz (f i).2 := by rw [List.map_ofFn]; rfl
      rw [e1, e2]
      have key : ∀ (n : Nat) (g h : Fin n → Nat), (∀ i, g i ≤ h i) → (List.ofFn g).sum ≤ (List.ofFn h).sum := by
        intro n
        induction n with
        | zero => intro g h _; simp
        | succ n ih =>
          intro g h hgh
          rw [List.ofFn_succ, List.ofFn_succ, List.sum_cons, List.sum_cons]
          have := ih (fun i => g i.succ) (fun i => h i.succ) (fun i => hgh _)
          have := hgh 0
          omega
      have := key len _ _ (fun i => (hf i).2.2)
      omega
/-- A type's size: its parts and their names. -/
def tsz (t : Ty) : Nat := ((partsL t).map fun x => 1 + x.name.size).sum
theorem tsz_eq (t : Ty) : tsz t = 1 + t.name.size + (t.kids.map tsz).sum := by
  unfold tsz
  rw [partsL_eq, List.map_cons, List.sum_cons]
  congr 1
  induction t.kids with
  | nil => rfl
  | cons k r ih => rw [List.flatMap_cons, List.map_append, List.sum_append, ih, List.map_cons, List.sum_cons]
theorem psz_tsz (t : Ty) : psz t ≤ tsz t := by
  show (partsL t).length ≤ _
  unfold tsz
  induction partsL t with
  | nil => simp
  | cons k r ih => simp only [List.length_cons, List.map_cons, List.sum_cons]; omega
theorem opensD_ty {t tOp tStr tInt tSl : TypeId} {f0 f1 f2 f3 : Field} (ht : P.underlying t = some (.struct #[f0, f1, f2, f3])) (h0 : f0.offset = 0 ∧ f0.type = tOp) (h1 : f1.offset = 1 ∧ f1.type = tStr) (h2 : f2.offset = 2 ∧ f2.type = tInt) (h3 : f3.offset = 3 ∧ f3.type = tSl)
    (uOp : P.underlying tOp = some (.int .u8)) (cOp : P.cellsOf tOp = 1) (uStr : P.underlying tStr = some .string) (cStr : P.cellsOf tStr = 1) (uInt : P.underlying tInt = some (.int .i64)) (cInt : P.cellsOf tInt = 1) (uSl : P.underlying tSl = some (.slice t)) (cSl : P.cellsOf tSl = 1) (cT : P.cellsOf t = 4) :
    ∀ N, N < 140737488355328 → OpensD H (α := Ty) P t N tsz := by
  intro N
  induction N with
  | zero => exact fun _ => ⟨cT, fun enc w fuel cs d ps h hQ => by have := bulk_one d; omega⟩
  | succ N ih =>
    intro hN
    have ihS := opensD_slice (H := H) (P := P) (N + 1) hN uSl cSl (ih (by omega))
    refine ⟨cT, fun enc w fuel cs d ps h hQ => ?_⟩
    obtain ⟨xs, n, _, hx, hl, hxl, hf⟩ := DataW.trod_struct ht h
    cases hx
    rw [cT] at hl
    obtain ⟨c0, c1, c2, c3, rfl⟩ : ∃ c0 c1 c2 c3, cs = [c0, c1, c2, c3] := by
      rcases cs with _ | ⟨c0, _ | ⟨c1, _ | ⟨c2, _ | ⟨c3, _ | ⟨c4, r⟩⟩⟩⟩⟩ <;> simp at hl
      exact ⟨c0, c1, c2, c3, rfl⟩
    obtain ⟨x0, x1, x2, x3, rfl⟩ : ∃ x0 x1 x2 x3, xs = [x0, x1, x2, x3] := by
      rcases xs with _ | ⟨c0, _ | ⟨c1, _ | ⟨c2, _ | ⟨c3, _ | ⟨c4, r⟩⟩⟩⟩⟩ <;> simp at hxl
      exact ⟨c0, c1, c2, c3, rfl⟩
    have g0 := hf 0 f0 rfl
    have g1 := hf 1 f1 rfl
    have g2 := hf 2 f2 rfl
    have g3 := hf 3 f3 rfl
    rw [h0.1, h0.2, cOp] at g0
    rw [h1.1, h1.2, cStr] at g1
    rw [h2.1, h2.2, cInt] at g2
    rw [h3.1, h3.2, cSl] at g3
    simp only [List.drop_zero, List.drop_succ_cons, List.take_succ_cons, List.take_zero, List.getElem?_cons_zero, List.getElem?_cons_succ] at g0 g1 g2 g3
    rw [bulk_agg] at hQ ⊢
    simp only [List.map_cons, List.map_nil, uptoBulkAll] at hQ ⊢
    obtain ⟨op, e0, _, w0⟩ := DataW.trod_int uOp g0
    obtain ⟨v1, s, e1, r1, z1⟩ := (opensD_string (H := H) (P := P) (N + 1) hN uStr cStr).read enc w n _ _ _ g1 (by omega)
    obtain ⟨v2, m, e2, r2, _⟩ := (opensD_int (H := H) (P := P) (N + 1) uInt cInt).read enc w n _ _ _ g2 (by omega)
    obtain ⟨v3, l, e3, r3, z3⟩ := ihS.read enc w n _ _ _ g3 (by omega)
    obtain ⟨rfl, hs⟩ := r1
    obtain ⟨rfl, hm⟩ := r2
    have hop : 0 ≤ op ∧ op ≤ 255 := by simpa [Lit.wf, IntKind.min, IntKind.max, IntKind.signed, IntKind.bits] using w0
    have r3' : Sl NoM w v3 l := r3
    have e3' := r3'.cells
    refine ⟨.agg #[.int .u8 op, .string s, .int .i64 m, v3], .mk op s m l, ?_, ty_mk hop hs hm r3', ?_⟩
    · rw [e3'] at e3
      simp [Value.cells] at e0 e1 e2 e3 ⊢
      simp [*]
    · rw [tsz_eq]
      show 1 + s.size + (l.map tsz).sum ≤ _
      have := bulk_one x0.1
      have := bulk_one x2.1
      omega
theorem opensD_arg {α : Type} [Rep α] {sz : α → Nat} {t : TypeId} {N : Nat} (ho : OpensD H P t N sz) {enc : TypeId × Value → H} {w : World} {v : Value} {d : DataW H} {ps : List MemPlace}
    (h : DataW.Trod enc P w 0 (fun _ => true) true t v d ps) (hd : uptoBulk d ≤ N) : ∃ (u : Value) (x : α), u.cells = v.cells ∧ Rep.R NoM w u x ∧ sz x ≤ N := by
  obtain ⟨fuel, hf⟩ := h
  obtain ⟨u, x, hv, hR, hp⟩ := ho.read enc w fuel _ _ _ hf hd
  exact ⟨u, x, Array.toList_inj.1 hv, hR, by omega⟩
end
theorem agg_of {u : Value} {a : Array Value} (h : u.cells = (Value.agg a).cells) (hu : ∃ b, u = .agg b) : u = .agg a := by
  obtain ⟨b, rfl⟩ := hu
  simp [Value.cells] at h
  rw [h]
theorem sl_of {α : Type} [Rep α] {M : Nat → Prop} {w : World} {u : Value} {l : List α} {a : Option Addr} {n c : Nat} (h : u.cells = (Value.slice a n c).cells) (hu : Sl M w u l) : u = .slice a n c := by
  rw [hu.cells] at h
  simpa [Value.cells] using h
open Go Go.RowKit
open Go.Proofs.Ytpoahmeacjggfaa.Rows (uptoBulk uptoBulkAll uptoSmall)
/-- An expression's size: its nodes, their names, their annotations. -/
def tmsz (t : Tm) : Nat := ((nodesL t).map fun x => 1 + x.name.size + x.arg.size + tsz x.ann).sum
theorem tmsz_eq (t : Tm) : tmsz t = 1 + t.name.size + t.arg.size + tsz t.ann + (t.kids.map tmsz).sum := by
  unfold tmsz
  rw [nodesL_eq, List.map_cons, List.sum_cons]
  congr 1
  induction t.kids with
  | nil => rfl
  | cons k r ih => rw [List.flatMap_cons, List.map_append, List.sum_append, ih, List.map_cons, List.sum_cons]
theorem sum_in {α : Type} (f : α → Nat) : ∀ (l : List α) (x : α), x ∈ l → f x ≤ (l.map f).sum
  | y :: l, x, h => by
    rw [List.map_cons, List.sum_cons]
    rcases List.mem_cons.1 h with rfl | h
    · omega
    · have := sum_in f l x h; omega
theorem sum_len {α : Type} (f : α → Nat) (hf : ∀ x, 1 ≤ f x) : ∀ (l : List α), l.length ≤ (l.map f).sum
  | [] => lR _
  | y :: l => by
    have h1 := sum_len f hf l
    have h2 := hf y
    rw [List.map_cons, List.sum_cons, List.length_cons]; omega
theorem nsz_tmsz (t : Tm) : nsz t ≤ tmsz t := sum_len _ (fun x => by omega) _
theorem ann_tmsz {t x : Tm} (h : x ∈ nodesL t) : psz x.ann ≤ tmsz t := by
  have h1 := sum_in (fun x => 1 + x.name.size + x.arg.size + tsz x.ann) (nodesL t) x h
  have h2 := psz_tsz x.ann
  have h3 : ((nodesL t).map fun x => 1 + x.name.size + x.arg.size + tsz x.ann).sum = tmsz t := rfl
  omega
theorem annS_tmsz {t : Tm} (h : tmsz t ≤ 2000000) : AnnS t := fun x hx => by have := ann_tmsz hx; omega
theorem asz_tmsz (t : Tm) : asz t ≤ tmsz t := by
  unfold asz tmsz
  refine sum_le _ _ _ (fun x _ => ?_)
  have := psz_tsz x.ann
  omega
theorem tm_agg {w : World} {M : Nat → Prop} {u : Value} {t : Tm} (h : Rep.R M w u t) : ∃ a, u = .agg a := by
  obtain ⟨akv, kv, e, _⟩ := tm_open h
  exact ⟨_, e⟩
section
variable {H : Type} {P : Program}
theorem opensD_bool {t : TypeId} (N : Nat) (ht : P.underlying t = some .bool) (hc : P.cellsOf t = 1) : OpensD H (α := Bool) P t N (fun _ => 1) := by
  refine ⟨hc, fun enc w fuel cs d ps h _ => ?_⟩
  obtain ⟨b, rfl, e⟩ := DataW.trod_bool ht h
  cases e
  exact ⟨.bool b, b, rfl, rfl, bulk_one _⟩
theorem opensD_tm {t tOp tStr tInt tBool tTy tSl : TypeId} {f0 f1 f2 f3 f4 f5 f6 : Field} (ht : P.underlying t = some (.struct #[f0, f1, f2, f3, f4, f5, f6])) (h0 : f0.offset = 0 ∧ f0.type = tOp) (h1 : f1.offset = 1 ∧ f1.type = tStr) (h2 : f2.offset = 2 ∧ f2.type = tStr)
    (h3 : f3.offset = 3 ∧ f3.type = tInt) (h4 : f4.offset = 4 ∧ f4.type = tBool) (h5 : f5.offset = 5 ∧ f5.type = tTy) (h6 : f6.offset = 9 ∧ f6.type = tSl)
    (uOp : P.underlying tOp = some (.int .u8)) (cOp : P.cellsOf tOp = 1) (uStr : P.underlying tStr = some .string) (cStr : P.cellsOf tStr = 1) (uInt : P.underlying tInt = some (.int .i64)) (cInt : P.cellsOf tInt = 1) (uBool : P.underlying tBool = some .bool) (cBool : P.cellsOf tBool = 1)
    (uSl : P.underlying tSl = some (.slice t)) (cSl : P.cellsOf tSl = 1) (oT : ∀ N, N < 140737488355328 → OpensD H (α := Ty) P tTy N tsz) (cT : P.cellsOf t = 10) :
    ∀ N, N < 140737488355328 → OpensD H (α := Tm) P t N tmsz := by
  intro N
  induction N with
  | zero => exact fun _ => ⟨cT, fun enc w fuel cs d ps h hQ => by have := bulk_one d; omega⟩
  | succ N ih =>
    intro hN
    have ihS := opensD_slice (H := H) (P := P) (N + 1) hN uSl cSl (ih (by omega))
    refine ⟨cT, fun enc w fuel cs d ps h hQ => ?_⟩
    obtain ⟨xs, n, _, hx, hl, hxl, hf⟩ := DataW.trod_struct ht h
    cases hx
    rw [cT] at hl
    obtain ⟨c0, c1, c2, c3, c4, c5, c6, c7, c8, c9, rfl⟩ : ∃ c0 c1 c2 c3 c4 c5 c6 c7 c8 c9, cs = [c0, c1, c2, c3, c4, c5, c6, c7, c8, c9] := by
      rcases cs with _ | ⟨c0, _ | ⟨c1, _ | ⟨c2, _ | ⟨c3, _ | ⟨c4, _ | ⟨c5, _ | ⟨c6, _ | ⟨c7, _ | ⟨c8, _ | ⟨c9, _ | ⟨c10, r⟩⟩⟩⟩⟩⟩⟩⟩⟩⟩⟩ <;> simp at hl
      exact ⟨c0, c1, c2, c3, c4, c5, c6, c7, c8, c9, rfl⟩
    obtain ⟨x0, x1, x2, x3, x4, x5, x6, rfl⟩ : ∃ x0 x1 x2 x3 x4 x5 x6, xs = [x0, x1, x2, x3, x4, x5, x6] := by
      rcases xs with _ | ⟨c0, _ | ⟨c1, _ | ⟨c2, _ | ⟨c3, _ | ⟨c4, _ | ⟨c5, _ | ⟨c6, _ | ⟨c7, r⟩⟩⟩⟩⟩⟩⟩⟩ <;> simp at hxl
      exact ⟨c0, c1, c2, c3, c4, c5, c6, rfl⟩
    have g0 := hf 0 f0 rfl
    have g1 := hf 1 f1 rfl
    have g2 := hf 2 f2 rfl
    have g3 := hf 3 f3 rfl
    have g4 := hf 4 f4 rfl
    have g5 := hf 5 f5 rfl
    have g6 := hf 6 f6 rfl
    rw [h0.1, h0.2, cOp] at g0
    rw [h1.1, h1.2, cStr] at g1
    rw [h2.1, h2.2, cStr] at g2
    rw [h3.1, h3.2, cInt] at g3
    rw [h4.1, h4.2, cBool] at g4
    rw [h5.1, h5.2, (oT (N + 1) hN).cells, show Rep.sz Ty = 4 from rfl] at g5
    rw [h6.1, h6.2, cSl] at g6
    simp only [List.drop_zero, List.drop_succ_cons, List.take_succ_cons, List.take_zero, List.getElem?_cons_zero, List.getElem?_cons_succ] at g0 g1 g2 g3 g4 g5 g6
    rw [bulk_agg] at hQ ⊢
    simp only [List.map_cons, List.map_nil, uptoBulkAll] at hQ ⊢
    obtain ⟨op, e0, _, w0⟩ := DataW.trod_int uOp g0
    obtain ⟨v1, s, e1, r1, z1⟩ := (opensD_string (H := H) (P := P) (N + 1) hN uStr cStr).read enc w n _ _ _ g1 (by omega)
    obtain ⟨v2, ar, e2, r2, z2⟩ := (opensD_string (H := H) (P := P) (N + 1) hN uStr cStr).read enc w n _ _ _ g2 (by omega)
    obtain ⟨v3, m, e3, r3, _⟩ := (opensD_int (H := H) (P := P) (N + 1) uInt cInt).read enc w n _ _ _ g3 (by omega)
    obtain ⟨v4, b, e4, r4, _⟩ := (opensD_bool (H := H) (P := P) (N + 1) uBool cBool).read enc w n _ _ _ g4 (by omega)
    obtain ⟨v5, a, e5, r5, z5⟩ := (oT (N + 1) hN).read enc w n _ _ _ g5 (by omega)
    obtain ⟨v6, l, e6, r6, z6⟩ := ihS.read enc w n _ _ _ g6 (by omega)
    obtain ⟨rfl, hs⟩ := r1
    obtain ⟨rfl, har⟩ := r2
    obtain ⟨rfl, hm⟩ := r3
    obtain rfl : v4 = .bool b := r4
    obtain ⟨akv, rfl, _⟩ := tO r5
    have hop : 0 ≤ op ∧ op ≤ 255 := by simpa [Lit.wf, IntKind.min, IntKind.max, IntKind.signed, IntKind.bits] using w0
    have r6' : Sl NoM w v6 l := r6
    have e6' := r6'.cells
    refine ⟨.agg #[.int .u8 op, .string s, .string ar, .int .i64 m, .bool b, .int .u8 a.op, .string a.name, .int .i64 a.n, akv, v6], .mk op s ar m b a l, ?_, tm_mk hop hs har hm r5 r6', ?_⟩
    · rw [e6'] at e6
      simp [Value.cells] at e0 e1 e2 e3 e4 e5 e6 ⊢
      simp [*]
    · rw [tmsz_eq]
      show 1 + s.size + ar.size + tsz a + (l.map tmsz).sum ≤ _
      have := bulk_one x0.1
      have := bulk_one x3.1
      omega
end
end Rw
