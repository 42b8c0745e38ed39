/- Part 4 of the proof: rules, plain laws and walks, merged out of smaller texts. -/
import Derived.Test.YtohfnpmehgpphaaQ3
namespace Go.Proofs.Ytohfnpmehgpphaa
open Go Rw Go.RowKit
set_option maxRecDepth 100000
/-- shaped: which parts an op has. -/
theorem shaped_spec (op : Int) (M : Nat → Prop) (w : World) (hlow0 : Low M w) :
    Calls Try.prog 119 #[.int .u8 op] w (Ret fun r w' => r = .tuple #[.agg #[.bool (shp op).1, .bool (shp op).2.1, .int .i64 (shp op).2.2.1, .int .i64 (shp op).2.2.2.1], .bool (shp op).2.2.2.2] ∧ Ext w w') := by
  have hlow := hlow0
  have hB : w.heap.size ≤ w.heap.size := Nat.le_refl _
  have hE : Below w.heap.size w w := Below.refl _ _
  have hsub : ∀ b, M b → M b := fun _ h => h
  refine c_enter (n := 52) Try.func119 rfl rfl rfl ?_
  refine q0 ?_
  refine l_cons (o_new tbOk rfl rfl rfl ?_)
  intro b2 w1 qb2 ew1 hb2
  have sw1 := Stp.add ew1 hlow hB (Nat.le_of_eq qb2.symm) hb2.lt
  have h2 : MB w.heap.size (Rw.Add M b2) w1 b2 184 [.bool false, .bool false, .int .i64 0, .int .i64 0] := MB.mk' hb2 qb2 hB
  replace hE := hE.trans sw1.below
  replace hsub := fun b h => sw1.sub b (hsub b h)
  replace hlow := sw1.low
  replace hB := Nat.le_trans hB sw1.upd.1
  refine l_p 1 tbOk rfl (q1 (c_seq (q0 (l_p 1 tbOk rfl (q1 (c_blk (q0 (l_p 2 tbOk rfl (q1 ?_)))))))))
  refine c_ifP _ rfl (fun c1 => ?_) (fun c1 => ?_)
  · refine q0 ?_
    refine l_cons (o_build (cells := [.bool true, .bool false, .int .i64 0, .int .i64 0]) bd184 rfl rfl rfl rfl rfl ?_)
    refine l_cons (o_st tbOk h2.box rfl rfl rfl rfl (by simp [Value.cells, Value.oneCell']) rfl rfl ?_)
    intro w2 hw2 qw2 bew2
    have uw2 : UpdB _ _ _ := ⟨qw2, bew2⟩
    have sw2 := uw2.stp h2.inM hlow h2.ge
    have frw2 := qw2.2
    replace hE := hE.trans sw2.below
    replace hsub := fun b h => sw2.sub b (hsub b h)
    replace hlow := sw2.low
    replace hB := Nat.le_trans hB sw2.upd.1
    replace h2 : MB w.heap.size _ w2 b2 _ [.bool true, .bool false, .int .i64 0, .int .i64 0] := ⟨hw2, h2.inM, h2.ge⟩
    refine l_p 1 tbOk rfl (q1 (c_ret (x_blkR (x_seqR ?_))))
    refine x_ret2st tbOk (fun j v hv => h2.cell j v hv) rfl rfl rfl rfl rfl rfl ?_
    subst c1
    exact ⟨rfl, hE⟩
  refine c_seq (q0 (l_p 2 tbOk rfl (q1 ?_)))
  refine c_splitP 8 _ rfl (fun c2 => c_ifT rfl ?_) (fun c2 => c_ifF rfl ?_)
  · refine c_skip (x_seq (c_ifT rfl (q0 ?_)))
    refine l_cons (o_build (cells := [.bool false, .bool false, .int .i64 0, .int .i64 0]) bd184 rfl rfl rfl rfl rfl ?_)
    refine l_cons (o_st tbOk h2.box rfl rfl rfl rfl (by simp [Value.cells, Value.oneCell']) rfl rfl ?_)
    intro w3 hw3 qw3 bew3
    have uw3 : UpdB _ _ _ := ⟨qw3, bew3⟩
    have sw3 := uw3.stp h2.inM hlow h2.ge
    have frw3 := qw3.2
    replace hE := hE.trans sw3.below
    replace hsub := fun b h => sw3.sub b (hsub b h)
    replace hlow := sw3.low
    replace hB := Nat.le_trans hB sw3.upd.1
    replace h2 : MB w.heap.size _ w3 b2 _ [.bool false, .bool false, .int .i64 0, .int .i64 0] := ⟨hw3, h2.inM, h2.ge⟩
    refine l_p 1 tbOk rfl (q1 (c_ret (x_blkR (x_seqR ?_))))
    refine x_ret2st tbOk (fun j v hv => h2.cell j v hv) rfl rfl rfl rfl rfl rfl ?_
    subst c2
    exact ⟨rfl, hE⟩
  refine q0 (l_p 2 tbOk rfl (q1 ?_))
  refine c_splitP 8 _ rfl (fun c3 => c_ifT rfl ?_) (fun c3 => c_ifF rfl ?_)
  · refine c_skip (x_seq (c_ifT rfl (q0 ?_)))
    refine l_cons (o_build (cells := [.bool false, .bool false, .int .i64 0, .int .i64 0]) bd184 rfl rfl rfl rfl rfl ?_)
    refine l_cons (o_st tbOk h2.box rfl rfl rfl rfl (by simp [Value.cells, Value.oneCell']) rfl rfl ?_)
    intro w4 hw4 qw4 bew4
    have uw4 : UpdB _ _ _ := ⟨qw4, bew4⟩
    have sw4 := uw4.stp h2.inM hlow h2.ge
    have frw4 := qw4.2
    replace hE := hE.trans sw4.below
    replace hsub := fun b h => sw4.sub b (hsub b h)
    replace hlow := sw4.low
    replace hB := Nat.le_trans hB sw4.upd.1
    replace h2 : MB w.heap.size _ w4 b2 _ [.bool false, .bool false, .int .i64 0, .int .i64 0] := ⟨hw4, h2.inM, h2.ge⟩
    refine l_p 1 tbOk rfl (q1 (c_ret (x_blkR (x_seqR ?_))))
    refine x_ret2st tbOk (fun j v hv => h2.cell j v hv) rfl rfl rfl rfl rfl rfl ?_
    subst c3
    exact ⟨rfl, hE⟩
  refine c_reg (l_p 2 tbOk rfl (q1 ?_))
  refine c_splitP 8 _ rfl (fun c4 => c_ifT rfl ?_) (fun c4 => c_ifF rfl ?_)
  · refine q0 ?_
    refine l_cons (o_build (cells := [.bool false, .bool false, .int .i64 0, .int .i64 0]) bd184 rfl rfl rfl rfl rfl ?_)
    refine l_cons (o_st tbOk h2.box rfl rfl rfl rfl (by simp [Value.cells, Value.oneCell']) rfl rfl ?_)
    intro w5 hw5 qw5 bew5
    have uw5 : UpdB _ _ _ := ⟨qw5, bew5⟩
    have sw5 := uw5.stp h2.inM hlow h2.ge
    have frw5 := qw5.2
    replace hE := hE.trans sw5.below
    replace hsub := fun b h => sw5.sub b (hsub b h)
    replace hlow := sw5.low
    replace hB := Nat.le_trans hB sw5.upd.1
    replace h2 : MB w.heap.size _ w5 b2 _ [.bool false, .bool false, .int .i64 0, .int .i64 0] := ⟨hw5, h2.inM, h2.ge⟩
    refine l_p 1 tbOk rfl (q1 (c_ret (x_blkR (x_seqR ?_))))
    refine x_ret2st tbOk (fun j v hv => h2.cell j v hv) rfl rfl rfl rfl rfl rfl ?_
    subst c4
    exact ⟨rfl, hE⟩
  refine q0 (l_p 2 tbOk rfl (q1 ?_))
  refine c_ifP _ rfl (fun c5 => ?_) (fun c5 => ?_)
  · refine q0 ?_
    refine l_cons (o_build (cells := [.bool false, .bool true, .int .i64 1, .int .i64 1]) bd184 rfl rfl rfl rfl rfl ?_)
    refine l_cons (o_st tbOk h2.box rfl rfl rfl rfl (by simp [Value.cells, Value.oneCell']) rfl rfl ?_)
    intro w6 hw6 qw6 bew6
    have uw6 : UpdB _ _ _ := ⟨qw6, bew6⟩
    have sw6 := uw6.stp h2.inM hlow h2.ge
    have frw6 := qw6.2
    replace hE := hE.trans sw6.below
    replace hsub := fun b h => sw6.sub b (hsub b h)
    replace hlow := sw6.low
    replace hB := Nat.le_trans hB sw6.upd.1
    replace h2 : MB w.heap.size _ w6 b2 _ [.bool false, .bool true, .int .i64 1, .int .i64 1] := ⟨hw6, h2.inM, h2.ge⟩
    refine l_p 1 tbOk rfl (q1 (c_ret (x_blkR (x_seqR ?_))))
    refine x_ret2st tbOk (fun j v hv => h2.cell j v hv) rfl rfl rfl rfl rfl rfl ?_
    subst c5
    exact ⟨rfl, hE⟩
  refine q0 (l_p 2 tbOk rfl (q1 ?_))
  refine c_ifP _ rfl (fun c6 => ?_) (fun c6 => ?_)
  · refine q0 ?_
    refine l_cons (o_build (cells := [.bool true, .bool true, .int .i64 1, .int .i64 1]) bd184 rfl rfl rfl rfl rfl ?_)
    refine l_cons (o_st tbOk h2.box rfl rfl rfl rfl (by simp [Value.cells, Value.oneCell']) rfl rfl ?_)
    intro w7 hw7 qw7 bew7
    have uw7 : UpdB _ _ _ := ⟨qw7, bew7⟩
    have sw7 := uw7.stp h2.inM hlow h2.ge
    have frw7 := qw7.2
    replace hE := hE.trans sw7.below
    replace hsub := fun b h => sw7.sub b (hsub b h)
    replace hlow := sw7.low
    replace hB := Nat.le_trans hB sw7.upd.1
    replace h2 : MB w.heap.size _ w7 b2 _ [.bool true, .bool true, .int .i64 1, .int .i64 1] := ⟨hw7, h2.inM, h2.ge⟩
    refine l_p 1 tbOk rfl (q1 (c_ret (x_blkR (x_seqR ?_))))
    refine x_ret2st tbOk (fun j v hv => h2.cell j v hv) rfl rfl rfl rfl rfl rfl ?_
    subst c6
    exact ⟨rfl, hE⟩
  refine q0 (l_p 2 tbOk rfl (q1 ?_))
  refine c_ifP _ rfl (fun c7 => ?_) (fun c7 => ?_)
  · refine q0 ?_
    refine l_cons (o_build (cells := [.bool false, .bool false, .int .i64 2, .int .i64 0]) bd184 rfl rfl rfl rfl rfl ?_)
    refine l_cons (o_st tbOk h2.box rfl rfl rfl rfl (by simp [Value.cells, Value.oneCell']) rfl rfl ?_)
    intro w8 hw8 qw8 bew8
    have uw8 : UpdB _ _ _ := ⟨qw8, bew8⟩
    have sw8 := uw8.stp h2.inM hlow h2.ge
    have frw8 := qw8.2
    replace hE := hE.trans sw8.below
    replace hsub := fun b h => sw8.sub b (hsub b h)
    replace hlow := sw8.low
    replace hB := Nat.le_trans hB sw8.upd.1
    replace h2 : MB w.heap.size _ w8 b2 _ [.bool false, .bool false, .int .i64 2, .int .i64 0] := ⟨hw8, h2.inM, h2.ge⟩
    refine l_p 1 tbOk rfl (q1 (c_ret (x_blkR (x_seqR ?_))))
    refine x_ret2st tbOk (fun j v hv => h2.cell j v hv) rfl rfl rfl rfl rfl rfl ?_
    subst c7
    exact ⟨rfl, hE⟩
  refine c_seq (q0 (l_p 2 tbOk rfl (q1 ?_)))
  refine c_splitP 22 _ rfl (fun c8 => c_ifT rfl ?_) (fun c8 => c_ifF rfl ?_)
  · refine c_skip (x_seq (c_ifT rfl (q0 ?_)))
    refine l_cons (o_build (cells := [.bool true, .bool false, .int .i64 2, .int .i64 0]) bd184 rfl rfl rfl rfl rfl ?_)
    refine l_cons (o_st tbOk h2.box rfl rfl rfl rfl (by simp [Value.cells, Value.oneCell']) rfl rfl ?_)
    intro w9 hw9 qw9 bew9
    have uw9 : UpdB _ _ _ := ⟨qw9, bew9⟩
    have sw9 := uw9.stp h2.inM hlow h2.ge
    have frw9 := qw9.2
    replace hE := hE.trans sw9.below
    replace hsub := fun b h => sw9.sub b (hsub b h)
    replace hlow := sw9.low
    replace hB := Nat.le_trans hB sw9.upd.1
    replace h2 : MB w.heap.size _ w9 b2 _ [.bool true, .bool false, .int .i64 2, .int .i64 0] := ⟨hw9, h2.inM, h2.ge⟩
    refine l_p 1 tbOk rfl (q1 (c_ret (x_blkR (x_seqR ?_))))
    refine x_ret2st tbOk (fun j v hv => h2.cell j v hv) rfl rfl rfl rfl rfl rfl ?_
    subst c8
    exact ⟨rfl, hE⟩
  refine q0 (l_p 2 tbOk rfl (q1 ?_))
  refine c_splitP 22 _ rfl (fun c9 => c_ifT rfl ?_) (fun c9 => c_ifF rfl ?_)
  · refine c_skip (x_seq (c_ifT rfl (q0 ?_)))
    refine l_cons (o_build (cells := [.bool true, .bool false, .int .i64 2, .int .i64 0]) bd184 rfl rfl rfl rfl rfl ?_)
    refine l_cons (o_st tbOk h2.box rfl rfl rfl rfl (by simp [Value.cells, Value.oneCell']) rfl rfl ?_)
    intro w10 hw10 qw10 bew10
    have uw10 : UpdB _ _ _ := ⟨qw10, bew10⟩
    have sw10 := uw10.stp h2.inM hlow h2.ge
    have frw10 := qw10.2
    replace hE := hE.trans sw10.below
    replace hsub := fun b h => sw10.sub b (hsub b h)
    replace hlow := sw10.low
    replace hB := Nat.le_trans hB sw10.upd.1
    replace h2 : MB w.heap.size _ w10 b2 _ [.bool true, .bool false, .int .i64 2, .int .i64 0] := ⟨hw10, h2.inM, h2.ge⟩
    refine l_p 1 tbOk rfl (q1 (c_ret (x_blkR (x_seqR ?_))))
    refine x_ret2st tbOk (fun j v hv => h2.cell j v hv) rfl rfl rfl rfl rfl rfl ?_
    subst c9
    exact ⟨rfl, hE⟩
  refine c_reg (l_p 2 tbOk rfl (q1 ?_))
  refine c_splitP 22 _ rfl (fun c10 => c_ifT rfl ?_) (fun c10 => c_ifF rfl ?_)
  · refine q0 ?_
    refine l_cons (o_build (cells := [.bool true, .bool false, .int .i64 2, .int .i64 0]) bd184 rfl rfl rfl rfl rfl ?_)
    refine l_cons (o_st tbOk h2.box rfl rfl rfl rfl (by simp [Value.cells, Value.oneCell']) rfl rfl ?_)
    intro w11 hw11 qw11 bew11
    have uw11 : UpdB _ _ _ := ⟨qw11, bew11⟩
    have sw11 := uw11.stp h2.inM hlow h2.ge
    have frw11 := qw11.2
    replace hE := hE.trans sw11.below
    replace hsub := fun b h => sw11.sub b (hsub b h)
    replace hlow := sw11.low
    replace hB := Nat.le_trans hB sw11.upd.1
    replace h2 : MB w.heap.size _ w11 b2 _ [.bool true, .bool false, .int .i64 2, .int .i64 0] := ⟨hw11, h2.inM, h2.ge⟩
    refine l_p 1 tbOk rfl (q1 (c_ret (x_blkR (x_seqR ?_))))
    refine x_ret2st tbOk (fun j v hv => h2.cell j v hv) rfl rfl rfl rfl rfl rfl ?_
    subst c10
    exact ⟨rfl, hE⟩
  refine q0 (l_p 2 tbOk rfl (q1 ?_))
  refine c_ifP _ rfl (fun c11 => ?_) (fun c11 => ?_)
  · refine q0 ?_
    refine l_cons (o_build (cells := [.bool false, .bool false, .int .i64 3, .int .i64 0]) bd184 rfl rfl rfl rfl rfl ?_)
    refine l_cons (o_st tbOk h2.box rfl rfl rfl rfl (by simp [Value.cells, Value.oneCell']) rfl rfl ?_)
    intro w12 hw12 qw12 bew12
    have uw12 : UpdB _ _ _ := ⟨qw12, bew12⟩
    have sw12 := uw12.stp h2.inM hlow h2.ge
    have frw12 := qw12.2
    replace hE := hE.trans sw12.below
    replace hsub := fun b h => sw12.sub b (hsub b h)
    replace hlow := sw12.low
    replace hB := Nat.le_trans hB sw12.upd.1
    replace h2 : MB w.heap.size _ w12 b2 _ [.bool false, .bool false, .int .i64 3, .int .i64 0] := ⟨hw12, h2.inM, h2.ge⟩
    refine l_p 1 tbOk rfl (q1 (c_ret (x_blkR (x_seqR ?_))))
    refine x_ret2st tbOk (fun j v hv => h2.cell j v hv) rfl rfl rfl rfl rfl rfl ?_
    subst c11
    exact ⟨rfl, hE⟩
  refine q0 (l_p 2 tbOk rfl (q1 ?_))
  refine c_ifP _ rfl (fun c12 => ?_) (fun c12 => ?_)
  · refine q0 ?_
    refine l_cons (o_build (cells := [.bool true, .bool false, .int .i64 2, .int .i64 0]) bd184 rfl rfl rfl rfl rfl ?_)
    refine l_cons (o_st tbOk h2.box rfl rfl rfl rfl (by simp [Value.cells, Value.oneCell']) rfl rfl ?_)
    intro w13 hw13 qw13 bew13
    have uw13 : UpdB _ _ _ := ⟨qw13, bew13⟩
    have sw13 := uw13.stp h2.inM hlow h2.ge
    have frw13 := qw13.2
    replace hE := hE.trans sw13.below
    replace hsub := fun b h => sw13.sub b (hsub b h)
    replace hlow := sw13.low
    replace hB := Nat.le_trans hB sw13.upd.1
    replace h2 : MB w.heap.size _ w13 b2 _ [.bool true, .bool false, .int .i64 2, .int .i64 0] := ⟨hw13, h2.inM, h2.ge⟩
    refine l_p 1 tbOk rfl (q1 (c_ret (x_blkR (x_seqR ?_))))
    refine x_ret2st tbOk (fun j v hv => h2.cell j v hv) rfl rfl rfl rfl rfl rfl ?_
    subst c12
    exact ⟨rfl, hE⟩
  refine c_seq (q0 (l_p 2 tbOk rfl (q1 ?_)))
  refine c_splitP 33 _ rfl (fun c13 => c_ifT rfl ?_) (fun c13 => c_ifF rfl ?_)
  · refine c_skip (x_seq (c_ifT rfl (q0 ?_)))
    refine l_cons (o_build (cells := [.bool true, .bool false, .int .i64 1, .int .i64 0]) bd184 rfl rfl rfl rfl rfl ?_)
    refine l_cons (o_st tbOk h2.box rfl rfl rfl rfl (by simp [Value.cells, Value.oneCell']) rfl rfl ?_)
    intro w14 hw14 qw14 bew14
    have uw14 : UpdB _ _ _ := ⟨qw14, bew14⟩
    have sw14 := uw14.stp h2.inM hlow h2.ge
    have frw14 := qw14.2
    replace hE := hE.trans sw14.below
    replace hsub := fun b h => sw14.sub b (hsub b h)
    replace hlow := sw14.low
    replace hB := Nat.le_trans hB sw14.upd.1
    replace h2 : MB w.heap.size _ w14 b2 _ [.bool true, .bool false, .int .i64 1, .int .i64 0] := ⟨hw14, h2.inM, h2.ge⟩
    refine l_p 1 tbOk rfl (q1 (c_ret (x_blkR (x_seqR ?_))))
    refine x_ret2st tbOk (fun j v hv => h2.cell j v hv) rfl rfl rfl rfl rfl rfl ?_
    subst c13
    exact ⟨rfl, hE⟩
  refine q0 (l_p 2 tbOk rfl (q1 ?_))
  refine c_splitP 33 _ rfl (fun c14 => c_ifT rfl ?_) (fun c14 => c_ifF rfl ?_)
  · refine c_skip (x_seq (c_ifT rfl (q0 ?_)))
    refine l_cons (o_build (cells := [.bool true, .bool false, .int .i64 1, .int .i64 0]) bd184 rfl rfl rfl rfl rfl ?_)
    refine l_cons (o_st tbOk h2.box rfl rfl rfl rfl (by simp [Value.cells, Value.oneCell']) rfl rfl ?_)
    intro w15 hw15 qw15 bew15
    have uw15 : UpdB _ _ _ := ⟨qw15, bew15⟩
    have sw15 := uw15.stp h2.inM hlow h2.ge
    have frw15 := qw15.2
    replace hE := hE.trans sw15.below
    replace hsub := fun b h => sw15.sub b (hsub b h)
    replace hlow := sw15.low
    replace hB := Nat.le_trans hB sw15.upd.1
    replace h2 : MB w.heap.size _ w15 b2 _ [.bool true, .bool false, .int .i64 1, .int .i64 0] := ⟨hw15, h2.inM, h2.ge⟩
    refine l_p 1 tbOk rfl (q1 (c_ret (x_blkR (x_seqR ?_))))
    refine x_ret2st tbOk (fun j v hv => h2.cell j v hv) rfl rfl rfl rfl rfl rfl ?_
    subst c14
    exact ⟨rfl, hE⟩
  refine q0 (l_p 2 tbOk rfl (q1 ?_))
  refine c_splitP 33 _ rfl (fun c15 => c_ifT rfl ?_) (fun c15 => c_ifF rfl ?_)
  · refine c_skip (x_seq (c_ifT rfl (q0 ?_)))
    refine l_cons (o_build (cells := [.bool true, .bool false, .int .i64 1, .int .i64 0]) bd184 rfl rfl rfl rfl rfl ?_)
    refine l_cons (o_st tbOk h2.box rfl rfl rfl rfl (by simp [Value.cells, Value.oneCell']) rfl rfl ?_)
    intro w16 hw16 qw16 bew16
    have uw16 : UpdB _ _ _ := ⟨qw16, bew16⟩
    have sw16 := uw16.stp h2.inM hlow h2.ge
    have frw16 := qw16.2
    replace hE := hE.trans sw16.below
    replace hsub := fun b h => sw16.sub b (hsub b h)
    replace hlow := sw16.low
    replace hB := Nat.le_trans hB sw16.upd.1
    replace h2 : MB w.heap.size _ w16 b2 _ [.bool true, .bool false, .int .i64 1, .int .i64 0] := ⟨hw16, h2.inM, h2.ge⟩
    refine l_p 1 tbOk rfl (q1 (c_ret (x_blkR (x_seqR ?_))))
    refine x_ret2st tbOk (fun j v hv => h2.cell j v hv) rfl rfl rfl rfl rfl rfl ?_
    subst c15
    exact ⟨rfl, hE⟩
  refine c_reg (l_p 2 tbOk rfl (q1 ?_))
  refine c_splitP 33 _ rfl (fun c16 => c_ifT rfl ?_) (fun c16 => c_ifF rfl ?_)
  · refine q0 ?_
    refine l_cons (o_build (cells := [.bool true, .bool false, .int .i64 1, .int .i64 0]) bd184 rfl rfl rfl rfl rfl ?_)
    refine l_cons (o_st tbOk h2.box rfl rfl rfl rfl (by simp [Value.cells, Value.oneCell']) rfl rfl ?_)
    intro w17 hw17 qw17 bew17
    have uw17 : UpdB _ _ _ := ⟨qw17, bew17⟩
    have sw17 := uw17.stp h2.inM hlow h2.ge
    have frw17 := qw17.2
    replace hE := hE.trans sw17.below
    replace hsub := fun b h => sw17.sub b (hsub b h)
    replace hlow := sw17.low
    replace hB := Nat.le_trans hB sw17.upd.1
    replace h2 : MB w.heap.size _ w17 b2 _ [.bool true, .bool false, .int .i64 1, .int .i64 0] := ⟨hw17, h2.inM, h2.ge⟩
    refine l_p 1 tbOk rfl (q1 (c_ret (x_blkR (x_seqR ?_))))
    refine x_ret2st tbOk (fun j v hv => h2.cell j v hv) rfl rfl rfl rfl rfl rfl ?_
    subst c16
    exact ⟨rfl, hE⟩
  refine q0 (l_p 2 tbOk rfl (q1 ?_))
  refine c_ifP _ rfl (fun c17 => ?_) (fun c17 => ?_)
  · refine q0 ?_
    refine l_cons (o_build (cells := [.bool false, .bool false, .int .i64 (-1), .int .i64 0]) bd184 rfl rfl rfl rfl rfl ?_)
    refine l_cons (o_st tbOk h2.box rfl rfl rfl rfl (by simp [Value.cells, Value.oneCell']) rfl rfl ?_)
    intro w18 hw18 qw18 bew18
    have uw18 : UpdB _ _ _ := ⟨qw18, bew18⟩
    have sw18 := uw18.stp h2.inM hlow h2.ge
    have frw18 := qw18.2
    replace hE := hE.trans sw18.below
    replace hsub := fun b h => sw18.sub b (hsub b h)
    replace hlow := sw18.low
    replace hB := Nat.le_trans hB sw18.upd.1
    replace h2 : MB w.heap.size _ w18 b2 _ [.bool false, .bool false, .int .i64 (-1), .int .i64 0] := ⟨hw18, h2.inM, h2.ge⟩
    refine l_p 1 tbOk rfl (q1 (c_ret (x_blkR (x_seqR ?_))))
    refine x_ret2st tbOk (fun j v hv => h2.cell j v hv) rfl rfl rfl rfl rfl rfl ?_
    subst c17
    exact ⟨rfl, hE⟩
  refine q0 (l_p 2 tbOk rfl (q1 ?_))
  refine c_ifP _ rfl (fun c18 => ?_) (fun c18 => ?_)
  · refine q0 ?_
    refine l_cons (o_build (cells := [.bool true, .bool true, .int .i64 1, .int .i64 0]) bd184 rfl rfl rfl rfl rfl ?_)
    refine l_cons (o_st tbOk h2.box rfl rfl rfl rfl (by simp [Value.cells, Value.oneCell']) rfl rfl ?_)
    intro w19 hw19 qw19 bew19
    have uw19 : UpdB _ _ _ := ⟨qw19, bew19⟩
    have sw19 := uw19.stp h2.inM hlow h2.ge
    have frw19 := qw19.2
    replace hE := hE.trans sw19.below
    replace hsub := fun b h => sw19.sub b (hsub b h)
    replace hlow := sw19.low
    replace hB := Nat.le_trans hB sw19.upd.1
    replace h2 : MB w.heap.size _ w19 b2 _ [.bool true, .bool true, .int .i64 1, .int .i64 0] := ⟨hw19, h2.inM, h2.ge⟩
    refine l_p 1 tbOk rfl (q1 (c_ret (x_blkR (x_seqR ?_))))
    refine x_ret2st tbOk (fun j v hv => h2.cell j v hv) rfl rfl rfl rfl rfl rfl ?_
    subst c18
    exact ⟨rfl, hE⟩
  refine q0 (l_p 2 tbOk rfl (q1 ?_))
  refine c_ifP _ rfl (fun c19 => ?_) (fun c19 => ?_)
  · refine q0 ?_
    refine l_cons (o_build (cells := [.bool false, .bool true, .int .i64 1, .int .i64 0]) bd184 rfl rfl rfl rfl rfl ?_)
    refine l_cons (o_st tbOk h2.box rfl rfl rfl rfl (by simp [Value.cells, Value.oneCell']) rfl rfl ?_)
    intro w20 hw20 qw20 bew20
    have uw20 : UpdB _ _ _ := ⟨qw20, bew20⟩
    have sw20 := uw20.stp h2.inM hlow h2.ge
    have frw20 := qw20.2
    replace hE := hE.trans sw20.below
    replace hsub := fun b h => sw20.sub b (hsub b h)
    replace hlow := sw20.low
    replace hB := Nat.le_trans hB sw20.upd.1
    replace h2 : MB w.heap.size _ w20 b2 _ [.bool false, .bool true, .int .i64 1, .int .i64 0] := ⟨hw20, h2.inM, h2.ge⟩
    refine l_p 1 tbOk rfl (q1 (c_ret (x_blkR (x_seqR ?_))))
    refine x_ret2st tbOk (fun j v hv => h2.cell j v hv) rfl rfl rfl rfl rfl rfl ?_
    subst c19
    exact ⟨rfl, hE⟩
  refine q0 (l_p 2 tbOk rfl (q1 ?_))
  refine c_ifP _ rfl (fun c20 => ?_) (fun c20 => ?_)
  · refine q0 ?_
    refine l_cons (o_build (cells := [.bool false, .bool false, .int .i64 1, .int .i64 2]) bd184 rfl rfl rfl rfl rfl ?_)
    refine l_cons (o_st tbOk h2.box rfl rfl rfl rfl (by simp [Value.cells, Value.oneCell']) rfl rfl ?_)
    intro w21 hw21 qw21 bew21
    have uw21 : UpdB _ _ _ := ⟨qw21, bew21⟩
    have sw21 := uw21.stp h2.inM hlow h2.ge
    have frw21 := qw21.2
    replace hE := hE.trans sw21.below
    replace hsub := fun b h => sw21.sub b (hsub b h)
    replace hlow := sw21.low
    replace hB := Nat.le_trans hB sw21.upd.1
    replace h2 : MB w.heap.size _ w21 b2 _ [.bool false, .bool false, .int .i64 1, .int .i64 2] := ⟨hw21, h2.inM, h2.ge⟩
    refine l_p 1 tbOk rfl (q1 (c_ret (x_blkR (x_seqR ?_))))
    refine x_ret2st tbOk (fun j v hv => h2.cell j v hv) rfl rfl rfl rfl rfl rfl ?_
    subst c20
    exact ⟨rfl, hE⟩
  refine c_skip (x_blk (x_seq (q0 ?_)))
  refine l_cons (o_build (cells := [.bool false, .bool false, .int .i64 0, .int .i64 0]) bd184 rfl rfl rfl rfl rfl ?_)
  refine l_cons (o_st tbOk h2.box rfl rfl rfl rfl (by simp [Value.cells, Value.oneCell']) rfl rfl ?_)
  intro w22 hw22 qw22 bew22
  have uw22 : UpdB _ _ _ := ⟨qw22, bew22⟩
  have sw22 := uw22.stp h2.inM hlow h2.ge
  have frw22 := qw22.2
  replace hE := hE.trans sw22.below
  replace hsub := fun b h => sw22.sub b (hsub b h)
  replace hlow := sw22.low
  replace hB := Nat.le_trans hB sw22.upd.1
  replace h2 : MB w.heap.size _ w22 b2 _ [.bool false, .bool false, .int .i64 0, .int .i64 0] := ⟨hw22, h2.inM, h2.ge⟩
  refine l_p 1 tbOk rfl (q1 (c_ret ?_))
  refine x_ret2st tbOk (fun j v hv => h2.cell j v hv) rfl rfl rfl rfl rfl rfl ?_
  exact ⟨by unfold shp; simp [*], hE⟩
/-- named: is a name there just if one should be? -/
theorem named_spec (s : ByteArray) (b : Bool) (w : World) (hs : s.size < 140737488355328) :
    Calls Try.prog 122 #[.string s, .bool b] w (Ret fun r w' => r = .bool (namedB s b) ∧ Ext w w') := by
  have hE : Below w.heap.size w w := Below.refl _ _
  have hB : w.heap.size ≤ w.heap.size := Nat.le_refl _
  refine c_enter (n := 18) Try.func122 rfl rfl rfl ?_
  refine q0 (l_p 1 tbOk rfl (q1 (q0 (l_p 3 tbOk rfl ?_))))
  refine l_splitP 7 _ rfl (fun c1 => ?_) (fun c1 => ?_)
  · refine l_p 4 tbOk rfl ?_
    refine l_splitB 11 _ rfl (fun c2 => ?_) (fun c2 => ?_)
    · refine l_p 7 tbOk rfl (q1 (c_ret (x_ret1 rfl rfl ?_)))
      exact ⟨by congr 1; unfold namedB; simp_all, hE⟩
    refine l_p 2 tbOk rfl ?_
    refine l_split 13 _ rfl (fun c3 => ?_) (fun c3 => ?_)
    · refine l_p 1 tbOk rfl ?_
      refine l_cons (o_call fo57 rfl rfl rfl (isWord_spec _ s hs) ?_)
      rintro _ _ ⟨rfl, rfl⟩
      refine l_p 3 tbOk rfl (q1 (c_ret (x_ret1 rfl rfl ?_)))
      exact ⟨by congr 1; unfold namedB; simp_all, hE⟩
    refine l_p 5 tbOk rfl (q1 (c_ret (x_ret1 rfl rfl ?_)))
    exact ⟨by congr 1; unfold namedB; simp_all, hE⟩
  refine l_p 6 tbOk rfl ?_
  refine l_split 13 _ rfl (fun c4 => ?_) (fun c4 => ?_)
  · refine l_p 1 tbOk rfl ?_
    refine l_cons (o_call fo57 rfl rfl rfl (isWord_spec _ s hs) ?_)
    rintro _ _ ⟨rfl, rfl⟩
    refine l_p 3 tbOk rfl (q1 (c_ret (x_ret1 rfl rfl ?_)))
    exact ⟨by congr 1; unfold namedB; simp_all, hE⟩
  refine l_p 5 tbOk rfl (q1 (c_ret (x_ret1 rfl rfl ?_)))
  exact ⟨by congr 1; unfold namedB; simp_all, hE⟩
/-- blank: the zero type? -/
theorem blank_spec (t : Ty) (M : Nat → Prop) (w : World) (v : Value) (ht : Rep.R M w v t) (hlow : Low M w) :
    Calls Try.prog 133 #[v] w (Ret fun r w' => r = .bool (blankB t) ∧ Ext w w') := by
  have hE : Below w.heap.size w w := Below.refl _ _
  have hB : w.heap.size ≤ w.heap.size := Nat.le_refl _
  obtain ⟨kv, rfl, op, nm, n64, hk⟩ := ty_open ht
  refine c_enter (n := 22) Try.func133 rfl rfl rfl ?_
  refine q0 ?_
  refine l_cons (o_box rfl rfl rfl ?_)
  intro b1 w1 hb_b1 ew1 h1
  replace h1 : Box _ b1 40 [.int .u8 t.op, .string t.name, .int .i64 t.n, kv] := h1
  replace h1 := h1.at (nM_of hlow hb_b1)
  replace hE := hE.trans (Below.mono ew1 hB)
  replace ht := Rep.ext ht ew1
  replace hk := hk.ext ew1
  replace hlow := hlow.ext ew1
  replace hB := Nat.le_trans hB ew1.size
  refine l_p 1 tbOk rfl (q1 (q0 (l_p 1 tbOk rfl ?_)))
  refine l_cons (o_ld tbOk (h1.cell 0 _ rfl) rfl rfl rfl rfl rfl ?_)
  refine l_p 2 tbOk rfl ?_
  refine l_splitP 6 _ rfl (fun c1 => ?_) (fun c1 => ?_)
  · refine l_p 1 tbOk rfl ?_
    refine l_cons (o_ld tbOk (h1.cell 1 _ rfl) rfl rfl rfl rfl rfl ?_)
    refine l_p 3 tbOk rfl ?_
    refine l_splitP 11 _ rfl (fun c2 => ?_) (fun c2 => ?_)
    · refine l_p 1 tbOk rfl ?_
      refine l_cons (o_ld tbOk (h1.cell 2 _ rfl) rfl rfl rfl rfl rfl ?_)
      refine l_p 3 tbOk rfl ?_
      refine l_splitP 16 _ rfl (fun c3 => ?_) (fun c3 => ?_)
      · refine l_p 1 tbOk rfl ?_
        refine l_cons (o_ld tbOk (h1.cell 3 _ rfl) rfl rfl rfl rfl rfl ?_)
        refine l_cons (o_len tbOk hk rfl rfl rfl rfl rfl ?_)
        refine l_p 3 tbOk rfl (q1 (c_ret (x_ret1 rfl rfl ?_)))
        exact ⟨by congr 1; unfold blankB; simp_all, hE⟩
      refine l_p 6 tbOk rfl (q1 (c_ret (x_ret1 rfl rfl ?_)))
      exact ⟨by congr 1; unfold blankB; simp_all, hE⟩
    refine l_p 11 tbOk rfl (q1 (c_ret (x_ret1 rfl rfl ?_)))
    exact ⟨by congr 1; unfold blankB; simp_all, hE⟩
  refine l_p 16 tbOk rfl (q1 (c_ret (x_ret1 rfl rfl ?_)))
  exact ⟨by congr 1; unfold blankB; simp_all, hE⟩
/-- sign: of two numbers? -/
theorem sign_spec (s : ByteArray) (w : World) :
    Calls Try.prog 123 #[.string s] w (Ret fun r w' => r = .bool (signB s) ∧ w = w') := by
  refine c_enter (n := 12) Try.func123 rfl rfl rfl ?_
  refine q0 (l_p 1 tbOk rfl (q1 (c_seq (q0 (l_p 1 tbOk rfl (q1 (c_blk (c_seq (q0 (l_p 2 tbOk rfl (q1 ?_)))))))))))
  refine c_splitP 4 _ rfl (fun c1 => c_ifT rfl ?_) (fun c1 => c_ifF rfl ?_)
  · refine c_skip (x_seq (c_ifT rfl (q0 (l_p 1 tbOk rfl (q1 (c_ret (x_blkR (x_seqR (x_ret1 rfl rfl ?_)))))))))
    exact ⟨by congr 1; unfold signB; simp_all, rfl⟩
  refine q0 (l_p 2 tbOk rfl (q1 ?_))
  refine c_splitP 4 _ rfl (fun c2 => c_ifT rfl ?_) (fun c2 => c_ifF rfl ?_)
  · refine c_skip (x_seq (c_ifT rfl (q0 (l_p 1 tbOk rfl (q1 (c_ret (x_blkR (x_seqR (x_ret1 rfl rfl ?_)))))))))
    exact ⟨by congr 1; unfold signB; simp_all, rfl⟩
  refine q0 (l_p 2 tbOk rfl (q1 ?_))
  refine c_splitP 4 _ rfl (fun c3 => c_ifT rfl ?_) (fun c3 => c_ifF rfl ?_)
  · refine c_skip (x_seq (c_ifT rfl (q0 (l_p 1 tbOk rfl (q1 (c_ret (x_blkR (x_seqR (x_ret1 rfl rfl ?_)))))))))
    exact ⟨by congr 1; unfold signB; simp_all, rfl⟩
  refine q0 (l_p 2 tbOk rfl (q1 ?_))
  refine c_splitP 4 _ rfl (fun c4 => c_ifT rfl ?_) (fun c4 => c_ifF rfl ?_)
  · refine c_skip (x_seq (c_ifT rfl (q0 (l_p 1 tbOk rfl (q1 (c_ret (x_blkR (x_seqR (x_ret1 rfl rfl ?_)))))))))
    exact ⟨by congr 1; unfold signB; simp_all, rfl⟩
  refine q0 (l_p 2 tbOk rfl (q1 ?_))
  refine c_splitP 4 _ rfl (fun c5 => c_ifT rfl ?_) (fun c5 => c_ifF rfl ?_)
  · refine c_skip (x_seq (c_ifT rfl (q0 (l_p 1 tbOk rfl (q1 (c_ret (x_blkR (x_seqR (x_ret1 rfl rfl ?_)))))))))
    exact ⟨by congr 1; unfold signB; simp_all, rfl⟩
  refine q0 (l_p 2 tbOk rfl (q1 ?_))
  refine c_splitP 4 _ rfl (fun c6 => c_ifT rfl ?_) (fun c6 => c_ifF rfl ?_)
  · refine c_skip (x_seq (c_ifT rfl (q0 (l_p 1 tbOk rfl (q1 (c_ret (x_blkR (x_seqR (x_ret1 rfl rfl ?_)))))))))
    exact ⟨by congr 1; unfold signB; simp_all, rfl⟩
  refine c_reg (l_p 2 tbOk rfl (q1 ?_))
  refine c_splitP 4 _ rfl (fun c7 => c_ifT rfl ?_) (fun c7 => c_ifF rfl ?_)
  · refine q0 (l_p 1 tbOk rfl (q1 (c_ret (x_blkR (x_seqR (x_ret1 rfl rfl ?_))))))
    exact ⟨by congr 1; unfold signB; simp_all, rfl⟩
  refine c_skip (x_blk (x_seq (q0 (l_p 1 tbOk rfl (q1 (c_ret (x_ret1 rfl rfl ?_)))))))
  exact ⟨by congr 1; unfold signB; simp_all, rfl⟩
/-- arm: may a kid of a case be of this op? -/
theorem arm_spec (op : Int) (b : Bool) (w : World) :
    Calls Try.prog 124 #[.int .u8 op, .bool b] w (Ret fun r w' => r = .bool (armB op b) ∧ w = w') := by
  refine c_enter (n := 14) Try.func124 rfl rfl rfl ?_
  refine q0 (l_p 1 tbOk rfl (q1 (q0 (l_p 3 tbOk rfl ?_))))
  refine l_splitP 7 _ rfl (fun c1 => ?_) (fun c1 => ?_)
  · refine l_p 7 tbOk rfl (q1 (c_ret (x_ret1 rfl rfl ?_)))
    exact ⟨by congr 1; unfold armB; simp_all, rfl⟩
  refine l_p 3 tbOk rfl ?_
  refine l_splitP 10 _ rfl (fun c2 => ?_) (fun c2 => ?_)
  · refine l_p 4 tbOk rfl (q1 (c_ret (x_ret1 rfl rfl ?_)))
    exact ⟨by congr 1; unfold armB; simp_all, rfl⟩
  refine l_p 4 tbOk rfl (q1 (c_ret (x_ret1 rfl rfl ?_)))
  exact ⟨by congr 1; unfold armB; simp_all, rfl⟩
/-- number: may the number be? -/
theorem number_spec (t : Tm) (M : Nat → Prop) (w : World) (v : Value) (ht : Rep.R M w v t) (hlow : Low M w) :
    Calls Try.prog 120 #[v] w (Ret fun r w' => r = .bool (numberB t.op t.n) ∧ Ext w w') := by
  have hE : Below w.heap.size w w := Below.refl _ _
  have hB : w.heap.size ≤ w.heap.size := Nat.le_refl _
  obtain ⟨akv, kv, rfl, op, nm, ag, n64, ha, hk⟩ := tm_open ht
  refine c_enter (n := 23) Try.func120 rfl rfl rfl ?_
  refine q0 ?_
  refine l_cons (o_box rfl rfl rfl ?_)
  intro b1 w1 hb_b1 ew1 h1
  replace h1 : Box _ b1 84 [.int .u8 t.op, .string t.name, .string t.arg, .int .i64 t.n, .bool t.has, .int .u8 t.ann.op, .string t.ann.name, .int .i64 t.ann.n, akv, kv] := h1
  replace h1 := h1.at (nM_of hlow hb_b1)
  replace hE := hE.trans (Below.mono ew1 hB)
  replace ht := Rep.ext ht ew1
  replace ha := Rep.ext ha ew1
  replace hk := hk.ext ew1
  replace hlow := hlow.ext ew1
  replace hB := Nat.le_trans hB ew1.size
  refine l_p 1 tbOk rfl (q1 (c_seq (q0 (l_p 1 tbOk rfl ?_))))
  refine l_cons (o_ld tbOk (h1.cell 0 _ rfl) rfl rfl rfl rfl rfl ?_)
  refine q1 (c_blk (q0 (l_p 2 tbOk rfl (q1 ?_))))
  refine c_ifP _ rfl (fun c1 => ?_) (fun c1 => ?_)
  · refine q0 (l_p 1 tbOk rfl ?_)
    refine l_cons (o_ld tbOk (h1.cell 3 _ rfl) rfl rfl rfl rfl rfl ?_)
    refine l_p 2 tbOk rfl (q1 (c_ret (x_blkR (x_seqR (x_ret1 rfl rfl ?_)))))
    exact ⟨by congr 1; unfold numberB; simp_all, hE⟩
  refine q0 (l_p 2 tbOk rfl (q1 ?_))
  refine c_ifP _ rfl (fun c2 => ?_) (fun c2 => ?_)
  · refine q0 (l_p 1 tbOk rfl ?_)
    refine l_cons (o_ld tbOk (h1.cell 3 _ rfl) rfl rfl rfl rfl rfl ?_)
    refine l_p 2 tbOk rfl ?_
    refine l_splitP 15 _ rfl (fun c3 => ?_) (fun c3 => ?_)
    · refine l_p 5 tbOk rfl (q1 (c_ret (x_blkR (x_seqR (x_ret1 rfl rfl ?_)))))
      exact ⟨by congr 1; unfold numberB; simp_all, hE⟩
    refine l_p 1 tbOk rfl ?_
    refine l_cons (o_ld tbOk (h1.cell 3 _ rfl) rfl rfl rfl rfl rfl ?_)
    refine l_p 3 tbOk rfl (q1 (c_ret (x_blkR (x_seqR (x_ret1 rfl rfl ?_)))))
    exact ⟨by congr 1; unfold numberB; simp_all, hE⟩
  refine c_skip (x_blk (x_seq (q0 (l_p 1 tbOk rfl ?_))))
  refine l_cons (o_ld tbOk (h1.cell 3 _ rfl) rfl rfl rfl rfl rfl ?_)
  refine l_p 2 tbOk rfl (q1 (c_ret (x_ret1 rfl rfl ?_)))
  exact ⟨by congr 1; unfold numberB; simp_all, hE⟩
/-- noted: is the annotation as it should be? -/
theorem noted_spec (t : Tm) (a : Int) (M : Nat → Prop) (w : World) (v : Value) (ht : Rep.R M w v t) (hlow : Low M w) (hz : psz t.ann ≤ 2000000) :
    Calls Try.prog 121 #[v, .int .i64 a] w (Ret fun r w' => r = .bool (notedB t.has t.ann a) ∧ Ext w w') := by
  have hE : Below w.heap.size w w := Below.refl _ _
  have hB : w.heap.size ≤ w.heap.size := Nat.le_refl _
  obtain ⟨akv, kv, rfl, op, nm, ag, n64, ha, hk⟩ := tm_open ht
  refine c_enter (n := 26) Try.func121 rfl rfl rfl ?_
  refine q0 ?_
  refine l_cons (o_box rfl rfl rfl ?_)
  intro b2 w1 hb_b2 ew1 h2
  replace h2 : Box _ b2 84 [.int .u8 t.op, .string t.name, .string t.arg, .int .i64 t.n, .bool t.has, .int .u8 t.ann.op, .string t.ann.name, .int .i64 t.ann.n, akv, kv] := h2
  replace h2 := h2.at (nM_of hlow hb_b2)
  replace hE := hE.trans (Below.mono ew1 hB)
  replace ht := Rep.ext ht ew1
  replace ha := Rep.ext ha ew1
  replace hk := hk.ext ew1
  replace hlow := hlow.ext ew1
  replace hB := Nat.le_trans hB ew1.size
  refine l_p 1 tbOk rfl (q1 (c_seq (q0 (l_p 1 tbOk rfl ?_))))
  refine l_cons (o_ld tbOk (h2.cell 4 _ rfl) rfl rfl rfl rfl rfl ?_)
  refine q1 ?_
  refine c_if _ rfl (fun c1 => ?_) (fun c1 => ?_)
  · refine q0 (l_p 3 tbOk rfl ?_)
    refine l_splitP 9 _ rfl (fun c2 => ?_) (fun c2 => ?_)
    · refine l_p 1 tbOk rfl ?_
      refine l_cons (o_lds tbOk (fun j v hv => (h2).mid 5 (sub := [.int .u8 t.ann.op, .string t.ann.name, .int .i64 t.ann.n, akv]) rfl j v hv) rfl rfl rfl rfl rfl rfl ?_)
      refine l_cons (o_call fo78 rfl rfl rfl (kRight_specB _ _ _ _ ha hlow) ?_)
      rintro _ w2 ⟨rfl, ew2⟩
      replace hE := hE.trans (Below.mono ew2 hB)
      replace ht := Rep.ext ht ew2
      replace ha := Rep.ext ha ew2
      replace hk := hk.ext ew2
      replace h2 := h2.ext ew2
      replace hlow := hlow.ext ew2
      replace hB := Nat.le_trans hB ew2.size
      refine l_p 2 tbOk rfl ?_
      refine l_split 14 _ rfl (fun c3 => ?_) (fun c3 => ?_)
      · refine l_p 1 tbOk rfl ?_
        refine l_cons (o_lds tbOk (fun j v hv => (h2).mid 5 (sub := [.int .u8 t.ann.op, .string t.ann.name, .int .i64 t.ann.n, akv]) rfl j v hv) rfl rfl rfl rfl rfl rfl ?_)
        refine l_cons (o_call fo132 rfl rfl rfl (kClosed_spec _ _ _ _ ha hlow hz) ?_)
        rintro _ w3 ⟨rfl, ew3⟩
        replace hE := hE.trans (Below.mono ew3 hB)
        replace ht := Rep.ext ht ew3
        replace ha := Rep.ext ha ew3
        replace hk := hk.ext ew3
        replace h2 := h2.ext ew3
        replace hlow := hlow.ext ew3
        replace hB := Nat.le_trans hB ew3.size
        refine l_p 2 tbOk rfl (q1 (c_ret (x_seqR (x_ret1 rfl rfl ?_))))
        exact ⟨by congr 1; unfold notedB; simp_all <;> intros <;> omega, hE⟩
      refine l_p 5 tbOk rfl (q1 (c_ret (x_seqR (x_ret1 rfl rfl ?_))))
      exact ⟨by congr 1; unfold notedB; simp_all <;> intros <;> omega, hE⟩
    refine l_p 10 tbOk rfl (q1 (c_ret (x_seqR (x_ret1 rfl rfl ?_))))
    exact ⟨by congr 1; unfold notedB; simp_all <;> intros <;> omega, hE⟩
  refine c_skip (x_seq (q0 (l_p 3 tbOk rfl ?_)))
  refine l_splitP 21 _ rfl (fun c4 => ?_) (fun c4 => ?_)
  · refine l_p 1 tbOk rfl ?_
    refine l_cons (o_lds tbOk (fun j v hv => (h2).mid 5 (sub := [.int .u8 t.ann.op, .string t.ann.name, .int .i64 t.ann.n, akv]) rfl j v hv) rfl rfl rfl rfl rfl rfl ?_)
    refine l_cons (o_call fo133 rfl rfl rfl (blank_spec _ _ _ _ ha hlow) ?_)
    rintro _ w4 ⟨rfl, ew4⟩
    replace hE := hE.trans (Below.mono ew4 hB)
    replace ht := Rep.ext ht ew4
    replace ha := Rep.ext ha ew4
    replace hk := hk.ext ew4
    replace h2 := h2.ext ew4
    replace hlow := hlow.ext ew4
    replace hB := Nat.le_trans hB ew4.size
    refine l_p 2 tbOk rfl (q1 (c_ret (x_ret1 rfl rfl ?_)))
    exact ⟨by congr 1; unfold notedB; simp_all <;> intros <;> omega, hE⟩
  refine l_p 5 tbOk rfl (q1 (c_ret (x_ret1 rfl rfl ?_)))
  exact ⟨by congr 1; unfold notedB; simp_all <;> intros <;> omega, hE⟩
/-- right: an expression, or an arm? -/
theorem tright_spec : ∀ (t : Tm) (arms : Bool) (M : Nat → Prop) (w : World) (v : Value), Rep.R M w v t → Low M w → AnnS t → Calls Try.prog 106 #[v, .bool arms] w (Ret fun r w' => r = .bool (rightT t arms) ∧ Ext w w') := by
  refine Tm.ind fun t ih => ?_
  intro arms M w v ht hlow hz
  have hE : Below w.heap.size w w := Below.refl _ _
  have hB : w.heap.size ≤ w.heap.size := Nat.le_refl _
  obtain ⟨akv, kv, rfl, op, nm, ag, n64, ha, hk⟩ := tm_open ht
  have hlt := hk.lt
  refine c_enter (n := 120) Try.func106 rfl rfl rfl ?_
  refine q0 ?_
  refine l_cons (o_box rfl rfl rfl ?_)
  intro b2 w1 hb_b2 ew1 h2
  replace h2 : Box _ b2 84 [.int .u8 t.op, .string t.name, .string t.arg, .int .i64 t.n, .bool t.has, .int .u8 t.ann.op, .string t.ann.name, .int .i64 t.ann.n, akv, kv] := h2
  replace h2 := h2.at (nM_of hlow hb_b2)
  replace hE := hE.trans (Below.mono ew1 hB)
  replace ht := Rep.ext ht ew1
  replace ha := Rep.ext ha ew1
  replace hk := hk.ext ew1
  replace hlow := hlow.ext ew1
  replace hB := Nat.le_trans hB ew1.size
  refine l_p 1 tbOk rfl (q1 (q0 (l_p 1 tbOk rfl ?_)))
  refine l_cons (o_ld tbOk (h2.cell 0 _ rfl) rfl rfl rfl rfl rfl ?_)
  refine l_cons (o_call fo119 rfl rfl rfl (shaped_spec t.op M _ hlow) ?_)
  rintro _ w2 ⟨rfl, ew2⟩
  replace hE := hE.trans (Below.mono ew2 hB)
  replace ht := Rep.ext ht ew2
  replace ha := Rep.ext ha ew2
  replace hk := hk.ext ew2
  replace h2 := h2.ext ew2
  replace hlow := hlow.ext ew2
  replace hB := Nat.le_trans hB ew2.size
  refine l_p 3 tbOk rfl ?_
  refine l_cons (o_new tbOk rfl rfl rfl ?_)
  intro b5 w3 qb5 ew3 hb5
  have nb5 := nM_of hlow qb5
  refine l_cons (o_st tbOk hb5 rfl rfl rfl rfl (by simp [Value.cells, Value.oneCell']) rfl rfl ?_)
  intro w4 h5 uw4 bew4
  have ew4 : Ext w2 w4 := ew3.trans (bew4 _ (Nat.le_of_eq qb5.symm))
  replace hE := hE.trans (Below.mono ew4 hB)
  replace ht := Rep.ext ht ew4
  replace ha := Rep.ext ha ew4
  replace hk := hk.ext ew4
  replace h2 := h2.ext ew4
  replace hlow := hlow.ext ew4
  replace hB := Nat.le_trans hB ew4.size
  replace h5 : Box _ b5 184 [.bool (shp t.op).1, .bool (shp t.op).2.1, .int .i64 (shp t.op).2.2.1, .int .i64 (shp t.op).2.2.2.1] := h5
  replace h5 := h5.at nb5
  refine l_p 1 tbOk rfl (q1 ?_)
  refine c_cut (X := Nat) (fun b5 => [(1, .bool arms), (2, .pointer (some ⟨b2, 0, none⟩)), (5, .pointer (some ⟨b5, 0, none⟩))]) (fun b5 w' => ((shp t.op).2.2.2.2 = true ∧ (arms == armsB t.op) = true ∧ numberB t.op t.n = true ∧ notedB t.has t.ann (shp t.op).2.2.2.1 = true ∧ namedB t.arg (shp t.op).2.1 = true) ∧ At M w' b2 0 [.int .u8 t.op, .string t.name, .string t.arg, .int .i64 t.n, .bool t.has, .int .u8 t.ann.op, .string t.ann.name, .int .i64 t.ann.n, akv, kv] ∧ At M w' b5 0 [.bool (shp t.op).1, .bool (shp t.op).2.1, .int .i64 (shp t.op).2.2.1, .int .i64 (shp t.op).2.2.2.1] ∧ Sl M w' kv t.kids ∧ Low M w' ∧ Below w.heap.size w w' ∧ w.heap.size ≤ w'.heap.size) ?_ ?_
  · refine q0 (l_p 3 tbOk rfl ?_)
    refine l_splitB 18 _ rfl (fun c1 => ?_) (fun c1 => ?_)
    · refine l_p 31 tbOk rfl (q1 (c_ifT rfl (q0 (l_p 1 tbOk rfl (q1 (c_ret (x_seqR (x_ret1 rfl rfl ?_))))))))
      exact ⟨by rw [rightT_eq]; clear ih; unfold headT armsB; simp_all <;> intros <;> omega, hE⟩
    refine l_p 2 tbOk rfl ?_
    refine l_cons (o_ld tbOk (h2.cell 0 _ rfl) rfl rfl rfl rfl rfl ?_)
    refine l_p 2 tbOk rfl ?_
    refine l_splitP 23 _ rfl (fun c2 => ?_) (fun c2 => ?_)
    · refine l_p 4 tbOk rfl ?_
      refine l_cons (o_bne tbOk rfl rfl rfl rfl rfl rfl ?_)
      refine l_p 2 tbOk rfl ?_
      refine l_split 30 _ rfl (fun c3 => ?_) (fun c3 => ?_)
      · refine l_p 19 tbOk rfl (q1 (c_ifT rfl (q0 (l_p 1 tbOk rfl (q1 (c_ret (x_seqR (x_ret1 rfl rfl ?_))))))))
        exact ⟨by rw [rightT_eq]; clear ih; unfold headT armsB; simp_all <;> intros <;> omega, hE⟩
      refine l_cons (o_lds tbOk (fun j v hv => h2.cell j v hv) rfl rfl rfl rfl rfl rfl ?_)
      refine l_cons (o_call fo120 rfl rfl rfl (number_spec _ _ _ _ ht hlow) ?_)
      rintro _ w5 ⟨rfl, ew5⟩
      replace hE := hE.trans (Below.mono ew5 hB)
      replace ht := Rep.ext ht ew5
      replace ha := Rep.ext ha ew5
      replace hk := hk.ext ew5
      replace h2 := h2.ext ew5
      replace h5 := h5.ext ew5
      replace hlow := hlow.ext ew5
      replace hB := Nat.le_trans hB ew5.size
      refine l_p 3 tbOk rfl ?_
      refine l_splitB 35 _ rfl (fun c4 => ?_) (fun c4 => ?_)
      · refine l_p 14 tbOk rfl (q1 (c_ifT rfl (q0 (l_p 1 tbOk rfl (q1 (c_ret (x_seqR (x_ret1 rfl rfl ?_))))))))
        exact ⟨by rw [rightT_eq]; clear ih; unfold headT armsB; simp_all <;> intros <;> omega, hE⟩
      refine l_cons (o_lds tbOk (fun j v hv => h2.cell j v hv) rfl rfl rfl rfl rfl rfl ?_)
      refine l_p 1 tbOk rfl ?_
      refine l_cons (o_ld tbOk (h5.cell 3 _ rfl) rfl rfl rfl rfl rfl ?_)
      refine l_cons (o_call fo121 rfl rfl rfl (noted_spec _ _ _ _ _ ht hlow hz.self) ?_)
      rintro _ w6 ⟨rfl, ew6⟩
      replace hE := hE.trans (Below.mono ew6 hB)
      replace ht := Rep.ext ht ew6
      replace ha := Rep.ext ha ew6
      replace hk := hk.ext ew6
      replace h2 := h2.ext ew6
      replace h5 := h5.ext ew6
      replace hlow := hlow.ext ew6
      replace hB := Nat.le_trans hB ew6.size
      refine l_p 3 tbOk rfl ?_
      refine l_splitB 42 _ rfl (fun c5 => ?_) (fun c5 => ?_)
      · refine l_p 7 tbOk rfl (q1 (c_ifT rfl (q0 (l_p 1 tbOk rfl (q1 (c_ret (x_seqR (x_ret1 rfl rfl ?_))))))))
        exact ⟨by rw [rightT_eq]; clear ih; unfold headT armsB; simp_all <;> intros <;> omega, hE⟩
      refine l_p 1 tbOk rfl ?_
      refine l_cons (o_ld tbOk (h2.cell 2 _ rfl) rfl rfl rfl rfl rfl ?_)
      refine l_p 1 tbOk rfl ?_
      refine l_cons (o_ld tbOk (h5.cell 1 _ rfl) rfl rfl rfl rfl rfl ?_)
      refine l_cons (o_call fo122 rfl rfl rfl (named_spec _ _ _ (by first | exact nm | exact ag)) ?_)
      rintro _ w7 ⟨rfl, ew7⟩
      replace hE := hE.trans (Below.mono ew7 hB)
      replace ht := Rep.ext ht ew7
      replace ha := Rep.ext ha ew7
      replace hk := hk.ext ew7
      replace h2 := h2.ext ew7
      replace h5 := h5.ext ew7
      replace hlow := hlow.ext ew7
      replace hB := Nat.le_trans hB ew7.size
      refine l_p 2 tbOk rfl (q1 ?_)
      refine c_ifB _ rfl (fun c6 => ?_) (fun c6 => ?_)
      · refine q0 (l_p 1 tbOk rfl (q1 (c_ret (x_seqR (x_ret1 rfl rfl ?_)))))
        exact ⟨by rw [rightT_eq]; clear ih; unfold headT armsB; simp_all <;> intros <;> omega, hE⟩
      refine c_skip ?_
      exact x_cut (b5) (s3 rfl rfl rfl) ⟨by clear ih; simp_all [armsB], h2, h5, hk, hlow, hE, hB⟩
    refine l_p 1 tbOk rfl ?_
    refine l_cons (o_ld tbOk (h2.cell 0 _ rfl) rfl rfl rfl rfl rfl ?_)
    refine l_p 2 tbOk rfl ?_
    refine l_cons (o_bne tbOk rfl rfl rfl rfl rfl rfl ?_)
    refine l_p 2 tbOk rfl ?_
    refine l_split 30 _ rfl (fun c7 => ?_) (fun c7 => ?_)
    · refine l_p 19 tbOk rfl (q1 (c_ifT rfl (q0 (l_p 1 tbOk rfl (q1 (c_ret (x_seqR (x_ret1 rfl rfl ?_))))))))
      exact ⟨by rw [rightT_eq]; clear ih; unfold headT armsB; simp_all <;> intros <;> omega, hE⟩
    refine l_cons (o_lds tbOk (fun j v hv => h2.cell j v hv) rfl rfl rfl rfl rfl rfl ?_)
    refine l_cons (o_call fo120 rfl rfl rfl (number_spec _ _ _ _ ht hlow) ?_)
    rintro _ w8 ⟨rfl, ew8⟩
    replace hE := hE.trans (Below.mono ew8 hB)
    replace ht := Rep.ext ht ew8
    replace ha := Rep.ext ha ew8
    replace hk := hk.ext ew8
    replace h2 := h2.ext ew8
    replace h5 := h5.ext ew8
    replace hlow := hlow.ext ew8
    replace hB := Nat.le_trans hB ew8.size
    refine l_p 3 tbOk rfl ?_
    refine l_splitB 35 _ rfl (fun c8 => ?_) (fun c8 => ?_)
    · refine l_p 14 tbOk rfl (q1 (c_ifT rfl (q0 (l_p 1 tbOk rfl (q1 (c_ret (x_seqR (x_ret1 rfl rfl ?_))))))))
      exact ⟨by rw [rightT_eq]; clear ih; unfold headT armsB; simp_all <;> intros <;> omega, hE⟩
    refine l_cons (o_lds tbOk (fun j v hv => h2.cell j v hv) rfl rfl rfl rfl rfl rfl ?_)
    refine l_p 1 tbOk rfl ?_
    refine l_cons (o_ld tbOk (h5.cell 3 _ rfl) rfl rfl rfl rfl rfl ?_)
    refine l_cons (o_call fo121 rfl rfl rfl (noted_spec _ _ _ _ _ ht hlow hz.self) ?_)
    rintro _ w9 ⟨rfl, ew9⟩
    replace hE := hE.trans (Below.mono ew9 hB)
    replace ht := Rep.ext ht ew9
    replace ha := Rep.ext ha ew9
    replace hk := hk.ext ew9
    replace h2 := h2.ext ew9
    replace h5 := h5.ext ew9
    replace hlow := hlow.ext ew9
    replace hB := Nat.le_trans hB ew9.size
    refine l_p 3 tbOk rfl ?_
    refine l_splitB 42 _ rfl (fun c9 => ?_) (fun c9 => ?_)
    · refine l_p 7 tbOk rfl (q1 (c_ifT rfl (q0 (l_p 1 tbOk rfl (q1 (c_ret (x_seqR (x_ret1 rfl rfl ?_))))))))
      exact ⟨by rw [rightT_eq]; clear ih; unfold headT armsB; simp_all <;> intros <;> omega, hE⟩
    refine l_p 1 tbOk rfl ?_
    refine l_cons (o_ld tbOk (h2.cell 2 _ rfl) rfl rfl rfl rfl rfl ?_)
    refine l_p 1 tbOk rfl ?_
    refine l_cons (o_ld tbOk (h5.cell 1 _ rfl) rfl rfl rfl rfl rfl ?_)
    refine l_cons (o_call fo122 rfl rfl rfl (named_spec _ _ _ (by first | exact nm | exact ag)) ?_)
    rintro _ w10 ⟨rfl, ew10⟩
    replace hE := hE.trans (Below.mono ew10 hB)
    replace ht := Rep.ext ht ew10
    replace ha := Rep.ext ha ew10
    replace hk := hk.ext ew10
    replace h2 := h2.ext ew10
    replace h5 := h5.ext ew10
    replace hlow := hlow.ext ew10
    replace hB := Nat.le_trans hB ew10.size
    refine l_p 2 tbOk rfl (q1 ?_)
    refine c_ifB _ rfl (fun c10 => ?_) (fun c10 => ?_)
    · refine q0 (l_p 1 tbOk rfl (q1 (c_ret (x_seqR (x_ret1 rfl rfl ?_)))))
      exact ⟨by rw [rightT_eq]; clear ih; unfold headT armsB; simp_all <;> intros <;> omega, hE⟩
    refine c_skip ?_
    exact x_cut (b5) (s3 rfl rfl rfl) ⟨by clear ih; simp_all [armsB], h2, h5, hk, hlow, hE, hB⟩
  clear ht ha h2 hk hlow hE hB
  rintro b5 w40 ⟨⟨H1, H2, H3, H4, H5⟩, h2, h5, hk, hlow, hE, hB⟩
  refine c_cut (X := Nat) (fun b5 => [(1, .bool arms), (2, .pointer (some ⟨b2, 0, none⟩)), (5, .pointer (some ⟨b5, 0, none⟩))]) (fun b5 w' => ((shp t.op).2.2.2.2 = true ∧ (arms == armsB t.op) = true ∧ numberB t.op t.n = true ∧ notedB t.has t.ann (shp t.op).2.2.2.1 = true ∧ namedB t.arg (shp t.op).2.1 = true ∧ (bif decide (t.op = 40) then signB t.name else namedB t.name (shp t.op).1) = true) ∧ At M w' b2 0 [.int .u8 t.op, .string t.name, .string t.arg, .int .i64 t.n, .bool t.has, .int .u8 t.ann.op, .string t.ann.name, .int .i64 t.ann.n, akv, kv] ∧ At M w' b5 0 [.bool (shp t.op).1, .bool (shp t.op).2.1, .int .i64 (shp t.op).2.2.1, .int .i64 (shp t.op).2.2.2.1] ∧ Sl M w' kv t.kids ∧ Low M w' ∧ Below w.heap.size w w' ∧ w.heap.size ≤ w'.heap.size) ?_ ?_
  · refine q0 (l_p 1 tbOk rfl ?_)
    refine l_cons (o_ld tbOk (h2.cell 0 _ rfl) rfl rfl rfl rfl rfl ?_)
    refine l_p 1 tbOk rfl (q1 ?_)
    refine c_ifP _ rfl (fun c11 => ?_) (fun c11 => ?_)
    · refine q0 (l_p 1 tbOk rfl ?_)
      refine l_cons (o_ld tbOk (h2.cell 1 _ rfl) rfl rfl rfl rfl rfl ?_)
      refine l_cons (o_call fo123 rfl rfl rfl (sign_spec _ _) ?_)
      rintro _ _ ⟨rfl, rfl⟩
      refine l_p 1 tbOk rfl (q1 ?_)
      refine c_ifB _ rfl (fun c12 => ?_) (fun c12 => ?_)
      · refine q0 (l_p 1 tbOk rfl (q1 (c_ret (x_seqR (x_ret1 rfl rfl ?_)))))
        exact ⟨by rw [rightT_eq]; clear ih; unfold headT armsB; simp_all <;> intros <;> omega, hE⟩
      refine c_skip ?_
      exact x_cut (b5) (s3 rfl rfl rfl) ⟨by clear ih; simp_all, h2, h5, hk, hlow, hE, hB⟩
    refine q0 (l_p 1 tbOk rfl ?_)
    refine l_cons (o_ld tbOk (h2.cell 1 _ rfl) rfl rfl rfl rfl rfl ?_)
    refine l_p 1 tbOk rfl ?_
    refine l_cons (o_ld tbOk (h5.cell 0 _ rfl) rfl rfl rfl rfl rfl ?_)
    refine l_cons (o_call fo122 rfl rfl rfl (named_spec _ _ _ (by first | exact nm | exact ag)) ?_)
    rintro _ w11 ⟨rfl, ew11⟩
    replace hE := hE.trans (Below.mono ew11 hB)
    replace h2 := h2.ext ew11
    replace h5 := h5.ext ew11
    replace hk := hk.ext ew11
    replace hlow := hlow.ext ew11
    replace hB := Nat.le_trans hB ew11.size
    refine l_p 1 tbOk rfl (q1 ?_)
    refine c_ifB _ rfl (fun c13 => ?_) (fun c13 => ?_)
    · refine q0 (l_p 1 tbOk rfl (q1 (c_ret (x_seqR (x_ret1 rfl rfl ?_)))))
      exact ⟨by rw [rightT_eq]; clear ih; unfold headT armsB; simp_all <;> intros <;> omega, hE⟩
    refine c_skip ?_
    exact x_cut (b5) (s3 rfl rfl rfl) ⟨by clear ih; simp_all, h2, h5, hk, hlow, hE, hB⟩
  clear h2 h5 hk hlow hE hB
  rintro b5 w90 ⟨⟨H1, H2, H3, H4, H5, H6⟩, h2, h5, hk, hlow, hE, hB⟩
  refine c_cut (X := Nat) (fun b5 => [(1, .bool arms), (2, .pointer (some ⟨b2, 0, none⟩)), (5, .pointer (some ⟨b5, 0, none⟩))]) (fun b5 w' => headT t arms = true ∧ At M w' b2 0 [.int .u8 t.op, .string t.name, .string t.arg, .int .i64 t.n, .bool t.has, .int .u8 t.ann.op, .string t.ann.name, .int .i64 t.ann.n, akv, kv] ∧ At M w' b5 0 [.bool (shp t.op).1, .bool (shp t.op).2.1, .int .i64 (shp t.op).2.2.1, .int .i64 (shp t.op).2.2.2.1] ∧ Sl M w' kv t.kids ∧ Low M w' ∧ Below w.heap.size w w' ∧ w.heap.size ≤ w'.heap.size) ?_ ?_
  · refine q0 (l_p 1 tbOk rfl ?_)
    refine l_cons (o_ld tbOk (h5.cell 2 _ rfl) rfl rfl rfl rfl rfl ?_)
    refine l_p 2 tbOk rfl ?_
    refine l_splitP 66 _ rfl (fun c14 => ?_) (fun c14 => ?_)
    · refine l_p 1 tbOk rfl ?_
      refine l_cons (o_ld tbOk (h2.cell 9 _ rfl) rfl rfl rfl rfl rfl ?_)
      refine l_cons (o_len tbOk hk rfl rfl rfl rfl rfl ?_)
      refine l_p 1 tbOk rfl ?_
      refine l_cons (o_ld tbOk (h5.cell 2 _ rfl) rfl rfl rfl rfl rfl ?_)
      refine l_p 3 tbOk rfl ?_
      refine l_splitN 74 _ rfl (fun c15 => ?_) (fun c15 => ?_)
      · refine l_p 10 tbOk rfl (q1 (c_ifT rfl (q0 (l_p 1 tbOk rfl (q1 (c_ret (x_seqR (x_ret1 rfl rfl ?_))))))))
        exact ⟨by rw [rightT_eq]; clear ih; unfold headT armsB; simp_all <;> intros <;> omega, hE⟩
      refine l_p 1 tbOk rfl ?_
      refine l_cons (o_ld tbOk (h5.cell 2 _ rfl) rfl rfl rfl rfl rfl ?_)
      refine l_p 2 tbOk rfl ?_
      refine l_splitP 78 _ rfl (fun c16 => ?_) (fun c16 => ?_)
      · refine l_p 1 tbOk rfl ?_
        refine l_cons (o_ld tbOk (h2.cell 9 _ rfl) rfl rfl rfl rfl rfl ?_)
        refine l_cons (o_len tbOk hk rfl rfl rfl rfl rfl ?_)
        refine l_p 3 tbOk rfl (q1 ?_)
        refine c_ifP _ rfl (fun c17 => ?_) (fun c17 => ?_)
        · refine q0 (l_p 1 tbOk rfl (q1 (c_ret (x_seqR (x_ret1 rfl rfl ?_)))))
          exact ⟨by rw [rightT_eq]; clear ih; unfold headT armsB; simp_all <;> intros <;> omega, hE⟩
        refine c_skip ?_
        exact x_cut (b5) (s3 rfl rfl rfl) ⟨by clear ih; simp_all [headT], h2, h5, hk, hlow, hE, hB⟩
      refine l_p 6 tbOk rfl (q1 (c_ifF rfl (c_skip ?_)))
      exact x_cut (b5) (s3 rfl rfl rfl) ⟨by clear ih; simp_all [headT], h2, h5, hk, hlow, hE, hB⟩
    refine l_p 9 tbOk rfl ?_
    refine l_cons (o_ld tbOk (h5.cell 2 _ rfl) rfl rfl rfl rfl rfl ?_)
    refine l_p 2 tbOk rfl ?_
    refine l_splitP 78 _ rfl (fun c18 => ?_) (fun c18 => ?_)
    · refine l_p 1 tbOk rfl ?_
      refine l_cons (o_ld tbOk (h2.cell 9 _ rfl) rfl rfl rfl rfl rfl ?_)
      refine l_cons (o_len tbOk hk rfl rfl rfl rfl rfl ?_)
      refine l_p 3 tbOk rfl (q1 ?_)
      refine c_ifP _ rfl (fun c19 => ?_) (fun c19 => ?_)
      · refine q0 (l_p 1 tbOk rfl (q1 (c_ret (x_seqR (x_ret1 rfl rfl ?_)))))
        exact ⟨by rw [rightT_eq]; clear ih; unfold headT armsB; simp_all <;> intros <;> omega, hE⟩
      refine c_skip ?_
      exact x_cut (b5) (s3 rfl rfl rfl) ⟨by clear ih; simp_all [headT], h2, h5, hk, hlow, hE, hB⟩
    refine l_p 6 tbOk rfl (q1 (c_ifF rfl (c_skip ?_)))
    exact x_cut (b5) (s3 rfl rfl rfl) ⟨by clear ih; simp_all [headT], h2, h5, hk, hlow, hE, hB⟩
  clear h2 h5 hk hlow hE hB
  rintro b5 w110 ⟨HH, h2, h5, hk, hlow, hE, hB⟩
  refine c_seq (q0 (l_p 1 tbOk rfl ?_))
  refine l_cons (o_ld tbOk (h2.cell 9 _ rfl) rfl rfl rfl rfl rfl ?_)
  refine l_cons (o_len tbOk hk rfl rfl rfl rfl rfl ?_)
  refine l_p 1 tbOk rfl (q1 (c_blk ?_))
  refine c_loop (X := Nat) (fun i => [(1, .bool arms), (2, .pointer (some ⟨b2, 0, none⟩)), (86, kv), (87, .int .i64 (t.kids.length : Int)), (88, .int .i64 (i : Nat))]) (fun i w' => i ≤ t.kids.length ∧ rightT t arms = kidsT t.op i (kidL (t.kids.drop i)) ∧ At M w' b2 0 [.int .u8 t.op, .string t.name, .string t.arg, .int .i64 t.n, .bool t.has, .int .u8 t.ann.op, .string t.ann.name, .int .i64 t.ann.n, akv, kv] ∧ Sl M w' kv t.kids ∧ Low M w' ∧ Below w.heap.size w w' ∧ w.heap.size ≤ w'.heap.size) (fun i => t.kids.length - i) (0) (s5 rfl rfl rfl rfl rfl) ?_ ?_
  · exact ⟨Nat.zero_le _, by rw [rightT_eq, HH]; rfl, h2, hk, hlow, hE, hB⟩
  rintro i w12 ⟨hi, hinv, h2, hk, hlow, hE, hB⟩
  refine q0 (l_p 1 tbOk rfl (q1 (c_seq ?_)))
  refine c_ifP _ rfl (fun c20 => ?_) (fun c20 => ?_)
  · refine c_skip (x_seq (c_seq (c_blk (q0 (l_p 1 tbOk rfl ?_)))))
    have hik : i < t.kids.length := by omega
    have hlast : decide ((i : Int) = (t.kids.length : Int) - 1) = decide (i + 1 = t.kids.length) := by rw [decide_eq_decide]; omega
    refine l_cons (o_ixS tbOk hk (List.getElem?_eq_getElem hik) rfl rfl rfl rfl rfl rfl rfl rfl rfl ?_)
    intro ebx eox eux hyx hatx
    obtain ⟨akvx, kvx, rfl, opx, nmx, agx, n64x, hax, hkx⟩ := tm_open hyx
    replace hatx : At M w12 ebx eox [.int .u8 t.kids[i].op, .string t.kids[i].name, .string t.kids[i].arg, .int .i64 t.kids[i].n, .bool t.kids[i].has, .int .u8 t.kids[i].ann.op, .string t.kids[i].ann.name, .int .i64 t.kids[i].ann.n, akvx, kvx] := hatx
    refine l_cons (o_lds tbOk (fun j v hv => hatx.cell j v hv) rfl rfl rfl rfl rfl rfl ?_)
    refine l_cons (o_new tbOk rfl rfl rfl ?_)
    intro b8 w13 qb8 ew13 hb8
    have nb8 := nM_of hlow qb8
    refine l_p 1 tbOk rfl ?_
    refine l_cons (o_st tbOk hb8 rfl rfl rfl rfl (Rep.one hyx) rfl rfl ?_)
    intro w14 h8 uw14 bew14
    have ew14 : Ext w12 w14 := ew13.trans (bew14 _ (Nat.le_of_eq qb8.symm))
    replace hE := hE.trans (Below.mono ew14 hB)
    replace h2 := h2.ext ew14
    replace hk := hk.ext ew14
    replace hyx := Rep.ext hyx ew14
    replace hax := Rep.ext hax ew14
    replace hkx := hkx.ext ew14
    replace hatx := hatx.ext ew14
    replace hlow := hlow.ext ew14
    replace hB := Nat.le_trans hB ew14.size
    replace h8 : Box w14 b8 84 [.int .u8 t.kids[i].op, .string t.kids[i].name, .string t.kids[i].arg, .int .i64 t.kids[i].n, .bool t.kids[i].has, .int .u8 t.kids[i].ann.op, .string t.kids[i].ann.name, .int .i64 t.kids[i].ann.n, akvx, kvx] := h8
    replace h8 := h8.at nb8
    refine q1 (q0 (l_p 1 tbOk rfl ?_))
    refine l_cons (o_ld tbOk (h2.cell 0 _ rfl) rfl rfl rfl rfl rfl ?_)
    refine l_p 2 tbOk rfl ?_
    refine l_splitP 96 _ rfl (fun c21 => ?_) (fun c21 => ?_)
    · refine l_p 4 tbOk rfl (q1 (q0 (l_p 2 tbOk rfl ?_)))
      refine l_splitP 101 _ rfl (fun c22 => ?_) (fun c22 => ?_)
      · refine l_p 1 tbOk rfl ?_
        refine l_cons (o_ld tbOk (h8.cell 0 _ rfl) rfl rfl rfl rfl rfl ?_)
        refine l_p 2 tbOk rfl ?_
        refine l_cons (o_ld tbOk (h2.cell 9 _ rfl) rfl rfl rfl rfl rfl ?_)
        refine l_cons (o_len tbOk hk rfl rfl rfl rfl rfl ?_)
        refine l_cons (o_ar rfl rfl rfl (IntWalk.i64_in _ (by omega)) rfl rfl ?_)
        refine l_p 1 tbOk rfl ?_
        refine l_cons (o_call fo124 rfl rfl rfl (arm_spec _ _ _) ?_)
        rintro _ _ ⟨rfl, rfl⟩
        rw [hlast]
        refine l_p 3 tbOk rfl ?_
        refine l_splitB 113 _ rfl (fun c23 => ?_) (fun c23 => ?_)
        · refine l_p 5 tbOk rfl (q1 (c_ifT rfl (q0 (l_p 1 tbOk rfl (q1 (c_ret (x_blkR (x_seqR (x_seqR (x_blkR (x_seqR (x_ret1 rfl rfl ?_))))))))))))
          exact ⟨by rw [hinv, kidsT_step hik]; clear ih; unfold innerB; simp_all, hE⟩
        refine l_cons (o_lds tbOk (fun j v hv => h8.cell j v hv) rfl rfl rfl rfl rfl rfl ?_)
        refine l_p 1 tbOk rfl ?_
        refine l_cons (o_call fo106 rfl rfl rfl (ih _ (List.getElem_mem hik) _ M _ _ hyx hlow (hz.kid (List.getElem_mem hik))) ?_)
        rintro _ w15 ⟨rfl, ew15⟩
        replace hE := hE.trans (Below.mono ew15 hB)
        replace h2 := h2.ext ew15
        replace hk := hk.ext ew15
        replace hyx := Rep.ext hyx ew15
        replace hax := Rep.ext hax ew15
        replace hkx := hkx.ext ew15
        replace hatx := hatx.ext ew15
        replace h8 := h8.ext ew15
        replace hlow := hlow.ext ew15
        replace hB := Nat.le_trans hB ew15.size
        refine l_p 2 tbOk rfl (q1 ?_)
        refine c_ifB _ rfl (fun c24 => ?_) (fun c24 => ?_)
        · refine q0 (l_p 1 tbOk rfl (q1 (c_ret (x_blkR (x_seqR (x_seqR (x_blkR (x_seqR (x_ret1 rfl rfl ?_)))))))))
          exact ⟨by rw [hinv, kidsT_step hik]; clear ih; unfold innerB; simp_all, hE⟩
        refine c_skip (x_blk (x_seq (c_reg ?_)))
        refine l_cons (o_ar rfl rfl rfl (IntWalk.i64_in _ (by omega)) rfl rfl ?_)
        refine l_p 1 tbOk rfl (l_nil ?_)
        exact x_round (i + 1) (s5 rfl rfl rfl rfl (get_num rfl (by omega))) ⟨by omega, by rw [hinv, kidsT_step hik]; clear ih; unfold innerB; simp_all, h2, hk, hlow, hE, hB⟩ (by omega)
      refine l_p 12 tbOk rfl ?_
      refine l_cons (o_lds tbOk (fun j v hv => h8.cell j v hv) rfl rfl rfl rfl rfl rfl ?_)
      refine l_p 1 tbOk rfl ?_
      refine l_cons (o_call fo106 rfl rfl rfl (ih _ (List.getElem_mem hik) _ M _ _ hyx hlow (hz.kid (List.getElem_mem hik))) ?_)
      rintro _ w16 ⟨rfl, ew16⟩
      replace hE := hE.trans (Below.mono ew16 hB)
      replace h2 := h2.ext ew16
      replace hk := hk.ext ew16
      replace hyx := Rep.ext hyx ew16
      replace hax := Rep.ext hax ew16
      replace hkx := hkx.ext ew16
      replace hatx := hatx.ext ew16
      replace h8 := h8.ext ew16
      replace hlow := hlow.ext ew16
      replace hB := Nat.le_trans hB ew16.size
      refine l_p 2 tbOk rfl (q1 ?_)
      refine c_ifB _ rfl (fun c25 => ?_) (fun c25 => ?_)
      · refine q0 (l_p 1 tbOk rfl (q1 (c_ret (x_blkR (x_seqR (x_seqR (x_blkR (x_seqR (x_ret1 rfl rfl ?_)))))))))
        exact ⟨by rw [hinv, kidsT_step hik]; clear ih; unfold innerB; simp_all, hE⟩
      refine c_skip (x_blk (x_seq (c_reg ?_)))
      refine l_cons (o_ar rfl rfl rfl (IntWalk.i64_in _ (by omega)) rfl rfl ?_)
      refine l_p 1 tbOk rfl (l_nil ?_)
      exact x_round (i + 1) (s5 rfl rfl rfl rfl (get_num rfl (by omega))) ⟨by omega, by rw [hinv, kidsT_step hik]; clear ih; unfold innerB; simp_all, h2, hk, hlow, hE, hB⟩ (by omega)
    refine l_p 4 tbOk rfl (q1 (q0 (l_p 14 tbOk rfl ?_)))
    refine l_cons (o_lds tbOk (fun j v hv => h8.cell j v hv) rfl rfl rfl rfl rfl rfl ?_)
    refine l_p 1 tbOk rfl ?_
    refine l_cons (o_call fo106 rfl rfl rfl (ih _ (List.getElem_mem hik) _ M _ _ hyx hlow (hz.kid (List.getElem_mem hik))) ?_)
    rintro _ w17 ⟨rfl, ew17⟩
    replace hE := hE.trans (Below.mono ew17 hB)
    replace h2 := h2.ext ew17
    replace hk := hk.ext ew17
    replace hyx := Rep.ext hyx ew17
    replace hax := Rep.ext hax ew17
    replace hkx := hkx.ext ew17
    replace hatx := hatx.ext ew17
    replace h8 := h8.ext ew17
    replace hlow := hlow.ext ew17
    replace hB := Nat.le_trans hB ew17.size
    refine l_p 2 tbOk rfl (q1 ?_)
    refine c_ifB _ rfl (fun c26 => ?_) (fun c26 => ?_)
    · refine q0 (l_p 1 tbOk rfl (q1 (c_ret (x_blkR (x_seqR (x_seqR (x_blkR (x_seqR (x_ret1 rfl rfl ?_)))))))))
      exact ⟨by rw [hinv, kidsT_step hik]; clear ih; unfold innerB; simp_all, hE⟩
    refine c_skip (x_blk (x_seq (c_reg ?_)))
    refine l_cons (o_ar rfl rfl rfl (IntWalk.i64_in _ (by omega)) rfl rfl ?_)
    refine l_p 1 tbOk rfl (l_nil ?_)
    exact x_round (i + 1) (s5 rfl rfl rfl rfl (get_num rfl (by omega))) ⟨by omega, by rw [hinv, kidsT_step hik]; clear ih; unfold innerB; simp_all, h2, hk, hlow, hE, hB⟩ (by omega)
  refine c_exit (x_seqE (x_seqE (x_blkE (x_seq (q0 (l_p 1 tbOk rfl (q1 (c_ret (x_ret1 rfl rfl ?_)))))))))
  exact ⟨by rw [hinv, kidsT_end (by omega)], hE⟩
/-- Right: is it an expression? -/
theorem tRight_spec (t : Tm) (M : Nat → Prop) (w : World) (v : Value) (ht : Rep.R M w v t) (hlow : Low M w) (hz : AnnS t) :
    Calls Try.prog 76 #[v] w (Ret fun r w' => r = .bool (rightT t false) ∧ Ext w w') := by
  have hE : Below w.heap.size w w := Below.refl _ _
  have hB : w.heap.size ≤ w.heap.size := Nat.le_refl _
  obtain ⟨akv, kv, rfl, op, nm, ag, n64, ha, hk⟩ := tm_open ht
  refine c_enter (n := 5) Try.func76 rfl rfl rfl ?_
  refine q0 ?_
  refine l_cons (o_box rfl rfl rfl ?_)
  intro b1 w1 hb_b1 ew1 h1
  replace h1 : Box _ b1 84 [.int .u8 t.op, .string t.name, .string t.arg, .int .i64 t.n, .bool t.has, .int .u8 t.ann.op, .string t.ann.name, .int .i64 t.ann.n, akv, kv] := h1
  replace h1 := h1.at (nM_of hlow hb_b1)
  replace hE := hE.trans (Below.mono ew1 hB)
  replace ht := Rep.ext ht ew1
  replace ha := Rep.ext ha ew1
  replace hk := hk.ext ew1
  replace hlow := hlow.ext ew1
  replace hB := Nat.le_trans hB ew1.size
  refine l_p 1 tbOk rfl (q1 (q0 ?_))
  refine l_cons (o_lds tbOk (fun j v hv => h1.cell j v hv) rfl rfl rfl rfl rfl rfl ?_)
  refine l_cons (o_call fo106 rfl rfl rfl (tright_spec _ _ _ _ _ ht hlow hz) ?_)
  rintro _ w2 ⟨rfl, ew2⟩
  replace hE := hE.trans (Below.mono ew2 hB)
  replace ht := Rep.ext ht ew2
  replace ha := Rep.ext ha ew2
  replace hk := hk.ext ew2
  replace h1 := h1.ext ew2
  replace hlow := hlow.ext ew2
  replace hB := Nat.le_trans hB ew2.size
  refine l_p 1 tbOk rfl (q1 (c_ret (x_ret1 rfl rfl ?_)))
  exact ⟨rfl, hE⟩
end Go.Proofs.Ytohfnpmehgpphaa
namespace Rw
open Go Go.RowKit
/-- A whole number as 64 bits without a sign. -/
def u64 (z : Int) : Nat := (z % 18446744073709551616).toNat
theorem u64_lt (z : Int) : u64 z < 18446744073709551616 := by unfold u64; omega
theorem u64_nat {n : Nat} (h : n < 18446744073709551616) : u64 (n : Int) = n := by unfold u64; omega
theorem wrap_u64 (z : Int) : IntKind.wrap .u64 z = ((u64 z : Nat) : Int) := by
  unfold u64
  simp [IntKind.wrap, IntKind.signed, IntKind.bits]
  omega
theorem wrap_u8 (n : Nat) : IntKind.wrap .u8 (n : Int) = ((n % 256 : Nat) : Int) := by
  simp [IntKind.wrap, IntKind.signed, IntKind.bits]
theorem or_128 {m : Nat} (h : m < 256) : IntKind.wrap .u8 ((BitVec.ofInt 8 (m : Int) ||| BitVec.ofInt 8 128).toNat : Int) = ((UInt8.ofNat (128 + m % 128)).toNat : Int) := by
  have key : ∀ m : Fin 256, (BitVec.ofInt 8 ((m.1 : Nat) : Int) ||| BitVec.ofInt 8 128).toNat = 128 + m.1 % 128 := by decide +kernel
  have := key ⟨m, h⟩
  rw [show (BitVec.ofInt 8 (m : Int) ||| BitVec.ofInt 8 128).toNat = 128 + m % 128 from this, wrap_u8, UInt8.toNat_ofNat']
theorem and_127 (c : UInt8) : IntKind.wrap .u8 ((BitVec.ofInt 8 (c.toNat : Int) &&& BitVec.ofInt 8 127).toNat : Int) = ((c.toNat % 128 : Nat) : Int) := by
  have key : ∀ m : Fin 256, (BitVec.ofInt 8 ((m.1 : Nat) : Int) &&& BitVec.ofInt 8 127).toNat = m.1 % 128 := by decide +kernel
  have hc := c.toNat_lt
  have := key ⟨c.toNat, hc⟩
  rw [show (BitVec.ofInt 8 (c.toNat : Int) &&& BitVec.ofInt 8 127).toNat = c.toNat % 128 from this, wrap_u8, Nat.mod_eq_of_lt (show c.toNat % 128 < 256 by omega)]
theorem or_add {n x i : Nat} (hn : n < 2 ^ i) (h : n + x * 2 ^ i < 18446744073709551616) : IntKind.wrap .u64 ((BitVec.ofInt 64 (n : Int) ||| BitVec.ofInt 64 ((x * 2 ^ i : Nat) : Int)).toNat : Int) = ((n + x * 2 ^ i : Nat) : Int) := by
  have e1 : (BitVec.ofInt 64 (n : Int)).toNat = n := by rw [BitVec.toNat_ofInt]; omega
  have e2 : (BitVec.ofInt 64 ((x * 2 ^ i : Nat) : Int)).toNat = x * 2 ^ i := by rw [BitVec.toNat_ofInt]; omega
  rw [BitVec.toNat_or, e1, e2, Nat.or_comm, Nat.mul_comm x, ← Nat.two_pow_add_eq_or_of_lt hn, wrap_u64, u64_nat (by rw [Nat.mul_comm] at h; omega), Nat.add_comm]
section
variable {P : Program} {T : Tab} {n : Nat} {ops : Array Oper} {Q : Exit → Act → World → Prop} {G : Env} {w : World} {K : Env → World → Prop}
  {d ty : Nat} {pos : String} {af : Array Edge} {g : Option (Nat × Bool)}
theorem o_or {t t' : TypeId} {x y : Operand} {k : IntKind} {a b r : Int} (hx : Env.ev G x = some (.int k a)) (hy : Env.ev G y = some (.int k b)) (hr : k.wrap ((BitVec.ofInt k.bits a ||| BitVec.ofInt k.bits b).toNat) = r)
    (hg : gd ops G ⟨some d, .binOp .or t x y t', ty, pos, af, g⟩ = some true) (hdn : Nat.blt d n = true) (h : K ((d, .int k r) :: G) w) : OW P n ops Q G w ⟨some d, .binOp .or t x y t', ty, pos, af, g⟩ K := by
  refine o_val hg rfl hdn (fun ac ha => ?_) h
  simp [execOp, ha.ev hx, ha.ev hy, eqGuard, binOp, Op.intBits, ← hr]
theorem o_and {t t' : TypeId} {x y : Operand} {k : IntKind} {a b r : Int} (hx : Env.ev G x = some (.int k a)) (hy : Env.ev G y = some (.int k b)) (hr : k.wrap ((BitVec.ofInt k.bits a &&& BitVec.ofInt k.bits b).toNat) = r)
    (hg : gd ops G ⟨some d, .binOp .and t x y t', ty, pos, af, g⟩ = some true) (hdn : Nat.blt d n = true) (h : K ((d, .int k r) :: G) w) : OW P n ops Q G w ⟨some d, .binOp .and t x y t', ty, pos, af, g⟩ K := by
  refine o_val hg rfl hdn (fun ac ha => ?_) h
  simp [execOp, ha.ev hx, ha.ev hy, eqGuard, binOp, Op.intBits, ← hr]
theorem o_shl {t t' : TypeId} {x y : Operand} {k k2 : IntKind} {a r : Int} {s : Nat} (hx : Env.ev G x = some (.int k a)) (hy : Env.ev G y = some (.int k2 (s : Int))) (hs : s ≤ k.bits) (hr : k.wrap (a * 2 ^ s) = r)
    (hg : gd ops G ⟨some d, .binOp .shl t x y t', ty, pos, af, g⟩ = some true) (hdn : Nat.blt d n = true) (h : K ((d, .int k r) :: G) w) : OW P n ops Q G w ⟨some d, .binOp .shl t x y t', ty, pos, af, g⟩ K := by
  refine o_val hg rfl hdn (fun ac ha => ?_) h
  have h0 : ¬ ((s : Int) < 0) := by omega
  simp [execOp, ha.ev hx, ha.ev hy, eqGuard, binOp, Op.shift, h0, Nat.min_eq_left hs, ← hr]
theorem o_shr7 {t t' : TypeId} {x y : Operand} {k2 : IntKind} {m : Nat} (hx : Env.ev G x = some (.int .u64 (m : Int))) (hy : Env.ev G y = some (.int k2 7))
    (hg : gd ops G ⟨some d, .binOp .shr t x y t', ty, pos, af, g⟩ = some true) (hdn : Nat.blt d n = true) (h : K ((d, .int .u64 ((m / 128 : Nat) : Int)) :: G) w) : OW P n ops Q G w ⟨some d, .binOp .shr t x y t', ty, pos, af, g⟩ K := by
  refine o_val hg rfl hdn (fun ac ha => ?_) h
  have e : (m : Int).fdiv 128 = ((m / 128 : Nat) : Int) := by rw [Int.fdiv_eq_ediv_of_nonneg _ (by omega)]; omega
  simp [execOp, ha.ev hx, ha.ev hy, eqGuard, binOp, Op.shift, IntKind.bits, e]
/-- Bytes as a text. -/
theorem o_b2s {src dst e : TypeId} {x : Operand} {M : Nat → Prop} {v : Value} {l : List UInt8} {ti te ts : TI} (hT : TabOk P T) (hs : Sl M w v l) (hx : Env.ev G x = some v) (ht : T.get src = some ti) (htd : ti.d = .sl e) (hte : T.get e = some te) (hted : te.d = .int .u8) (hd : T.get dst = some ts) (hdd : ts.d = .str)
    (hg : gd ops G ⟨some d, .convert src dst x, ty, pos, af, g⟩ = some true) (hdn : Nat.blt d n = true) (h : K ((d, .string ⟨l.toArray⟩) :: G) w) : OW P n ops Q G w ⟨some d, .convert src dst x, ty, pos, af, g⟩ K := by
  have h1 := (hT src ti ht).d
  rw [htd] at h1
  have h2 := (hT e te hte).d
  rw [hted] at h2
  have h3 := (hT dst ts hd).d
  rw [hdd] at h3
  simp only [TD.Ok] at h1 h2 h3
  obtain ⟨a, c, rfl, _, _, hel⟩ := hs
  have hrun : (convert src dst (.slice a l.length c)).run P w = .ok (.string ⟨l.toArray⟩) w := by
    cases a with
    | none =>
      rcases hel with rfl | ⟨b, off, ha, _⟩
      · exact Go.Lib.run_convert_nil_bytes w src dst e c h1 h2 h3
      · cases ha
    | some a =>
      refine run_convert_bytes_back w src dst e a c l h1 h2 h3 fun j hj => ?_
      rcases hel with rfl | ⟨b, off, ha, hel⟩
      · simp at hj
      · cases ha
        obtain ⟨u, hu, hat⟩ := hel j l[j] (List.getElem?_eq_getElem hj)
        have hu' : u = .int .u8 l[j].toNat := hu
        subst hu'
        have := hat.cell 0 (.int .u8 l[j].toNat) rfl
        rw [addr_add]
        simpa [Rep.sz] using this
  exact o_val hg rfl hdn (fun ac ha => by simp [execOp, ha.ev hx, hrun]) h
/-- A text's bytes read as bytes. -/
theorem rs_bytes (M : Nat → Prop) (w : World) : ∀ l : List UInt8, Rs M w (l.map fun b => Value.int .u8 b.toNat) l
  | [] => trivial
  | _ :: l => ⟨rfl, rs_bytes M w l⟩
theorem flat_bytes : ∀ l : List UInt8, flat (l.map fun b => Value.int .u8 b.toNat) = l.map fun b => Value.int .u8 b.toNat
  | [] => rfl
  | c :: l => by
    have := flat_bytes l
    unfold flat at this ⊢
    rw [List.map_cons, List.flatMap_cons, this]; rfl
/-- append(v, s...): a text's bytes onto a slice of the call's own. -/
theorem o_appS {t tx e B : Nat} {x y : Operand} {ti te ts : TI} {M : Nat → Prop} {v : Value} {l : List UInt8} {s : ByteArray} (hT : TabOk P T) (hown : OwnSl e B M w v l) (hl : Low M w) (hB : B ≤ w.heap.size)
    (hx : Env.ev G x = some v) (hy : Env.ev G y = some (.string s)) (ht : T.get t = some ti) (htd : ti.d = .sl e) (hte : T.get e = some te) (hrs : te.size = 1) (hz : te.zero.cells.size = te.size) (hs : T.get tx = some ts) (hsd : ts.d = .str)
    (h63 : l.length + s.data.toList.length < 140737488355328) (hbytes : (l.length + s.data.toList.length) * te.bytes ≤ 140737488355328)
    (hg : gd ops G ⟨some d, .call ⟨.builtin .append, #[x, y], #[t, tx]⟩, ty, pos, af, g⟩ = some true) (hdn : Nat.blt d n = true)
    (h : ∀ v' w' M', OwnSl e B M' w' v' (l ++ s.data.toList) → Stp B M M' w w' → (∀ b, b < w.heap.size → some b ≠ v.ownBlock → w'.heap[b]? = w.heap[b]?) → (∀ b, v'.ownBlock = some b → v.ownBlock = some b ∨ w.heap.size ≤ b) → K ((d, v') :: G) w') :
    OW P n ops Q G w ⟨some d, .call ⟨.builtin .append, #[x, y], #[t, tx]⟩, ty, pos, af, g⟩ K := by
  have hd := (hT tx ts hs).d
  rw [hsd] at hd
  simp only [TD.Ok] at hd
  have hsrc : Src P te.size tx (.string s) s.data.toList.length (flat (s.data.toList.map fun b => Value.int .u8 b.toNat)) w := by
    rw [hrs, flat_bytes]
    exact Src.ofString w hd s
  obtain ⟨v', w', M', hrun, h1, h2, h3, h4⟩ := run_app (ty := ty) hT ht htd hte hrs hz hown hsrc (rs_bytes M w _) hl hB h63 hbytes
  refine o_val (w' := w') hg rfl hdn (fun a ha => ?_) (h v' w' M' h1 h2 h3 h4)
  simp [execOp, resolve, invoke, builtin, ha.ev hx, ha.ev hy, hrun]
end
end Rw
namespace Rw
/-! ## Numbers -/
def numG : Nat → Nat → List UInt8
  | 0, n => [UInt8.ofNat n]
  | f + 1, n => if n < 128 then [UInt8.ofNat n] else UInt8.ofNat (128 + n % 128) :: numG f (n / 128)
/-- A number's bytes. -/
def numY (n : Nat) : List UInt8 := numG 9 n
theorem numG_more : ∀ (f n : Nat), n < 128 ^ (f + 1) → numG (f + 1) n = numG f n
  | 0, n, h => by
    have : n < 128 := by simpa using h
    simp [numG, this]
  | f + 1, n, h => by
    show (if n < 128 then [UInt8.ofNat n] else UInt8.ofNat (128 + n % 128) :: numG (f + 1) (n / 128)) = (if n < 128 then [UInt8.ofNat n] else UInt8.ofNat (128 + n % 128) :: numG f (n / 128))
    rw [numG_more f (n / 128) (by rw [Nat.pow_succ] at h; omega)]
theorem numY_small {n : Nat} (h : n < 128) : numY n = [UInt8.ofNat n] := by rw [numY, numG, if_pos h]
theorem numY_step {n : Nat} (h : ¬ n < 128) (hn : n < 18446744073709551616) : numY n = UInt8.ofNat (128 + n % 128) :: numY (n / 128) := by
  rw [numY, numG, if_neg h, numY, numG_more 8 _ (by omega)]
theorem numG_len : ∀ f n : Nat, (numG f n).length ≤ f + 1
  | 0, _ => by simp [numG]
  | f + 1, n => by
    rw [numG]
    split
    · simp
    · have := numG_len f (n / 128); simp; omega
theorem numY_len (n : Nat) : (numY n).length ≤ 10 := numG_len 9 n
/-! ## Texts, types, expressions -/
def textB (s : ByteArray) : List UInt8 := numY s.size ++ s.data.toList
def headY (op : Int) (name : ByteArray) (n : Int) : List UInt8 := UInt8.ofNat op.toNat :: (if op = 7 ∨ op = 10 then numY (u64 n) else if op = 11 then textB name else [])
def typeB : Ty → List UInt8
  | .mk op name n kids => headY op name n ++ kids.flatMap typeB
theorem typeB_eq (t : Ty) : typeB t = headY t.op t.name t.n ++ t.kids.flatMap typeB := by cases t; rw [typeB]; rfl
theorem headY_num {b : List UInt8} {op n : Int} {nm : ByteArray} (h : op = 7 ∨ op = 10) : b ++ headY op nm n = (b ++ [UInt8.ofNat op.toNat]) ++ numY (u64 n) := by rw [headY, if_pos h, List.append_assoc]; rfl
theorem headY_text {b : List UInt8} {op n : Int} {nm : ByteArray} (h : op = 11) : b ++ headY op nm n = (b ++ [UInt8.ofNat op.toNat]) ++ textB nm := by rw [headY, if_neg (by omega), if_pos h, List.append_assoc]; rfl
theorem headY_none {b : List UInt8} {op n : Int} {nm : ByteArray} (h : op ≠ 7 ∧ op ≠ 10 ∧ op ≠ 11) : b ++ headY op nm n = b ++ [UInt8.ofNat op.toNat] := by rw [headY, if_neg (by omega), if_neg (by omega)]
theorem op_byte {op : Int} (h : 0 ≤ op ∧ op ≤ 255) : Go.Value.int .u8 op = Go.Value.int .u8 ((UInt8.ofNat op.toNat).toNat : Int) := by
  congr 1
  rw [UInt8.toNat_ofNat']
  omega
/-- Of an op: a name, an argument's name, a number, an annotation (1 perhaps, 2 always). -/
def prt (op : Int) : Bool × Bool × Bool × Int :=
  if op = 32 ∨ op = 38 ∨ op = 40 ∨ op = 42 ∨ op = 43 ∨ op = 44 ∨ op = 45 ∨ op = 46 ∨ op = 47 then (true, false, false, 0) else if op = 33 ∨ op = 34 then (false, false, true, 0) else if op = 35 then (false, true, false, 1)
  else if op = 36 then (true, true, false, 1) else if op = 49 then (true, true, false, 0) else if op = 50 then (false, true, false, 0) else if op = 51 then (false, false, false, 2) else (false, false, false, 0)
def cnt (op : Int) : Int := if op = 32 ∨ op = 33 ∨ op = 34 ∨ op = 41 then 0 else if op = 37 ∨ op = 38 ∨ op = 40 ∨ op = 42 ∨ op = 45 then 2 else if op = 39 then 3 else if op = 48 then -1 else 1
def o1 (op : Int) (name : ByteArray) : List UInt8 := UInt8.ofNat op.toNat :: (bif (prt op).1 then textB name else [])
def o2 (op : Int) (arg : ByteArray) : List UInt8 := bif (prt op).2.1 then textB arg else []
def o3 (op n : Int) : List UInt8 := bif (prt op).2.2.1 then numY (u64 n) else []
def o4 (op : Int) (has : Bool) : List UInt8 := bif decide ((prt op).2.2.2 = 1) then [bif has then 1 else 0] else []
def o5 (has : Bool) (ann : Ty) : List UInt8 := bif has then typeB ann else []
def o6 (op : Int) (n : Nat) : List UInt8 := bif decide (cnt op < 0) then numY n else []
theorem o1_yes {b : List UInt8} {op : Int} {nm : ByteArray} (h : (prt op).1 = true) : b ++ o1 op nm = (b ++ [UInt8.ofNat op.toNat]) ++ textB nm := by rw [o1, h, List.append_assoc]; rfl
theorem o1_no {b : List UInt8} {op : Int} {nm : ByteArray} (h : (prt op).1 = false) : b ++ o1 op nm = b ++ [UInt8.ofNat op.toNat] := by rw [o1, h]; rfl
theorem textB_size (s : ByteArray) : (textB s).length = (numY s.size).length + s.size := by simp [textB]
theorem set_last (l : List UInt8) (c d : UInt8) : (l ++ [c]).set l.length d = l ++ [d] := by simp
theorem get_last (l : List UInt8) (c : UInt8) : (l ++ [c])[l.length]? = some c := by simp
def headE (op : Int) (name arg : ByteArray) (n : Int) (has : Bool) (ann : Ty) (k : Nat) : List UInt8 := o1 op name ++ (o2 op arg ++ (o3 op n ++ (o4 op has ++ (o5 has ann ++ o6 op k))))
def termB : Tm → List UInt8
  | .mk op name arg n has ann kids => headE op name arg n has ann kids.length ++ kids.flatMap termB
theorem termB_eq (t : Tm) : termB t = headE t.op t.name t.arg t.n t.has t.ann t.kids.length ++ t.kids.flatMap termB := by cases t; rw [termB]; rfl
/-! ## Read again -/
def eyeN : Nat → Nat → Nat → List UInt8 → Bool → Nat × List UInt8 × Bool
  | 0, _, _, _, _ => (0, [], true)
  | _ + 1, _, _, [], _ => (0, [], true)
  | f + 1, i, n, c :: r, bad => if (c = 0 ∧ 0 < i) ∨ bad = true then (0, [], true) else if c.toNat < 128 then (n + c.toNat % 128 * 2 ^ (7 * i), r, bad) else eyeN f (i + 1) (n + c.toNat % 128 * 2 ^ (7 * i)) r bad
/-- A number off bytes; what is left; whether something is wrong. -/
def numE (l : List UInt8) (bad : Bool) : Nat × List UInt8 × Bool := eyeN 9 0 0 l bad
def textE (l : List UInt8) (bad : Bool) : ByteArray × List UInt8 × Bool :=
  if (numE l bad).2.1.length < (numE l bad).1 then (⟨#[]⟩, [], true) else (⟨((numE l bad).2.1.take (numE l bad).1).toArray⟩, (numE l bad).2.1.drop (numE l bad).1, (numE l bad).2.2)
theorem eyeN_bad {f i n : Nat} {l : List UInt8} {bad : Bool} (h : (l.headD 0 = 0 ∧ 0 < i) ∨ (bad || l.isEmpty) = true) : eyeN (f + 1) i n l bad = (0, [], true) := by
  cases l with
  | nil => rfl
  | cons c r => rw [eyeN, if_pos (by simpa using h)]
theorem eyeN_last {f i n : Nat} {l : List UInt8} {bad : Bool} (h : ¬ ((l.headD 0 = 0 ∧ 0 < i) ∨ (bad || l.isEmpty) = true)) (hc : (l.headD 0).toNat < 128) : eyeN (f + 1) i n l bad = (n + (l.headD 0).toNat % 128 * 2 ^ (7 * i), l.tail, bad || l.isEmpty) := by
  cases l with
  | nil => simp at h
  | cons c r => rw [eyeN, if_neg (by simpa using h), if_pos (by simpa using hc)]; simp
theorem eyeN_step {f i n : Nat} {l : List UInt8} {bad : Bool} (h : ¬ ((l.headD 0 = 0 ∧ 0 < i) ∨ (bad || l.isEmpty) = true)) (hc : ¬ (l.headD 0).toNat < 128) : eyeN (f + 1) i n l bad = eyeN f (i + 1) (n + (l.headD 0).toNat % 128 * 2 ^ (7 * i)) l.tail (bad || l.isEmpty) := by
  cases l with
  | nil => simp at h
  | cons c r => rw [eyeN, if_neg (by simpa using h), if_neg (by simpa using hc)]; simp
theorem eye_bound {n i : Nat} {c : UInt8} (h : n < 2 ^ (7 * i)) : n + c.toNat % 128 * 2 ^ (7 * i) < 2 ^ (7 * (i + 1)) := by
  have h1 : c.toNat % 128 ≤ 127 := by omega
  have h2 : c.toNat % 128 * 2 ^ (7 * i) ≤ 127 * 2 ^ (7 * i) := Nat.mul_le_mul_right _ h1
  have h3 : 2 ^ (7 * (i + 1)) = 128 * 2 ^ (7 * i) := by rw [Nat.mul_add, Nat.pow_add, Nat.mul_comm]
  omega
theorem pow_small {i : Nat} (h : i ≤ 9) : 2 ^ (7 * i) ≤ 9223372036854775808 := by
  have : 2 ^ (7 * i) ≤ 2 ^ 63 := Nat.pow_le_pow_right (by decide) (by omega)
  simpa using this
theorem flat_step {α β : Type} {f : α → List β} {l : List α} {i : Nat} (h : i < l.length) : (l.take (i + 1)).flatMap f = (l.take i).flatMap f ++ f l[i] := by
  rw [List.take_succ_eq_append_getElem h, List.flatMap_append]; simp
theorem flat_take_len {α β : Type} {f : α → List β} {l : List α} (i : Nat) : ((l.take i).flatMap f).length ≤ (l.flatMap f).length := by
  have h : l.flatMap f = (l.take i).flatMap f ++ (l.drop i).flatMap f := by rw [← List.flatMap_append, List.take_append_drop]
  rw [h, List.length_append]; omega
def numV : List UInt8 → Nat
  | [] => 0
  | c :: r => c.toNat % 128 + 128 * numV r
/-- How many bytes there are ahead of the first one below 128. -/
def lead : List UInt8 → Nat
  | [] => 0
  | c :: r => if c.toNat < 128 then 0 else lead r + 1
/-- A number taken off bytes, and how many they are. -/
def tkN (l : List UInt8) : Option (Nat × Nat) :=
  if l.length ≤ lead l ∨ 8 < lead l ∨ ((l[lead l]?).getD 1 = 0 ∧ 0 < lead l) then none else some (numV (l.take (lead l + 1)), lead l + 1)
def tkG (f i : Nat) (l : List UInt8) : Prop := l.length ≤ lead l ∨ f ≤ lead l ∨ ((l[lead l]?).getD 1 = 0 ∧ 0 < i + lead l)
instance (f i : Nat) (l : List UInt8) : Decidable (tkG f i l) := by unfold tkG; infer_instance
theorem eyeN_tk : ∀ (f i n : Nat) (l : List UInt8), eyeN f i n l false = if tkG f i l then (0, [], true) else (n + numV (l.take (lead l + 1)) * 2 ^ (7 * i), l.drop (lead l + 1), false)
  | 0, i, n, l => by
    rw [if_pos (show tkG 0 i l from .inr (.inl (Nat.zero_le _)))]; rfl
  | f + 1, i, n, [] => by
    rw [if_pos (show tkG (f + 1) i [] from .inl (Nat.zero_le _))]; rfl
  | f + 1, i, n, c :: r => by
    rw [eyeN]
    by_cases hc : c.toNat < 128
    · have hl : lead (c :: r) = 0 := by unfold lead; rw [if_pos hc]
      have ht : tkG (f + 1) i (c :: r) ↔ (c = 0 ∧ 0 < i) := by
        unfold tkG
        rw [hl]
        simp
      by_cases h0 : c = 0 ∧ 0 < i
      · rw [if_pos (.inl h0), if_pos (ht.2 h0)]
      · rw [if_neg (by simpa using h0), if_pos hc, if_neg (fun h => h0 (ht.1 h)), hl]
        simp [numV]
    · have hl : lead (c :: r) = lead r + 1 := by rw [lead, if_neg hc]
      have hz : c ≠ 0 := fun e => by subst e; exact hc (by decide)
      have ht : tkG (f + 1) i (c :: r) ↔ tkG f (i + 1) r := by
        unfold tkG
        rw [hl]
        simp only [List.length_cons, List.getElem?_cons_succ]
        constructor
        · rintro (h | h | h)
          · exact .inl (by omega)
          · exact .inr (.inl (by omega))
          · exact .inr (.inr ⟨h.1, by omega⟩)
        · rintro (h | h | h)
          · exact .inl (by omega)
          · exact .inr (.inl (by omega))
          · exact .inr (.inr ⟨h.1, by omega⟩)
      rw [if_neg (by simpa using fun h => absurd h hz), if_neg hc, eyeN_tk f (i + 1)]
      by_cases hg : tkG f (i + 1) r
      · rw [if_pos hg, if_pos (ht.2 hg)]
      · rw [if_neg hg, if_neg (fun h => hg (ht.1 h)), hl]
        have e : 2 ^ (7 * (i + 1)) = 128 * 2 ^ (7 * i) := by rw [Nat.mul_add, Nat.pow_add, Nat.mul_comm]
        rw [List.take_succ_cons, List.drop_succ_cons, numV, e, Nat.add_mul, Nat.add_assoc, Nat.mul_right_comm, Nat.mul_comm (numV _) (128 * _), Nat.mul_right_comm]
theorem numE_tk (l : List UInt8) : numE l false = match tkN l with
    | none => (0, [], true)
    | some (m, k) => (m, l.drop k, false) := by
  unfold numE tkN
  rw [eyeN_tk]
  have e : tkG 9 0 l ↔ (l.length ≤ lead l ∨ 8 < lead l ∨ ((l[lead l]?).getD 1 = 0 ∧ 0 < lead l)) := by unfold tkG; rw [Nat.zero_add]; exact Iff.rfl
  by_cases h : tkG 9 0 l
  · rw [if_pos h, if_pos (e.1 h)]
  · rw [if_neg h, if_neg (fun k => h (e.2 k))]
    simp
theorem numE_bad (l : List UInt8) : numE l true = (0, [], true) := by
  unfold numE
  cases l with
  | nil => rfl
  | cons c r => rw [eyeN, if_pos (.inr rfl)]
theorem numV_lt : ∀ l : List UInt8, numV l < 128 ^ l.length
  | [] => by simp [numV]
  | c :: r => by
    have := numV_lt r
    rw [numV, List.length_cons, Nat.pow_succ]
    omega
theorem numV_small {l : List UInt8} {c : Nat} (h : l.length ≤ 9) : numV (l.drop c) < 9223372036854775808 := by
  have h1 := numV_lt (l.drop c)
  have h2 : 128 ^ (l.drop c).length ≤ 128 ^ 9 := Nat.pow_le_pow_right (by decide) (by rw [List.length_drop]; omega)
  omega
/-! ## What is put is got again -/
theorem tkN_le {k : List UInt8} {m q : Nat} (h : tkN k = some (m, q)) : q ≤ k.length ∧ m < 9223372036854775808 := by
  unfold tkN at h
  split at h
  · cases h
  · rename_i hn
    cases h
    have h1 : ¬ k.length ≤ lead k := fun e => hn (.inl e)
    have h2 : ¬ 8 < lead k := fun e => hn (.inr (.inl e))
    refine ⟨by omega, ?_⟩
    have := numV_small (l := k.take (lead k + 1)) (c := 0) (by rw [List.length_take]; omega)
    rwa [List.drop_zero] at this
end Rw
namespace Go.Proofs.Ytohfnpmehgpphaa
open Go Rw Go.RowKit
set_option maxRecDepth 100000
/-- num: a number is put. -/
theorem penNum_spec (n : Nat) (hn : n < 18446744073709551616) (b : List UInt8) (M : Nat → Prop) (w : World) (B bp : Nat) (bv : Value) (hp : MB B M w bp 125 [bv]) (ho : OwnSl 5 B M w bv b) (hne : ∀ x, (bv : Value).ownBlock = some x → x ≠ bp) (hlow : Low M w) (hB : B ≤ w.heap.size) (hl : b.length ≤ 1000000000000) :
    Calls Try.prog 100 #[.pointer (some ⟨bp, 0, none⟩), .int .u64 (n : Int)] w (Ret fun r w' => r = .tuple #[] ∧ ∃ M' bv', MB B M' w' bp 125 [bv'] ∧ OwnSl 5 B M' w' bv' (b ++ numY n) ∧ (∀ x, (bv' : Value).ownBlock = some x → x ≠ bp) ∧ Stp B M M' w w') := by
  have hT : Stp B M M w w := Stp.refl hlow
  have d_ho_hp := hne
  have hbn := numY_len n
  refine c_enter (n := 31) Try.func100 rfl rfl rfl ?_
  refine c_seq (c_blk ?_)
  refine c_loop4 (X := Nat) (Y := Value) (Z := Nat → Prop) (U := List UInt8) (fun z bv M1 l => [(0, .pointer (some ⟨bp, 0, none⟩)), (1, .int .u64 (z : Nat))]) (fun z bv M1 l w' => l ++ numY z = b ++ numY n ∧ z < 18446744073709551616 ∧ MB B M1 w' bp 125 [bv] ∧ OwnSl 5 B M1 w' bv l ∧ (∀ x, (bv : Value).ownBlock = some x → x ≠ bp) ∧ Stp B M M1 w w' ∧ Low M1 w' ∧ B ≤ w'.heap.size) (fun z bv M1 l => z) (n) (bv) (M) (b) (s2 rfl rfl) ?_ ?_
  · exact ⟨rfl, hn, hp, ho, d_ho_hp, hT, hlow, hB⟩
  clear hp ho hne d_ho_hp hT hlow hB
  rintro z bv M1 l w1 ⟨hinv, hz, hp, ho, d_ho_hp, hT, hlow, hB⟩
  have hll : l.length ≤ b.length + 10 := by
    have := congrArg List.length hinv
    simp only [List.length_append] at this
    omega
  refine c_seq (q0 (l_p 2 tbOk rfl (q1 ?_)))
  refine c_ifP _ rfl (fun c1 => ?_) (fun c1 => ?_)
  · refine c_skip (x_seq (c_seq (c_blk (c_reg (l_p 4 tbOk rfl ?_)))))
    refine l_cons (o_ld tbOk (hp.cell 0 _ rfl) rfl rfl rfl rfl rfl ?_)
    refine l_p 1 tbOk rfl ?_
    refine l_cons (o_conv (y := ((z % 256 : Nat) : Int)) tbOk rfl rfl rfl rfl rfl (wrap_u8 z) rfl rfl ?_)
    refine l_cons (o_or (r := ((UInt8.ofNat (128 + z % 128)).toNat : Int)) rfl rfl (by rw [show z % 128 = z % 256 % 128 by omega]; exact or_128 (show z % 256 < 256 by omega)) rfl rfl ?_)
    refine l_cons (o_bs tbOk rfl rfl rfl rfl rfl rfl rfl (sz1 rfl) rfl rfl rfl ?_)
    intro bw2 w2 qbw2 ew2 hbw2
    have nbw2 := nM_of hlow qbw2
    replace hT := hT.then (Stp.ext ew2 hlow hB)
    replace hp := hp.ext hlow hB ew2
    replace ho := ho.ext hlow hB ew2
    replace hlow := hlow.ext ew2
    replace hB := Nat.le_trans hB ew2.size
    refine l_cons (o_app1 tbOk ho hbw2 nbw2 (show Rep.R _ _ _ (UInt8.ofNat (128 + z % 128)) from rfl) hlow hB rfl rfl rfl rfl rfl rfl rfl (by omega) (by show (_ + _) * 1 ≤ _; omega) rfl rfl ?_)
    intro vw3 w3 Mw3 hw3 sw3 frw3 blw3
    have zd_ho_hp := d_ho_hp
    replace d_ho_hp : ∀ x, (vw3 : Value).ownBlock = some x → x ≠ bp := fun x hx => (blw3 x hx).elim (d_ho_hp x) (fun h e => by have := hp.lt; omega)
    replace hT := hT.then sw3
    replace hp := hp.stp sw3 (frw3 bp hp.lt (fun e => zd_ho_hp _ e.symm rfl))
    replace hlow := sw3.low
    replace hB := Nat.le_trans hB sw3.upd.1
    replace ho := hw3
    clear hw3
    refine l_p 2 tbOk rfl ?_
    obtain ⟨a2, ca2, rfl, _⟩ := ho.val
    refine l_cons (o_st tbOk hp.box rfl rfl rfl rfl (by intro u hu; simp [Value.cells] at hu; subst hu; rfl) rfl rfl ?_)
    intro w4 hw4 qw4 bew4
    have uw4 : UpdB _ _ _ := ⟨qw4, bew4⟩
    have sw4 := uw4.stp hp.inM hlow hp.ge
    have frw4 := qw4.2
    replace hT := hT.then sw4
    replace ho := ho.stp sw4 (fun x hx => frw4 x (ho.lt x hx).2 (d_ho_hp x hx))
    replace hlow := sw4.low
    replace hB := Nat.le_trans hB sw4.upd.1
    replace hp : MB B _ w4 bp _ [(.slice a2 (l ++ [UInt8.ofNat (128 + z % 128)]).length ca2)] := ⟨hw4, hp.inM, hp.ge⟩
    refine q2 (x_seq (c_reg (l_p 1 tbOk rfl ?_)))
    refine l_cons (o_shr7 rfl rfl rfl rfl ?_)
    refine l_p 1 tbOk rfl (l_nil ?_)
    exact x_round4 (z / 128) ((.slice a2 (l ++ [UInt8.ofNat (128 + z % 128)]).length ca2)) (Mw3) (l ++ [UInt8.ofNat (128 + z % 128)]) (s2 rfl rfl) ⟨by rw [← hinv, numY_step (show ¬ z < 128 by omega) hz, List.append_assoc]; rfl, by omega, hp, ho, d_ho_hp, hT, hlow, hB⟩ (by omega)
  refine c_exit (x_seqE (x_seqE (x_blkE (x_seq (c_reg (l_p 4 tbOk rfl ?_))))))
  refine l_cons (o_ld tbOk (hp.cell 0 _ rfl) rfl rfl rfl rfl rfl ?_)
  refine l_p 1 tbOk rfl ?_
  refine l_cons (o_conv (y := ((z % 256 : Nat) : Int)) tbOk rfl rfl rfl rfl rfl (wrap_u8 z) rfl rfl ?_)
  refine l_cons (o_bs tbOk rfl rfl rfl rfl rfl rfl rfl (sz1 rfl) rfl rfl rfl ?_)
  intro bw5 w5 qbw5 ew5 hbw5
  have nbw5 := nM_of hlow qbw5
  replace hT := hT.then (Stp.ext ew5 hlow hB)
  replace hp := hp.ext hlow hB ew5
  replace ho := ho.ext hlow hB ew5
  replace hlow := hlow.ext ew5
  replace hB := Nat.le_trans hB ew5.size
  refine l_cons (o_app1 tbOk ho hbw5 nbw5 (show Rep.R _ _ _ (UInt8.ofNat z) from (congrArg (fun m : Nat => Value.int .u8 (m : Int)) (UInt8.toNat_ofNat' (n := z)).symm)) hlow hB rfl rfl rfl rfl rfl rfl rfl (by omega) (by show (_ + _) * 1 ≤ _; omega) rfl rfl ?_)
  intro vw6 w6 Mw6 hw6 sw6 frw6 blw6
  have zd_ho_hp := d_ho_hp
  replace d_ho_hp : ∀ x, (vw6 : Value).ownBlock = some x → x ≠ bp := fun x hx => (blw6 x hx).elim (d_ho_hp x) (fun h e => by have := hp.lt; omega)
  replace hT := hT.then sw6
  replace hp := hp.stp sw6 (frw6 bp hp.lt (fun e => zd_ho_hp _ e.symm rfl))
  replace hlow := sw6.low
  replace hB := Nat.le_trans hB sw6.upd.1
  replace ho := hw6
  clear hw6
  refine l_p 2 tbOk rfl ?_
  obtain ⟨a3, ca3, rfl, _⟩ := ho.val
  refine l_cons (o_st tbOk hp.box rfl rfl rfl rfl (by intro u hu; simp [Value.cells] at hu; subst hu; rfl) rfl rfl ?_)
  intro w7 hw7 qw7 bew7
  have uw7 : UpdB _ _ _ := ⟨qw7, bew7⟩
  have sw7 := uw7.stp hp.inM hlow hp.ge
  have frw7 := qw7.2
  replace hT := hT.then sw7
  replace ho := ho.stp sw7 (fun x hx => frw7 x (ho.lt x hx).2 (d_ho_hp x hx))
  replace hlow := sw7.low
  replace hB := Nat.le_trans hB sw7.upd.1
  replace hp : MB B _ w7 bp _ [(.slice a3 (l ++ [UInt8.ofNat z]).length ca3)] := ⟨hw7, hp.inM, hp.ge⟩
  refine l_nil ?_
  refine x_ret0n rfl ?_
  rw [numY_small (show z < 128 by omega)] at hinv
  refine ⟨rfl, _, _, hp, ?_, d_ho_hp, hT⟩
  rw [← hinv]; exact ho
/-- text: its length, and it, are put. -/
theorem penText_spec (s : ByteArray) (hs : s.size < 140737488355328) (b : List UInt8) (M : Nat → Prop) (w : World) (B bp : Nat) (bv : Value) (hp : MB B M w bp 125 [bv]) (ho : OwnSl 5 B M w bv b) (hne : ∀ x, (bv : Value).ownBlock = some x → x ≠ bp) (hlow : Low M w) (hB : B ≤ w.heap.size) (hl : b.length + s.size ≤ 999999999900) :
    Calls Try.prog 71 #[.pointer (some ⟨bp, 0, none⟩), .string s] w (Ret fun r w' => r = .tuple #[] ∧ ∃ M' bv', MB B M' w' bp 125 [bv'] ∧ OwnSl 5 B M' w' bv' (b ++ textB s) ∧ (∀ x, (bv' : Value).ownBlock = some x → x ≠ bp) ∧ Stp B M M' w w') := by
  have hT : Stp B M M w w := Stp.refl hlow
  have d_ho_hp := hne
  have hbn := numY_len s.size
  refine c_enter (n := 18) Try.func71 rfl rfl rfl ?_
  refine q0 (l_p 3 tbOk rfl ?_)
  refine l_cons (o_conv (y := ((s.size : Nat) : Int)) tbOk rfl rfl rfl rfl rfl ((wrap_u64 _).trans (by rw [u64_nat (by omega)])) rfl rfl ?_)
  refine l_cons (o_call fo100 rfl rfl rfl (penNum_spec s.size (by omega) b _ _ B bp _ hp ho d_ho_hp hlow hB (by omega)) ?_)
  rintro _ w1 ⟨rfl, Mw1, vw1, hpw1, how1, new1, sw1⟩
  replace hT := hT.then sw1
  replace hlow := sw1.low
  replace hB := Nat.le_trans hB sw1.upd.1
  replace hp := hpw1
  replace ho := how1
  replace d_ho_hp := new1
  clear hpw1 how1 new1
  refine q1 (c_reg (l_p 4 tbOk rfl ?_))
  refine l_cons (o_ld tbOk (hp.cell 0 _ rfl) rfl rfl rfl rfl rfl ?_)
  refine l_p 1 tbOk rfl ?_
  refine l_cons (o_appS tbOk ho hlow hB rfl rfl rfl rfl rfl rfl rfl rfl rfl (by simp; omega) (by show (_ + _) * 1 ≤ _; simp; omega) rfl rfl ?_)
  intro vw2 w2 Mw2 hw2 sw2 frw2 blw2
  have zd_ho_hp := d_ho_hp
  replace d_ho_hp : ∀ x, (vw2 : Value).ownBlock = some x → x ≠ bp := fun x hx => (blw2 x hx).elim (d_ho_hp x) (fun h e => by have := hp.lt; omega)
  replace hT := hT.then sw2
  replace hp := hp.stp sw2 (frw2 bp hp.lt (fun e => zd_ho_hp _ e.symm rfl))
  replace hlow := sw2.low
  replace hB := Nat.le_trans hB sw2.upd.1
  replace ho := hw2
  clear hw2
  refine l_p 2 tbOk rfl ?_
  obtain ⟨a1, ca1, rfl, _⟩ := ho.val
  refine l_cons (o_st tbOk hp.box rfl rfl rfl rfl (by intro u hu; simp [Value.cells] at hu; subst hu; rfl) rfl rfl ?_)
  intro w3 hw3 qw3 bew3
  have uw3 : UpdB _ _ _ := ⟨qw3, bew3⟩
  have sw3 := uw3.stp hp.inM hlow hp.ge
  have frw3 := qw3.2
  replace hT := hT.then sw3
  replace ho := ho.stp sw3 (fun x hx => frw3 x (ho.lt x hx).2 (d_ho_hp x hx))
  replace hlow := sw3.low
  replace hB := Nat.le_trans hB sw3.upd.1
  replace hp : MB B _ w3 bp _ [(.slice a1 (b ++ numY s.size ++ s.data.toList).length ca1)] := ⟨hw3, hp.inM, hp.ge⟩
  refine l_nil ?_
  refine x_ret0n rfl ?_
  refine ⟨rfl, _, _, hp, ?_, d_ho_hp, hT⟩
  rw [textB, ← List.append_assoc]; exact ho
/-- kind: a type is put. -/
theorem penKind_spec : ∀ (t : Ty) (b : List UInt8) (M : Nat → Prop) (w : World) (B bp : Nat) (bv : Value), MB B M w bp 125 [bv] → OwnSl 5 B M w bv b → (∀ x, (bv : Value).ownBlock = some x → x ≠ bp) → Low M w → B ≤ w.heap.size → ∀ (v : Value), Rep.R M w v t → b.length + (typeB t).length ≤ 999999999000 → Calls Try.prog 83 #[.pointer (some ⟨bp, 0, none⟩), v] w (Ret fun r w' => r = .tuple #[] ∧ ∃ M' bv', MB B M' w' bp 125 [bv'] ∧ OwnSl 5 B M' w' bv' (b ++ typeB t) ∧ (∀ x, (bv' : Value).ownBlock = some x → x ≠ bp) ∧ Stp B M M' w w') := by
  refine Ty.ind fun t ih => ?_
  intro b M w B bp bv hp ho hne hlow hB v ht hl
  have hT : Stp B M M w w := Stp.refl hlow
  have d_ho_hp := hne
  obtain ⟨kv, rfl, op, nm, n64, hk⟩ := ty_open ht
  have hlt := hk.lt
  have hle := congrArg List.length (typeB_eq t)
  rw [List.length_append] at hle
  refine c_enter (n := 44) Try.func83 rfl rfl rfl ?_
  refine q0 ?_
  refine l_cons (o_box rfl rfl rfl ?_)
  intro b3 w1 hb_b3 ew1 h3
  replace h3 : Box _ b3 40 [.int .u8 t.op, .string t.name, .int .i64 t.n, kv] := h3
  replace h3 := h3.at (nM_of hlow hb_b3)
  replace hT := hT.then (Stp.ext ew1 hlow hB)
  replace hp := hp.ext hlow hB ew1
  replace ho := ho.ext hlow hB ew1
  replace ht := Rep.ext ht ew1
  replace hk := hk.ext ew1
  replace hlow := hlow.ext ew1
  replace hB := Nat.le_trans hB ew1.size
  refine q1 (c_seq ?_)
  refine a_beg (Sof2 B M bp) rfl ?_
  intro w2 ew2
  replace hT := hT.then (Stp.ext ew2 hlow hB)
  replace hp := hp.ext hlow hB ew2
  replace ho := ho.ext hlow hB ew2
  replace ht := Rep.ext ht ew2
  replace hk := hk.ext ew2
  replace h3 := h3.ext ew2
  replace hlow := hlow.ext ew2
  replace hB := Nat.le_trans hB ew2.size
  have hS : Stp B M M w2 w2 := Stp.refl hlow
  have D_hp := hp.box
  have D_hk := hk
  have D_h3 := h3
  refine a_p 0 tbOk rfl rfl rfl rfl (by kernel_rfl) (fun _ _ _ h => h) ⟨⟨_, hS⟩, hp.box.heap.trans D_hp.heap.symm⟩ ?_
  refine a_p 1 tbOk rfl rfl rfl rfl (by kernel_rfl) (fun _ _ _ h => h) ⟨⟨_, hS⟩, hp.box.heap.trans D_hp.heap.symm⟩ ?_
  refine a_p 2 tbOk rfl rfl rfl rfl (by kernel_rfl) (fun _ _ _ h => h) ⟨⟨_, hS⟩, hp.box.heap.trans D_hp.heap.symm⟩ ?_
  refine a_p 3 tbOk rfl rfl rfl rfl (by kernel_rfl) (fun _ _ _ h => h) ⟨⟨_, hS⟩, hp.box.heap.trans D_hp.heap.symm⟩ ?_
  refine a_ld 4 tbOk (fun _ hs => (D_hp.so2 hs).cell 0 _ rfl) rfl rfl rfl rfl rfl rfl (by kernel_rfl) (fun _ _ _ h => h) ⟨⟨_, hS⟩, hp.box.heap.trans D_hp.heap.symm⟩ ?_
  refine a_p 5 tbOk rfl rfl rfl rfl (by kernel_rfl) (fun _ _ _ h => h) ⟨⟨_, hS⟩, hp.box.heap.trans D_hp.heap.symm⟩ ?_
  refine a_ld 6 tbOk (fun _ hs => (D_h3.so2 hs).cell 0 _ rfl) rfl rfl rfl rfl rfl rfl (by kernel_rfl) (fun _ _ _ h => h) ⟨⟨_, hS⟩, hp.box.heap.trans D_hp.heap.symm⟩ ?_
  refine a_one 7 rfl (by kernel_rfl) (o_bs tbOk rfl rfl rfl rfl rfl rfl rfl (sz1 rfl) rfl rfl rfl ?_)
  intro bw3 w3 qbw3 ew3 hbw3
  have nbw3 := nM_of hlow qbw3
  replace hT := hT.then (Stp.ext ew3 hlow hB)
  replace hS := hS.then (Stp.ext ew3 hlow hB)
  replace hp := hp.ext hlow hB ew3
  replace ho := ho.ext hlow hB ew3
  replace ht := Rep.ext ht ew3
  replace hk := hk.ext ew3
  replace h3 := h3.ext ew3
  replace hlow := hlow.ext ew3
  replace hB := Nat.le_trans hB ew3.size
  refine ⟨⟨⟨_, hS⟩, hp.box.heap.trans D_hp.heap.symm⟩, ?_⟩
  refine a_one 8 rfl (by kernel_rfl) (o_app1 tbOk ho hbw3 nbw3 (show Rep.R _ _ _ (UInt8.ofNat t.op.toNat) from op_byte op) hlow hB rfl rfl rfl rfl rfl rfl rfl (by omega) (by show (_ + _) * 1 ≤ _; omega) rfl rfl ?_)
  intro vw4 w4 Mw4 hw4 sw4 frw4 blw4
  have zd_ho_hp := d_ho_hp
  replace d_ho_hp : ∀ x, (vw4 : Value).ownBlock = some x → x ≠ bp := fun x hx => (blw4 x hx).elim (d_ho_hp x) (fun h e => by have := hp.lt; omega)
  replace hT := hT.then sw4
  replace hS := hS.then sw4
  replace hp := hp.stp sw4 (frw4 bp hp.lt (fun e => zd_ho_hp _ e.symm rfl))
  replace ht := Rep.stp ht sw4
  replace hk := hk.stp sw4
  replace h3 := h3.stp sw4
  replace hlow := sw4.low
  replace hB := Nat.le_trans hB sw4.upd.1
  refine ⟨⟨⟨_, hS⟩, hp.box.heap.trans D_hp.heap.symm⟩, ?_⟩
  replace ho := hw4
  clear hw4
  refine a_p 9 tbOk rfl rfl rfl rfl (by kernel_rfl) (fun _ _ _ h => h) ⟨⟨_, hS⟩, hp.box.heap.trans D_hp.heap.symm⟩ ?_
  refine a_p 10 tbOk rfl rfl rfl rfl (by kernel_rfl) (fun _ _ _ h => h) ⟨⟨_, hS⟩, hp.box.heap.trans D_hp.heap.symm⟩ ?_
  obtain ⟨a1, ca1, rfl, _⟩ := ho.val
  refine a_bar 11 rfl (by kernel_rfl) (by kernel_rfl) (o_st tbOk hp.box rfl rfl rfl rfl (by intro u hu; simp [Value.cells] at hu; subst hu; rfl) rfl rfl ?_)
  intro w5 hw5 qw5 bew5
  have uw5 : UpdB _ _ _ := ⟨qw5, bew5⟩
  have sw5 := uw5.stp hp.inM hlow hp.ge
  have frw5 := qw5.2
  replace hT := hT.then sw5
  replace hS := hS.then sw5
  replace ho := ho.stp sw5 (fun x hx => frw5 x (ho.lt x hx).2 (d_ho_hp x hx))
  replace ht := Rep.stp ht sw5
  replace hk := hk.stp sw5
  replace h3 := h3.stp sw5
  replace hlow := sw5.low
  replace hB := Nat.le_trans hB sw5.upd.1
  replace hp : MB B _ w5 bp _ [(.slice a1 (b ++ [UInt8.ofNat t.op.toNat]).length ca1)] := ⟨hw5, hp.inM, hp.ge⟩
  refine a_end (by kernel_rfl) ?_
  refine x_seq ?_
  refine c_cut2 (X := Value) (Y := Nat → Prop) (fun bv M1 => [(0, .pointer (some ⟨bp, 0, none⟩)), (3, .pointer (some ⟨b3, 0, none⟩))]) (fun bv M1 w' => MB B M1 w' bp 125 [bv] ∧ OwnSl 5 B M1 w' bv (b ++ headY t.op t.name t.n) ∧ (∀ x, (bv : Value).ownBlock = some x → x ≠ bp) ∧ Stp B M M1 w w' ∧ Low M1 w' ∧ B ≤ w'.heap.size ∧ At M1 w' b3 0 [.int .u8 t.op, .string t.name, .int .i64 t.n, kv] ∧ Sl M1 w' kv t.kids) ?_ ?_
  · refine q0 (l_p 1 tbOk rfl ?_)
    refine l_cons (o_ld tbOk (h3.cell 0 _ rfl) rfl rfl rfl rfl rfl ?_)
    refine q1 (c_blk (c_seq (q0 (l_p 2 tbOk rfl (q1 ?_)))))
    refine c_splitP 19 _ rfl (fun c2 => c_ifT rfl ?_) (fun c2 => c_ifF rfl ?_)
    · refine c_skip (x_seq (c_ifT rfl (c_reg (l_p 2 tbOk rfl ?_))))
      refine l_cons (o_ld tbOk (h3.cell 2 _ rfl) rfl rfl rfl rfl rfl ?_)
      refine l_cons (o_conv tbOk rfl rfl rfl rfl rfl (wrap_u64 _) rfl rfl ?_)
      refine l_cons (o_call fo100 rfl rfl rfl (penNum_spec (u64 t.n) (u64_lt _) _ _ _ B bp _ hp ho d_ho_hp hlow hB (by simp only [List.length_append, List.length_cons, List.length_nil]; omega)) ?_)
      rintro _ w6 ⟨rfl, Mw6, vw6, hpw6, how6, new6, sw6⟩
      replace hT := hT.then sw6
      replace ht := Rep.stp ht sw6
      replace hk := hk.stp sw6
      replace h3 := h3.stp sw6
      replace hlow := sw6.low
      replace hB := Nat.le_trans hB sw6.upd.1
      replace hp := hpw6
      replace ho := how6
      replace d_ho_hp := new6
      clear hpw6 how6 new6
      refine q2 ?_
      exact x_cut2 (vw6) (Mw6) (s2 rfl rfl) ⟨hp, by rw [headY_num (by omega)]; exact ho, d_ho_hp, hT, hlow, hB, h3, hk⟩
    refine c_reg (l_p 2 tbOk rfl (q1 ?_))
    refine c_splitP 19 _ rfl (fun c3 => c_ifT rfl ?_) (fun c3 => c_ifF rfl ?_)
    · refine c_reg (l_p 2 tbOk rfl ?_)
      refine l_cons (o_ld tbOk (h3.cell 2 _ rfl) rfl rfl rfl rfl rfl ?_)
      refine l_cons (o_conv tbOk rfl rfl rfl rfl rfl (wrap_u64 _) rfl rfl ?_)
      refine l_cons (o_call fo100 rfl rfl rfl (penNum_spec (u64 t.n) (u64_lt _) _ _ _ B bp _ hp ho d_ho_hp hlow hB (by simp only [List.length_append, List.length_cons, List.length_nil]; omega)) ?_)
      rintro _ w7 ⟨rfl, Mw7, vw7, hpw7, how7, new7, sw7⟩
      replace hT := hT.then sw7
      replace ht := Rep.stp ht sw7
      replace hk := hk.stp sw7
      replace h3 := h3.stp sw7
      replace hlow := sw7.low
      replace hB := Nat.le_trans hB sw7.upd.1
      replace hp := hpw7
      replace ho := how7
      replace d_ho_hp := new7
      clear hpw7 how7 new7
      refine q2 ?_
      exact x_cut2 (vw7) (Mw7) (s2 rfl rfl) ⟨hp, by rw [headY_num (by omega)]; exact ho, d_ho_hp, hT, hlow, hB, h3, hk⟩
    refine q0 (l_p 2 tbOk rfl (q1 ?_))
    refine c_ifP _ rfl (fun c4 => ?_) (fun c4 => ?_)
    · refine c_reg (l_p 2 tbOk rfl ?_)
      refine l_cons (o_ld tbOk (h3.cell 1 _ rfl) rfl rfl rfl rfl rfl ?_)
      have htx : (headY t.op t.name t.n).length = (textB t.name).length + 1 := by rw [headY, if_neg (by omega), if_pos (by omega)]; rfl
      have htz : (textB t.name).length = (numY t.name.size).length + t.name.size := by simp [textB]
      refine l_cons (o_call fo71 rfl rfl rfl (penText_spec t.name nm _ _ _ B bp _ hp ho d_ho_hp hlow hB (by simp only [List.length_append, List.length_cons, List.length_nil]; omega)) ?_)
      rintro _ w8 ⟨rfl, Mw8, vw8, hpw8, how8, new8, sw8⟩
      replace hT := hT.then sw8
      replace ht := Rep.stp ht sw8
      replace hk := hk.stp sw8
      replace h3 := h3.stp sw8
      replace hlow := sw8.low
      replace hB := Nat.le_trans hB sw8.upd.1
      replace hp := hpw8
      replace ho := how8
      replace d_ho_hp := new8
      clear hpw8 how8 new8
      refine q2 ?_
      exact x_cut2 (vw8) (Mw8) (s2 rfl rfl) ⟨hp, by rw [headY_text (by omega)]; exact ho, d_ho_hp, hT, hlow, hB, h3, hk⟩
    refine c_skip (x_blk ?_)
    exact x_cut2 ((.slice a1 (b ++ [UInt8.ofNat t.op.toNat]).length ca1)) (Mw4) (s2 rfl rfl) ⟨hp, by rw [headY_none (by omega)]; exact ho, d_ho_hp, hT, hlow, hB, h3, hk⟩
  clear hp ho hne d_ho_hp hT hlow hB h3 hk ht
  rintro bv M1 w80 ⟨hp, ho, d_ho_hp, hT, hlow, hB, h3, hk⟩
  refine q0 (l_p 1 tbOk rfl ?_)
  refine l_cons (o_ld tbOk (h3.cell 3 _ rfl) rfl rfl rfl rfl rfl ?_)
  refine l_cons (o_len tbOk hk rfl rfl rfl rfl rfl ?_)
  refine l_p 1 tbOk rfl (q1 (c_blk ?_))
  refine c_loop3 (X := Nat) (Y := Value) (Z := Nat → Prop) (fun i bv M1 => [(0, .pointer (some ⟨bp, 0, none⟩)), (34, kv), (35, .int .i64 (t.kids.length : Int)), (36, .int .i64 (i : Nat))]) (fun i bv M1 w' => i ≤ t.kids.length ∧ MB B M1 w' bp 125 [bv] ∧ OwnSl 5 B M1 w' bv ((b ++ headY t.op t.name t.n) ++ (t.kids.take i).flatMap typeB) ∧ (∀ x, (bv : Value).ownBlock = some x → x ≠ bp) ∧ Stp B M M1 w w' ∧ Low M1 w' ∧ B ≤ w'.heap.size ∧ Sl M1 w' kv t.kids) (fun i bv M1 => t.kids.length - i) (0) (bv) (M1) (s4 rfl rfl rfl rfl) ?_ ?_
  · exact ⟨Nat.zero_le _, hp, by simpa using ho, d_ho_hp, hT, hlow, hB, hk⟩
  clear hp ho d_ho_hp hT hlow hB hk
  rintro i bv M1 w9 ⟨hi, hp, ho, d_ho_hp, hT, hlow, hB, hk⟩
  have hft := flat_take_len (f := typeB) (l := t.kids) i
  refine q0 (l_p 1 tbOk rfl (q1 (c_seq ?_)))
  refine c_ifP _ rfl (fun c5 => ?_) (fun c5 => ?_)
  · refine c_skip (x_seq (c_seq (c_blk (q0 ?_))))
    have hik : i < t.kids.length := by omega
    have hf1 := flat_take_len (f := typeB) (l := t.kids) (i + 1)
    rw [flat_step hik, List.length_append] at hf1
    refine l_cons (o_ixS tbOk hk (List.getElem?_eq_getElem hik) rfl rfl rfl rfl rfl rfl rfl rfl rfl ?_)
    intro ebx eox eux hyx hatx
    obtain ⟨kvx, rfl, opx, nmx, n64x, hkx⟩ := ty_open hyx
    replace hatx : At M1 w9 ebx eox [.int .u8 t.kids[i].op, .string t.kids[i].name, .int .i64 t.kids[i].n, kvx] := hatx
    refine l_cons (o_lds tbOk (fun j v hv => hatx.cell j v hv) rfl rfl rfl rfl rfl rfl ?_)
    refine l_cons (o_new tbOk rfl rfl rfl ?_)
    intro b5 w10 qb5 ew10 hb5
    have nb5 := nM_of hlow qb5
    refine l_cons (o_st tbOk hb5 rfl rfl rfl rfl (Rep.one hyx) rfl rfl ?_)
    intro w11 h5 uw11 bew11
    have ew11 : Ext w9 w11 := ew10.trans (bew11 _ (Nat.le_of_eq qb5.symm))
    replace hT := hT.then (Stp.ext ew11 hlow hB)
    replace hp := hp.ext hlow hB ew11
    replace ho := ho.ext hlow hB ew11
    replace hk := hk.ext ew11
    replace hyx := Rep.ext hyx ew11
    replace hkx := hkx.ext ew11
    replace hatx := hatx.ext ew11
    replace hlow := hlow.ext ew11
    replace hB := Nat.le_trans hB ew11.size
    replace h5 : Box w11 b5 40 [.int .u8 t.kids[i].op, .string t.kids[i].name, .int .i64 t.kids[i].n, kvx] := h5
    replace h5 := h5.at nb5
    refine q1 (c_reg (l_p 1 tbOk rfl ?_))
    refine l_cons (o_lds tbOk (fun j v hv => h5.cell j v hv) rfl rfl rfl rfl rfl rfl ?_)
    refine l_cons (o_call fo83 rfl rfl rfl (ih _ (List.getElem_mem hik) _ _ _ B bp _ hp ho d_ho_hp hlow hB _ hyx (by simp only [List.length_append] at hle ⊢; omega)) ?_)
    rintro _ w12 ⟨rfl, Mw12, vw12, hpw12, how12, new12, sw12⟩
    replace hT := hT.then sw12
    replace hk := hk.stp sw12
    replace hyx := Rep.stp hyx sw12
    replace hkx := hkx.stp sw12
    replace hatx := hatx.stp sw12
    replace h5 := h5.stp sw12
    replace hlow := sw12.low
    replace hB := Nat.le_trans hB sw12.upd.1
    replace hp := hpw12
    replace ho := how12
    replace d_ho_hp := new12
    clear hpw12 how12 new12
    refine q2 (x_seq (c_reg ?_))
    refine l_cons (o_ar rfl rfl rfl (IntWalk.i64_in _ (by omega)) rfl rfl ?_)
    refine l_p 1 tbOk rfl (l_nil ?_)
    exact x_round3 (i + 1) (vw12) (Mw12) (s4 rfl rfl rfl (get_num rfl (by omega))) ⟨by omega, hp, by rw [flat_step hik, ← List.append_assoc]; exact ho, d_ho_hp, hT, hlow, hB, hk⟩ (by omega)
  refine c_exit (x_seqE (x_seqE (x_blkE ?_)))
  refine x_ret0n rfl ?_
  obtain rfl : i = t.kids.length := by omega
  rw [List.take_of_length_le (Nat.le_refl _), List.append_assoc, ← typeB_eq] at ho
  exact ⟨rfl, _, _, hp, ho, d_ho_hp, hT⟩
/-- parts of an op. -/
theorem prt_spec (op : Int) (w : World) :
    Calls Try.prog 104 #[.int .u8 op] w (Ret fun r w' => r = .tuple #[.bool (prt op).1, .bool (prt op).2.1, .bool (prt op).2.2.1, .int .i64 (prt op).2.2.2] ∧ w = w') := by
  refine c_enter (n := 30) Try.func104 rfl rfl rfl ?_
  refine q0 (l_p 4 tbOk rfl (q1 (c_seq (q0 (l_p 1 tbOk rfl (q1 (c_blk (c_seq (q0 (l_p 2 tbOk rfl (q1 ?_)))))))))))
  refine c_splitP 7 _ rfl (fun c1 => c_ifT rfl ?_) (fun c1 => c_ifF rfl ?_)
  · refine c_skip (x_seq (c_ifT rfl (q0 (l_p 4 tbOk rfl (q1 (c_ret (x_blkR (x_seqR ?_))))))))
    refine x_ret4 rfl rfl rfl rfl rfl ?_
    subst c1
    exact ⟨rfl, rfl⟩
  refine q0 (l_p 2 tbOk rfl (q1 ?_))
  refine c_splitP 7 _ rfl (fun c2 => c_ifT rfl ?_) (fun c2 => c_ifF rfl ?_)
  · refine c_skip (x_seq (c_ifT rfl (q0 (l_p 4 tbOk rfl (q1 (c_ret (x_blkR (x_seqR ?_))))))))
    refine x_ret4 rfl rfl rfl rfl rfl ?_
    subst c2
    exact ⟨rfl, rfl⟩
  refine q0 (l_p 2 tbOk rfl (q1 ?_))
  refine c_splitP 7 _ rfl (fun c3 => c_ifT rfl ?_) (fun c3 => c_ifF rfl ?_)
  · refine c_skip (x_seq (c_ifT rfl (q0 (l_p 4 tbOk rfl (q1 (c_ret (x_blkR (x_seqR ?_))))))))
    refine x_ret4 rfl rfl rfl rfl rfl ?_
    subst c3
    exact ⟨rfl, rfl⟩
  refine q0 (l_p 2 tbOk rfl (q1 ?_))
  refine c_splitP 7 _ rfl (fun c4 => c_ifT rfl ?_) (fun c4 => c_ifF rfl ?_)
  · refine c_skip (x_seq (c_ifT rfl (q0 (l_p 4 tbOk rfl (q1 (c_ret (x_blkR (x_seqR ?_))))))))
    refine x_ret4 rfl rfl rfl rfl rfl ?_
    subst c4
    exact ⟨rfl, rfl⟩
  refine q0 (l_p 2 tbOk rfl (q1 ?_))
  refine c_splitP 7 _ rfl (fun c5 => c_ifT rfl ?_) (fun c5 => c_ifF rfl ?_)
  · refine c_skip (x_seq (c_ifT rfl (q0 (l_p 4 tbOk rfl (q1 (c_ret (x_blkR (x_seqR ?_))))))))
    refine x_ret4 rfl rfl rfl rfl rfl ?_
    subst c5
    exact ⟨rfl, rfl⟩
  refine q0 (l_p 2 tbOk rfl (q1 ?_))
  refine c_splitP 7 _ rfl (fun c6 => c_ifT rfl ?_) (fun c6 => c_ifF rfl ?_)
  · refine c_skip (x_seq (c_ifT rfl (q0 (l_p 4 tbOk rfl (q1 (c_ret (x_blkR (x_seqR ?_))))))))
    refine x_ret4 rfl rfl rfl rfl rfl ?_
    subst c6
    exact ⟨rfl, rfl⟩
  refine q0 (l_p 2 tbOk rfl (q1 ?_))
  refine c_splitP 7 _ rfl (fun c7 => c_ifT rfl ?_) (fun c7 => c_ifF rfl ?_)
  · refine c_skip (x_seq (c_ifT rfl (q0 (l_p 4 tbOk rfl (q1 (c_ret (x_blkR (x_seqR ?_))))))))
    refine x_ret4 rfl rfl rfl rfl rfl ?_
    subst c7
    exact ⟨rfl, rfl⟩
  refine q0 (l_p 2 tbOk rfl (q1 ?_))
  refine c_splitP 7 _ rfl (fun c8 => c_ifT rfl ?_) (fun c8 => c_ifF rfl ?_)
  · refine c_skip (x_seq (c_ifT rfl (q0 (l_p 4 tbOk rfl (q1 (c_ret (x_blkR (x_seqR ?_))))))))
    refine x_ret4 rfl rfl rfl rfl rfl ?_
    subst c8
    exact ⟨rfl, rfl⟩
  refine c_reg (l_p 2 tbOk rfl (q1 ?_))
  refine c_splitP 7 _ rfl (fun c9 => c_ifT rfl ?_) (fun c9 => c_ifF rfl ?_)
  · refine q0 (l_p 4 tbOk rfl (q1 (c_ret (x_blkR (x_seqR ?_)))))
    refine x_ret4 rfl rfl rfl rfl rfl ?_
    subst c9
    exact ⟨rfl, rfl⟩
  refine c_seq (q0 (l_p 2 tbOk rfl (q1 ?_)))
  refine c_splitP 17 _ rfl (fun c10 => c_ifT rfl ?_) (fun c10 => c_ifF rfl ?_)
  · refine c_skip (x_seq (c_ifT rfl (q0 (l_p 4 tbOk rfl (q1 (c_ret (x_blkR (x_seqR ?_))))))))
    refine x_ret4 rfl rfl rfl rfl rfl ?_
    subst c10
    exact ⟨rfl, rfl⟩
  refine c_reg (l_p 2 tbOk rfl (q1 ?_))
  refine c_splitP 17 _ rfl (fun c11 => c_ifT rfl ?_) (fun c11 => c_ifF rfl ?_)
  · refine q0 (l_p 4 tbOk rfl (q1 (c_ret (x_blkR (x_seqR ?_)))))
    refine x_ret4 rfl rfl rfl rfl rfl ?_
    subst c11
    exact ⟨rfl, rfl⟩
  refine q0 (l_p 2 tbOk rfl (q1 ?_))
  refine c_ifP _ rfl (fun c12 => ?_) (fun c12 => ?_)
  · refine q0 (l_p 4 tbOk rfl (q1 (c_ret (x_blkR (x_seqR ?_)))))
    refine x_ret4 rfl rfl rfl rfl rfl ?_
    subst c12
    exact ⟨rfl, rfl⟩
  refine q0 (l_p 2 tbOk rfl (q1 ?_))
  refine c_ifP _ rfl (fun c13 => ?_) (fun c13 => ?_)
  · refine q0 (l_p 4 tbOk rfl (q1 (c_ret (x_blkR (x_seqR ?_)))))
    refine x_ret4 rfl rfl rfl rfl rfl ?_
    subst c13
    exact ⟨rfl, rfl⟩
  refine q0 (l_p 2 tbOk rfl (q1 ?_))
  refine c_ifP _ rfl (fun c14 => ?_) (fun c14 => ?_)
  · refine q0 (l_p 4 tbOk rfl (q1 (c_ret (x_blkR (x_seqR ?_)))))
    refine x_ret4 rfl rfl rfl rfl rfl ?_
    subst c14
    exact ⟨rfl, rfl⟩
  refine q0 (l_p 2 tbOk rfl (q1 ?_))
  refine c_ifP _ rfl (fun c15 => ?_) (fun c15 => ?_)
  · refine q0 (l_p 4 tbOk rfl (q1 (c_ret (x_blkR (x_seqR ?_)))))
    refine x_ret4 rfl rfl rfl rfl rfl ?_
    subst c15
    exact ⟨rfl, rfl⟩
  refine q0 (l_p 2 tbOk rfl (q1 ?_))
  refine c_ifP _ rfl (fun c16 => ?_) (fun c16 => ?_)
  · refine q0 (l_p 4 tbOk rfl (q1 (c_ret (x_blkR (x_seqR ?_)))))
    refine x_ret4 rfl rfl rfl rfl rfl ?_
    subst c16
    exact ⟨rfl, rfl⟩
  refine c_skip (x_blk (x_seq (q0 (l_p 4 tbOk rfl (q1 (c_ret ?_))))))
  refine x_ret4 rfl rfl rfl rfl rfl ?_
  exact ⟨by unfold prt; simp [*], rfl⟩
/-- count of kids. -/
theorem cnt_spec (op : Int) (w : World) :
    Calls Try.prog 105 #[.int .u8 op] w (Ret fun r w' => r = .int .i64 (cnt op) ∧ w = w') := by
  refine c_enter (n := 19) Try.func105 rfl rfl rfl ?_
  refine q0 (l_p 1 tbOk rfl (q1 (c_seq (q0 (l_p 1 tbOk rfl (q1 (c_blk (c_seq (q0 (l_p 2 tbOk rfl (q1 ?_)))))))))))
  refine c_splitP 4 _ rfl (fun c1 => c_ifT rfl ?_) (fun c1 => c_ifF rfl ?_)
  · refine c_skip (x_seq (c_ifT rfl (q0 (l_p 1 tbOk rfl (q1 (c_ret (x_blkR (x_seqR (x_ret1 rfl rfl ?_)))))))))
    subst c1
    exact ⟨rfl, rfl⟩
  refine q0 (l_p 2 tbOk rfl (q1 ?_))
  refine c_splitP 4 _ rfl (fun c2 => c_ifT rfl ?_) (fun c2 => c_ifF rfl ?_)
  · refine c_skip (x_seq (c_ifT rfl (q0 (l_p 1 tbOk rfl (q1 (c_ret (x_blkR (x_seqR (x_ret1 rfl rfl ?_)))))))))
    subst c2
    exact ⟨rfl, rfl⟩
  refine q0 (l_p 2 tbOk rfl (q1 ?_))
  refine c_splitP 4 _ rfl (fun c3 => c_ifT rfl ?_) (fun c3 => c_ifF rfl ?_)
  · refine c_skip (x_seq (c_ifT rfl (q0 (l_p 1 tbOk rfl (q1 (c_ret (x_blkR (x_seqR (x_ret1 rfl rfl ?_)))))))))
    subst c3
    exact ⟨rfl, rfl⟩
  refine c_reg (l_p 2 tbOk rfl (q1 ?_))
  refine c_splitP 4 _ rfl (fun c4 => c_ifT rfl ?_) (fun c4 => c_ifF rfl ?_)
  · refine q0 (l_p 1 tbOk rfl (q1 (c_ret (x_blkR (x_seqR (x_ret1 rfl rfl ?_))))))
    subst c4
    exact ⟨rfl, rfl⟩
  refine c_seq (q0 (l_p 2 tbOk rfl (q1 ?_)))
  refine c_splitP 9 _ rfl (fun c5 => c_ifT rfl ?_) (fun c5 => c_ifF rfl ?_)
  · refine c_skip (x_seq (c_ifT rfl (q0 (l_p 1 tbOk rfl (q1 (c_ret (x_blkR (x_seqR (x_ret1 rfl rfl ?_)))))))))
    subst c5
    exact ⟨rfl, rfl⟩
  refine q0 (l_p 2 tbOk rfl (q1 ?_))
  refine c_splitP 9 _ rfl (fun c6 => c_ifT rfl ?_) (fun c6 => c_ifF rfl ?_)
  · refine c_skip (x_seq (c_ifT rfl (q0 (l_p 1 tbOk rfl (q1 (c_ret (x_blkR (x_seqR (x_ret1 rfl rfl ?_)))))))))
    subst c6
    exact ⟨rfl, rfl⟩
  refine q0 (l_p 2 tbOk rfl (q1 ?_))
  refine c_splitP 9 _ rfl (fun c7 => c_ifT rfl ?_) (fun c7 => c_ifF rfl ?_)
  · refine c_skip (x_seq (c_ifT rfl (q0 (l_p 1 tbOk rfl (q1 (c_ret (x_blkR (x_seqR (x_ret1 rfl rfl ?_)))))))))
    subst c7
    exact ⟨rfl, rfl⟩
  refine q0 (l_p 2 tbOk rfl (q1 ?_))
  refine c_splitP 9 _ rfl (fun c8 => c_ifT rfl ?_) (fun c8 => c_ifF rfl ?_)
  · refine c_skip (x_seq (c_ifT rfl (q0 (l_p 1 tbOk rfl (q1 (c_ret (x_blkR (x_seqR (x_ret1 rfl rfl ?_)))))))))
    subst c8
    exact ⟨rfl, rfl⟩
  refine c_reg (l_p 2 tbOk rfl (q1 ?_))
  refine c_splitP 9 _ rfl (fun c9 => c_ifT rfl ?_) (fun c9 => c_ifF rfl ?_)
  · refine q0 (l_p 1 tbOk rfl (q1 (c_ret (x_blkR (x_seqR (x_ret1 rfl rfl ?_))))))
    subst c9
    exact ⟨rfl, rfl⟩
  refine q0 (l_p 2 tbOk rfl (q1 ?_))
  refine c_ifP _ rfl (fun c10 => ?_) (fun c10 => ?_)
  · refine q0 (l_p 1 tbOk rfl (q1 (c_ret (x_blkR (x_seqR (x_ret1 rfl rfl ?_))))))
    subst c10
    exact ⟨rfl, rfl⟩
  refine q0 (l_p 2 tbOk rfl (q1 ?_))
  refine c_ifP _ rfl (fun c11 => ?_) (fun c11 => ?_)
  · refine q0 (l_p 1 tbOk rfl (q1 (c_ret (x_blkR (x_seqR (x_ret1 rfl rfl ?_))))))
    subst c11
    exact ⟨rfl, rfl⟩
  refine c_skip (x_blk (x_seq (q0 (l_p 1 tbOk rfl (q1 (c_ret (x_ret1 rfl rfl ?_)))))))
  exact ⟨by unfold cnt; simp [*], rfl⟩
/-- term: an expression is put. -/
theorem penTerm_spec : ∀ (t : Tm) (b : List UInt8) (M : Nat → Prop) (w : World) (B bp : Nat) (bv : Value), MB B M w bp 125 [bv] → OwnSl 5 B M w bv b → (∀ x, (bv : Value).ownBlock = some x → x ≠ bp) → Low M w → B ≤ w.heap.size → ∀ (v : Value), Rep.R M w v t → b.length + (termB t).length ≤ 999999998000 → Calls Try.prog 82 #[.pointer (some ⟨bp, 0, none⟩), v] w (Ret fun r w' => r = .tuple #[] ∧ ∃ M' bv', MB B M' w' bp 125 [bv'] ∧ OwnSl 5 B M' w' bv' (b ++ termB t) ∧ (∀ x, (bv' : Value).ownBlock = some x → x ≠ bp) ∧ Stp B M M' w w') := by
  refine Tm.ind fun t ih => ?_
  intro b M w B bp bv hp ho hne hlow hB v ht hl
  have hT : Stp B M M w w := Stp.refl hlow
  have d_ho_hp := hne
  obtain ⟨akv, kv, rfl, op, nm, ag, n64, ha, hk⟩ := tm_open ht
  have hlt := hk.lt
  have hle := congrArg List.length (termB_eq t)
  rw [List.length_append, headE] at hle
  simp only [List.length_append] at hle
  refine c_enter (n := 96) Try.func82 rfl rfl rfl ?_
  refine q0 ?_
  refine l_cons (o_box rfl rfl rfl ?_)
  intro b3 w1 hb_b3 ew1 h3
  replace h3 : Box _ b3 84 [.int .u8 t.op, .string t.name, .string t.arg, .int .i64 t.n, .bool t.has, .int .u8 t.ann.op, .string t.ann.name, .int .i64 t.ann.n, akv, kv] := h3
  replace h3 := h3.at (nM_of hlow hb_b3)
  replace hT := hT.then (Stp.ext ew1 hlow hB)
  replace hp := hp.ext hlow hB ew1
  replace ho := ho.ext hlow hB ew1
  replace ht := Rep.ext ht ew1
  replace ha := Rep.ext ha ew1
  replace hk := hk.ext ew1
  replace hlow := hlow.ext ew1
  replace hB := Nat.le_trans hB ew1.size
  refine q1 (c_seq ?_)
  refine a_beg (Sof2 B M bp) rfl ?_
  intro w2 ew2
  replace hT := hT.then (Stp.ext ew2 hlow hB)
  replace hp := hp.ext hlow hB ew2
  replace ho := ho.ext hlow hB ew2
  replace ht := Rep.ext ht ew2
  replace ha := Rep.ext ha ew2
  replace hk := hk.ext ew2
  replace h3 := h3.ext ew2
  replace hlow := hlow.ext ew2
  replace hB := Nat.le_trans hB ew2.size
  have hS : Stp B M M w2 w2 := Stp.refl hlow
  have D_hp := hp.box
  have D_hk := hk
  have D_h3 := h3
  refine a_p 0 tbOk rfl rfl rfl rfl (by kernel_rfl) (fun _ _ _ h => h) ⟨⟨_, hS⟩, hp.box.heap.trans D_hp.heap.symm⟩ ?_
  refine a_p 1 tbOk rfl rfl rfl rfl (by kernel_rfl) (fun _ _ _ h => h) ⟨⟨_, hS⟩, hp.box.heap.trans D_hp.heap.symm⟩ ?_
  refine a_p 2 tbOk rfl rfl rfl rfl (by kernel_rfl) (fun _ _ _ h => h) ⟨⟨_, hS⟩, hp.box.heap.trans D_hp.heap.symm⟩ ?_
  refine a_p 3 tbOk rfl rfl rfl rfl (by kernel_rfl) (fun _ _ _ h => h) ⟨⟨_, hS⟩, hp.box.heap.trans D_hp.heap.symm⟩ ?_
  refine a_ld 4 tbOk (fun _ hs => (D_hp.so2 hs).cell 0 _ rfl) rfl rfl rfl rfl rfl rfl (by kernel_rfl) (fun _ _ _ h => h) ⟨⟨_, hS⟩, hp.box.heap.trans D_hp.heap.symm⟩ ?_
  refine a_p 5 tbOk rfl rfl rfl rfl (by kernel_rfl) (fun _ _ _ h => h) ⟨⟨_, hS⟩, hp.box.heap.trans D_hp.heap.symm⟩ ?_
  refine a_ld 6 tbOk (fun _ hs => (D_h3.so2 hs).cell 0 _ rfl) rfl rfl rfl rfl rfl rfl (by kernel_rfl) (fun _ _ _ h => h) ⟨⟨_, hS⟩, hp.box.heap.trans D_hp.heap.symm⟩ ?_
  refine a_one 7 rfl (by kernel_rfl) (o_bs tbOk rfl rfl rfl rfl rfl rfl rfl (sz1 rfl) rfl rfl rfl ?_)
  intro bw3 w3 qbw3 ew3 hbw3
  have nbw3 := nM_of hlow qbw3
  replace hT := hT.then (Stp.ext ew3 hlow hB)
  replace hS := hS.then (Stp.ext ew3 hlow hB)
  replace hp := hp.ext hlow hB ew3
  replace ho := ho.ext hlow hB ew3
  replace ht := Rep.ext ht ew3
  replace ha := Rep.ext ha ew3
  replace hk := hk.ext ew3
  replace h3 := h3.ext ew3
  replace hlow := hlow.ext ew3
  replace hB := Nat.le_trans hB ew3.size
  refine ⟨⟨⟨_, hS⟩, hp.box.heap.trans D_hp.heap.symm⟩, ?_⟩
  refine a_one 8 rfl (by kernel_rfl) (o_app1 tbOk ho hbw3 nbw3 (show Rep.R _ _ _ (UInt8.ofNat t.op.toNat) from op_byte op) hlow hB rfl rfl rfl rfl rfl rfl rfl (by omega) (by show (_ + _) * 1 ≤ _; omega) rfl rfl ?_)
  intro vw4 w4 Mw4 hw4 sw4 frw4 blw4
  have zd_ho_hp := d_ho_hp
  replace d_ho_hp : ∀ x, (vw4 : Value).ownBlock = some x → x ≠ bp := fun x hx => (blw4 x hx).elim (d_ho_hp x) (fun h e => by have := hp.lt; omega)
  replace hT := hT.then sw4
  replace hS := hS.then sw4
  replace hp := hp.stp sw4 (frw4 bp hp.lt (fun e => zd_ho_hp _ e.symm rfl))
  replace ht := Rep.stp ht sw4
  replace ha := Rep.stp ha sw4
  replace hk := hk.stp sw4
  replace h3 := h3.stp sw4
  replace hlow := sw4.low
  replace hB := Nat.le_trans hB sw4.upd.1
  refine ⟨⟨⟨_, hS⟩, hp.box.heap.trans D_hp.heap.symm⟩, ?_⟩
  replace ho := hw4
  clear hw4
  refine a_p 9 tbOk rfl rfl rfl rfl (by kernel_rfl) (fun _ _ _ h => h) ⟨⟨_, hS⟩, hp.box.heap.trans D_hp.heap.symm⟩ ?_
  refine a_p 10 tbOk rfl rfl rfl rfl (by kernel_rfl) (fun _ _ _ h => h) ⟨⟨_, hS⟩, hp.box.heap.trans D_hp.heap.symm⟩ ?_
  obtain ⟨a1, ca1, rfl, _⟩ := ho.val
  refine a_bar 11 rfl (by kernel_rfl) (by kernel_rfl) (o_st tbOk hp.box rfl rfl rfl rfl (by intro u hu; simp [Value.cells] at hu; subst hu; rfl) rfl rfl ?_)
  intro w5 hw5 qw5 bew5
  have uw5 : UpdB _ _ _ := ⟨qw5, bew5⟩
  have sw5 := uw5.stp hp.inM hlow hp.ge
  have frw5 := qw5.2
  replace hT := hT.then sw5
  replace hS := hS.then sw5
  replace ho := ho.stp sw5 (fun x hx => frw5 x (ho.lt x hx).2 (d_ho_hp x hx))
  replace ht := Rep.stp ht sw5
  replace ha := Rep.stp ha sw5
  replace hk := hk.stp sw5
  replace h3 := h3.stp sw5
  replace hlow := sw5.low
  replace hB := Nat.le_trans hB sw5.upd.1
  replace hp : MB B _ w5 bp _ [(.slice a1 (b ++ [UInt8.ofNat t.op.toNat]).length ca1)] := ⟨hw5, hp.inM, hp.ge⟩
  refine a_end (by kernel_rfl) ?_
  refine x_seq (q0 (l_p 1 tbOk rfl ?_))
  refine l_cons (o_ld tbOk (h3.cell 0 _ rfl) rfl rfl rfl rfl rfl ?_)
  refine l_cons (o_call fo104 rfl rfl rfl (prt_spec t.op _) ?_)
  rintro _ _ ⟨rfl, rfl⟩
  refine l_p 9 tbOk rfl (q1 ?_)
  refine c_cut2 (X := Value) (Y := Nat → Prop) (fun bv M1 => [(0, .pointer (some ⟨bp, 0, none⟩)), (3, .pointer (some ⟨b3, 0, none⟩)), (5, .bool (prt t.op).2.1), (6, .bool (prt t.op).2.2.1), (7, .int .i64 (prt t.op).2.2.2)]) (fun bv M1 w' => MB B M1 w' bp 125 [bv] ∧ OwnSl 5 B M1 w' bv (b ++ o1 t.op t.name) ∧ (∀ x, (bv : Value).ownBlock = some x → x ≠ bp) ∧ Stp B M M1 w w' ∧ Low M1 w' ∧ B ≤ w'.heap.size ∧ At M1 w' b3 0 [.int .u8 t.op, .string t.name, .string t.arg, .int .i64 t.n, .bool t.has, .int .u8 t.ann.op, .string t.ann.name, .int .i64 t.ann.n, akv, kv] ∧ Rep.R M1 w' (.agg #[.int .u8 t.ann.op, .string t.ann.name, .int .i64 t.ann.n, akv]) t.ann ∧ Sl M1 w' kv t.kids) ?_ ?_
  · refine q0 (l_p 1 tbOk rfl (q1 ?_))
    refine c_if _ rfl (fun c2 => ?_) (fun c2 => ?_)
    · refine c_reg (l_p 2 tbOk rfl ?_)
      refine l_cons (o_ld tbOk (h3.cell 1 _ rfl) rfl rfl rfl rfl rfl ?_)
      have e1 : (o1 t.op t.name).length = (textB t.name).length + 1 := by rw [o1, c2]; rfl
      have e0 := textB_size t.name
      refine l_cons (o_call fo71 rfl rfl rfl (penText_spec t.name nm _ _ _ B bp _ hp ho d_ho_hp hlow hB (by simp only [List.length_append, List.length_cons, List.length_nil]; omega)) ?_)
      rintro _ w6 ⟨rfl, Mw6, vw6, hpw6, how6, new6, sw6⟩
      replace hT := hT.then sw6
      replace ht := Rep.stp ht sw6
      replace ha := Rep.stp ha sw6
      replace hk := hk.stp sw6
      replace h3 := h3.stp sw6
      replace hlow := sw6.low
      replace hB := Nat.le_trans hB sw6.upd.1
      replace hp := hpw6
      replace ho := how6
      replace d_ho_hp := new6
      clear hpw6 how6 new6
      refine l_nil ?_
      exact x_cut2 (vw6) (Mw6) (s5 rfl rfl rfl rfl rfl) ⟨hp, by rw [o1_yes c2]; exact ho, d_ho_hp, hT, hlow, hB, h3, ha, hk⟩
    refine c_skip ?_
    exact x_cut2 ((.slice a1 (b ++ [UInt8.ofNat t.op.toNat]).length ca1)) (Mw4) (s5 rfl rfl rfl rfl rfl) ⟨hp, by rw [o1_no c2]; exact ho, d_ho_hp, hT, hlow, hB, h3, ha, hk⟩
  clear hp ho d_ho_hp hT hlow hB h3 ha hk ht hne
  rintro bv M1 w81 ⟨hp, ho, d_ho_hp, hT, hlow, hB, h3, ha, hk⟩
  refine c_cut2 (X := Value) (Y := Nat → Prop) (fun bv M1 => [(0, .pointer (some ⟨bp, 0, none⟩)), (3, .pointer (some ⟨b3, 0, none⟩)), (6, .bool (prt t.op).2.2.1), (7, .int .i64 (prt t.op).2.2.2)]) (fun bv M1 w' => MB B M1 w' bp 125 [bv] ∧ OwnSl 5 B M1 w' bv (b ++ o1 t.op t.name ++ o2 t.op t.arg) ∧ (∀ x, (bv : Value).ownBlock = some x → x ≠ bp) ∧ Stp B M M1 w w' ∧ Low M1 w' ∧ B ≤ w'.heap.size ∧ At M1 w' b3 0 [.int .u8 t.op, .string t.name, .string t.arg, .int .i64 t.n, .bool t.has, .int .u8 t.ann.op, .string t.ann.name, .int .i64 t.ann.n, akv, kv] ∧ Rep.R M1 w' (.agg #[.int .u8 t.ann.op, .string t.ann.name, .int .i64 t.ann.n, akv]) t.ann ∧ Sl M1 w' kv t.kids) ?_ ?_
  · refine q0 (l_p 1 tbOk rfl (q1 ?_))
    refine c_if _ rfl (fun c3 => ?_) (fun c3 => ?_)
    · refine c_reg (l_p 2 tbOk rfl ?_)
      refine l_cons (o_ld tbOk (h3.cell 2 _ rfl) rfl rfl rfl rfl rfl ?_)
      have e1 : (o2 t.op t.arg).length = (textB t.arg).length := by rw [o2, c3]; rfl
      have e0 := textB_size t.arg
      refine l_cons (o_call fo71 rfl rfl rfl (penText_spec t.arg ag _ _ _ B bp _ hp ho d_ho_hp hlow hB (by simp only [List.length_append, List.length_cons, List.length_nil]; omega)) ?_)
      rintro _ w7 ⟨rfl, Mw7, vw7, hpw7, how7, new7, sw7⟩
      replace hT := hT.then sw7
      replace h3 := h3.stp sw7
      replace ha := Rep.stp ha sw7
      replace hk := hk.stp sw7
      replace hlow := sw7.low
      replace hB := Nat.le_trans hB sw7.upd.1
      replace hp := hpw7
      replace ho := how7
      replace d_ho_hp := new7
      clear hpw7 how7 new7
      refine l_nil ?_
      exact x_cut2 (vw7) (Mw7) (s4 rfl rfl rfl rfl) ⟨hp, by rw [show o2 t.op t.arg = textB t.arg by rw [o2, c3]; rfl]; exact ho, d_ho_hp, hT, hlow, hB, h3, ha, hk⟩
    refine c_skip ?_
    exact x_cut2 (bv) (M1) (s4 rfl rfl rfl rfl) ⟨hp, by rw [show o2 t.op t.arg = [] by rw [o2, c3]; rfl, List.append_nil]; exact ho, d_ho_hp, hT, hlow, hB, h3, ha, hk⟩
  clear hp ho d_ho_hp hT hlow hB h3 ha hk
  rintro bv M1 w82 ⟨hp, ho, d_ho_hp, hT, hlow, hB, h3, ha, hk⟩
  refine c_cut2 (X := Value) (Y := Nat → Prop) (fun bv M1 => [(0, .pointer (some ⟨bp, 0, none⟩)), (3, .pointer (some ⟨b3, 0, none⟩)), (7, .int .i64 (prt t.op).2.2.2)]) (fun bv M1 w' => MB B M1 w' bp 125 [bv] ∧ OwnSl 5 B M1 w' bv (b ++ o1 t.op t.name ++ o2 t.op t.arg ++ o3 t.op t.n) ∧ (∀ x, (bv : Value).ownBlock = some x → x ≠ bp) ∧ Stp B M M1 w w' ∧ Low M1 w' ∧ B ≤ w'.heap.size ∧ At M1 w' b3 0 [.int .u8 t.op, .string t.name, .string t.arg, .int .i64 t.n, .bool t.has, .int .u8 t.ann.op, .string t.ann.name, .int .i64 t.ann.n, akv, kv] ∧ Rep.R M1 w' (.agg #[.int .u8 t.ann.op, .string t.ann.name, .int .i64 t.ann.n, akv]) t.ann ∧ Sl M1 w' kv t.kids) ?_ ?_
  · refine q0 (l_p 1 tbOk rfl (q1 ?_))
    refine c_if _ rfl (fun c4 => ?_) (fun c4 => ?_)
    · refine c_reg (l_p 2 tbOk rfl ?_)
      refine l_cons (o_ld tbOk (h3.cell 3 _ rfl) rfl rfl rfl rfl rfl ?_)
      refine l_cons (o_conv tbOk rfl rfl rfl rfl rfl (wrap_u64 _) rfl rfl ?_)
      refine l_cons (o_call fo100 rfl rfl rfl (penNum_spec (u64 t.n) (u64_lt _) _ _ _ B bp _ hp ho d_ho_hp hlow hB (by simp only [List.length_append, List.length_cons, List.length_nil]; omega)) ?_)
      rintro _ w8 ⟨rfl, Mw8, vw8, hpw8, how8, new8, sw8⟩
      replace hT := hT.then sw8
      replace h3 := h3.stp sw8
      replace ha := Rep.stp ha sw8
      replace hk := hk.stp sw8
      replace hlow := sw8.low
      replace hB := Nat.le_trans hB sw8.upd.1
      replace hp := hpw8
      replace ho := how8
      replace d_ho_hp := new8
      clear hpw8 how8 new8
      refine l_nil ?_
      exact x_cut2 (vw8) (Mw8) (s3 rfl rfl rfl) ⟨hp, by rw [show o3 t.op t.n = numY (u64 t.n) by rw [o3, c4]; rfl]; exact ho, d_ho_hp, hT, hlow, hB, h3, ha, hk⟩
    refine c_skip ?_
    exact x_cut2 (bv) (M1) (s3 rfl rfl rfl) ⟨hp, by rw [show o3 t.op t.n = [] by rw [o3, c4]; rfl, List.append_nil]; exact ho, d_ho_hp, hT, hlow, hB, h3, ha, hk⟩
  clear hp ho d_ho_hp hT hlow hB h3 ha hk
  rintro bv M1 w83 ⟨hp, ho, d_ho_hp, hT, hlow, hB, h3, ha, hk⟩
  refine c_cut2 (X := Value) (Y := Nat → Prop) (fun bv M1 => [(0, .pointer (some ⟨bp, 0, none⟩)), (3, .pointer (some ⟨b3, 0, none⟩))]) (fun bv M1 w' => MB B M1 w' bp 125 [bv] ∧ OwnSl 5 B M1 w' bv (b ++ o1 t.op t.name ++ o2 t.op t.arg ++ o3 t.op t.n ++ o4 t.op t.has) ∧ (∀ x, (bv : Value).ownBlock = some x → x ≠ bp) ∧ Stp B M M1 w w' ∧ Low M1 w' ∧ B ≤ w'.heap.size ∧ At M1 w' b3 0 [.int .u8 t.op, .string t.name, .string t.arg, .int .i64 t.n, .bool t.has, .int .u8 t.ann.op, .string t.ann.name, .int .i64 t.ann.n, akv, kv] ∧ Rep.R M1 w' (.agg #[.int .u8 t.ann.op, .string t.ann.name, .int .i64 t.ann.n, akv]) t.ann ∧ Sl M1 w' kv t.kids) ?_ ?_
  · refine q0 (l_p 2 tbOk rfl (q1 ?_))
    refine c_ifP _ rfl (fun c5 => ?_) (fun c5 => ?_)
    · refine q0 (l_p 4 tbOk rfl ?_)
      refine l_cons (o_ld tbOk (hp.cell 0 _ rfl) rfl rfl rfl rfl rfl ?_)
      have e4 : (o4 t.op t.has).length = 1 := by rw [o4, decide_eq_true c5]; cases t.has <;> rfl
      refine l_cons (o_bs tbOk rfl rfl rfl rfl rfl rfl rfl (sz1 rfl) rfl rfl rfl ?_)
      intro bw9 w9 qbw9 ew9 hbw9
      have nbw9 := nM_of hlow qbw9
      replace hT := hT.then (Stp.ext ew9 hlow hB)
      replace hp := hp.ext hlow hB ew9
      replace ho := ho.ext hlow hB ew9
      replace h3 := h3.ext ew9
      replace ha := Rep.ext ha ew9
      replace hk := hk.ext ew9
      replace hlow := hlow.ext ew9
      replace hB := Nat.le_trans hB ew9.size
      refine l_cons (o_app1 tbOk ho hbw9 nbw9 (show Rep.R _ _ _ (0 : UInt8) from rfl) hlow hB rfl rfl rfl rfl rfl rfl rfl (by simp only [List.length_append, List.length_cons, List.length_nil]; omega) (by show (_ + _) * 1 ≤ _; simp only [List.length_append, List.length_cons, List.length_nil]; omega) rfl rfl ?_)
      intro vw10 w10 Mw10 hw10 sw10 frw10 blw10
      have zd_ho_hp := d_ho_hp
      replace d_ho_hp : ∀ x, (vw10 : Value).ownBlock = some x → x ≠ bp := fun x hx => (blw10 x hx).elim (d_ho_hp x) (fun h e => by have := hp.lt; omega)
      replace hT := hT.then sw10
      replace hp := hp.stp sw10 (frw10 bp hp.lt (fun e => zd_ho_hp _ e.symm rfl))
      replace h3 := h3.stp sw10
      replace ha := Rep.stp ha sw10
      replace hk := hk.stp sw10
      replace hlow := sw10.low
      replace hB := Nat.le_trans hB sw10.upd.1
      replace ho := hw10
      clear hw10
      refine l_p 2 tbOk rfl ?_
      obtain ⟨a6, ca6, rfl, _⟩ := ho.val
      refine l_cons (o_st tbOk hp.box rfl rfl rfl rfl (by intro u hu; simp [Value.cells] at hu; subst hu; rfl) rfl rfl ?_)
      intro w11 hw11 qw11 bew11
      have uw11 : UpdB _ _ _ := ⟨qw11, bew11⟩
      have sw11 := uw11.stp hp.inM hlow hp.ge
      have frw11 := qw11.2
      replace hT := hT.then sw11
      replace ho := ho.stp sw11 (fun x hx => frw11 x (ho.lt x hx).2 (d_ho_hp x hx))
      replace h3 := h3.stp sw11
      replace ha := Rep.stp ha sw11
      replace hk := hk.stp sw11
      replace hlow := sw11.low
      replace hB := Nat.le_trans hB sw11.upd.1
      replace hp : MB B _ w11 bp _ [(.slice a6 (b ++ o1 t.op t.name ++ o2 t.op t.arg ++ o3 t.op t.n ++ [0]).length ca6)] := ⟨hw11, hp.inM, hp.ge⟩
      refine q1 (q0 (l_p 1 tbOk rfl ?_))
      refine l_cons (o_ld tbOk (h3.cell 4 _ rfl) rfl rfl rfl rfl rfl ?_)
      refine q1 ?_
      refine c_if _ rfl (fun c7 => ?_) (fun c7 => ?_)
      · have hlz : (b ++ o1 t.op t.name ++ o2 t.op t.arg ++ o3 t.op t.n ++ [0]).length = b.length + (o1 t.op t.name).length + (o2 t.op t.arg).length + (o3 t.op t.n).length + 1 := by simp only [List.length_append, List.length_cons, List.length_nil]
        refine a_beg (Sof2 B Mw10 bp) rfl ?_
        intro w12 ew12
        replace hT := hT.then (Stp.ext ew12 hlow hB)
        replace hp := hp.ext hlow hB ew12
        replace ho := ho.ext hlow hB ew12
        replace h3 := h3.ext ew12
        replace ha := Rep.ext ha ew12
        replace hk := hk.ext ew12
        replace hlow := hlow.ext ew12
        replace hB := Nat.le_trans hB ew12.size
        have hS : Stp B Mw10 Mw10 w12 w12 := Stp.refl hlow
        have D_hp := hp.box
        have D_h3 := h3
        have D_hk := hk
        refine a_p 0 tbOk rfl rfl rfl rfl (by kernel_rfl) (fun _ _ _ h => h) ⟨⟨_, hS⟩, hp.box.heap.trans D_hp.heap.symm⟩ ?_
        refine a_p 1 tbOk rfl rfl rfl rfl (by kernel_rfl) (fun _ _ _ h => h) ⟨⟨_, hS⟩, hp.box.heap.trans D_hp.heap.symm⟩ ?_
        refine a_p 2 tbOk rfl rfl rfl rfl (by kernel_rfl) (fun _ _ _ h => h) ⟨⟨_, hS⟩, hp.box.heap.trans D_hp.heap.symm⟩ ?_
        refine a_ld 3 tbOk (fun _ hs => (D_hp.so2 hs).cell 0 _ rfl) rfl rfl rfl rfl rfl rfl (by kernel_rfl) (fun _ _ _ h => h) ⟨⟨_, hS⟩, hp.box.heap.trans D_hp.heap.symm⟩ ?_
        refine a_p 4 tbOk rfl rfl rfl rfl (by kernel_rfl) (fun _ _ _ h => h) ⟨⟨_, hS⟩, hp.box.heap.trans D_hp.heap.symm⟩ ?_
        refine a_p 5 tbOk rfl rfl rfl rfl (by kernel_rfl) (fun _ _ _ h => h) ⟨⟨_, hS⟩, hp.box.heap.trans D_hp.heap.symm⟩ ?_
        refine a_p 6 tbOk rfl rfl rfl rfl (by kernel_rfl) (fun _ _ _ h => h) ⟨⟨_, hS⟩, hp.box.heap.trans D_hp.heap.symm⟩ ?_
        refine a_ld 7 tbOk (fun _ hs => (D_hp.so2 hs).cell 0 _ rfl) rfl rfl rfl rfl rfl rfl (by kernel_rfl) (fun _ _ _ h => h) ⟨⟨_, hS⟩, hp.box.heap.trans D_hp.heap.symm⟩ ?_
        refine a_one 8 rfl (by kernel_rfl) (o_lenO tbOk ho rfl rfl rfl rfl rfl ?_)
        refine ⟨⟨⟨_, hS⟩, hp.box.heap.trans D_hp.heap.symm⟩, ?_⟩
        refine a_ar 9 rfl rfl rfl rfl (IntWalk.i64_in _ (by omega)) rfl rfl (by kernel_rfl) (fun _ _ _ h => h) ⟨⟨_, hS⟩, hp.box.heap.trans D_hp.heap.symm⟩ ?_
        refine a_ixO 10 tbOk ho (get_last _ _) rfl rfl rfl (by simp only [List.length_append, List.length_cons, List.length_nil]; omega) rfl rfl rfl rfl rfl rfl (by kernel_rfl) (fun _ _ _ _ h => h) ⟨⟨_, hS⟩, hp.box.heap.trans D_hp.heap.symm⟩ ?_
        intro ibz iuz hobz hrz hatz
        refine a_bar 11 rfl (by kernel_rfl) (by kernel_rfl) (o_stO tbOk ho hobz (by simp) (show Rep.R _ _ _ (1 : UInt8) from rfl) hlow rfl rfl rfl rfl rfl rfl ?_)
        intro w13 hw13 sw13 frw13
        replace hT := hT.then sw13
        replace hS := hS.then sw13
        replace hp := hp.stp sw13 (frw13 bp hp.lt (fun e => d_ho_hp _ hobz e.symm))
        replace h3 := h3.stp sw13
        replace ha := Rep.stp ha sw13
        replace hk := hk.stp sw13
        replace hlow := sw13.low
        replace hB := Nat.le_trans hB sw13.upd.1
        replace ho := hw13
        clear hw13
        rw [set_last] at ho
        refine a_end (by kernel_rfl) ?_
        exact x_cut2 ((.slice a6 (b ++ o1 t.op t.name ++ o2 t.op t.arg ++ o3 t.op t.n ++ [0]).length ca6)) (Mw10) (s2 rfl rfl) ⟨hp, by rw [o4, decide_eq_true c5, c7]; exact ho, d_ho_hp, hT, hlow, hB, h3, ha, hk⟩
      refine c_skip ?_
      exact x_cut2 ((.slice a6 (b ++ o1 t.op t.name ++ o2 t.op t.arg ++ o3 t.op t.n ++ [0]).length ca6)) (Mw10) (s2 rfl rfl) ⟨hp, by rw [o4, decide_eq_true c5, c7]; exact ho, d_ho_hp, hT, hlow, hB, h3, ha, hk⟩
    refine c_skip ?_
    exact x_cut2 (bv) (M1) (s2 rfl rfl) ⟨hp, by rw [o4, decide_eq_false c5, cond_false, List.append_nil]; exact ho, d_ho_hp, hT, hlow, hB, h3, ha, hk⟩
  clear hp ho d_ho_hp hT hlow hB h3 ha hk
  rintro bv M1 w84 ⟨hp, ho, d_ho_hp, hT, hlow, hB, h3, ha, hk⟩
  refine c_cut2 (X := Value) (Y := Nat → Prop) (fun bv M1 => [(0, .pointer (some ⟨bp, 0, none⟩)), (3, .pointer (some ⟨b3, 0, none⟩))]) (fun bv M1 w' => MB B M1 w' bp 125 [bv] ∧ OwnSl 5 B M1 w' bv (b ++ o1 t.op t.name ++ o2 t.op t.arg ++ o3 t.op t.n ++ o4 t.op t.has ++ o5 t.has t.ann) ∧ (∀ x, (bv : Value).ownBlock = some x → x ≠ bp) ∧ Stp B M M1 w w' ∧ Low M1 w' ∧ B ≤ w'.heap.size ∧ At M1 w' b3 0 [.int .u8 t.op, .string t.name, .string t.arg, .int .i64 t.n, .bool t.has, .int .u8 t.ann.op, .string t.ann.name, .int .i64 t.ann.n, akv, kv] ∧ Rep.R M1 w' (.agg #[.int .u8 t.ann.op, .string t.ann.name, .int .i64 t.ann.n, akv]) t.ann ∧ Sl M1 w' kv t.kids) ?_ ?_
  · refine q0 (l_p 1 tbOk rfl ?_)
    refine l_cons (o_ld tbOk (h3.cell 4 _ rfl) rfl rfl rfl rfl rfl ?_)
    refine q1 ?_
    refine c_if _ rfl (fun c8 => ?_) (fun c8 => ?_)
    · refine c_reg (l_p 2 tbOk rfl ?_)
      refine l_cons (o_lds tbOk (fun j v hv => (h3).mid 5 (sub := [.int .u8 t.ann.op, .string t.ann.name, .int .i64 t.ann.n, akv]) rfl j v hv) rfl rfl rfl rfl rfl rfl ?_)
      have e1 : (o5 t.has t.ann).length = (typeB t.ann).length := by rw [o5, c8]; rfl
      refine l_cons (o_call fo83 rfl rfl rfl (penKind_spec t.ann _ _ _ B bp _ hp ho d_ho_hp hlow hB _ ha (by simp only [List.length_append, List.length_cons, List.length_nil]; omega)) ?_)
      rintro _ w14 ⟨rfl, Mw14, vw14, hpw14, how14, new14, sw14⟩
      replace hT := hT.then sw14
      replace h3 := h3.stp sw14
      replace ha := Rep.stp ha sw14
      replace hk := hk.stp sw14
      replace hlow := sw14.low
      replace hB := Nat.le_trans hB sw14.upd.1
      replace hp := hpw14
      replace ho := how14
      replace d_ho_hp := new14
      clear hpw14 how14 new14
      refine l_nil ?_
      exact x_cut2 (vw14) (Mw14) (s2 rfl rfl) ⟨hp, by rw [show o5 t.has t.ann = typeB t.ann by rw [o5, c8]; rfl]; exact ho, d_ho_hp, hT, hlow, hB, h3, ha, hk⟩
    refine c_skip ?_
    exact x_cut2 (bv) (M1) (s2 rfl rfl) ⟨hp, by rw [show o5 t.has t.ann = [] by rw [o5, c8]; rfl, List.append_nil]; exact ho, d_ho_hp, hT, hlow, hB, h3, ha, hk⟩
  clear hp ho d_ho_hp hT hlow hB h3 ha hk
  rintro bv M1 w85 ⟨hp, ho, d_ho_hp, hT, hlow, hB, h3, ha, hk⟩
  refine c_cut2 (X := Value) (Y := Nat → Prop) (fun bv M1 => [(0, .pointer (some ⟨bp, 0, none⟩)), (3, .pointer (some ⟨b3, 0, none⟩))]) (fun bv M1 w' => MB B M1 w' bp 125 [bv] ∧ OwnSl 5 B M1 w' bv (b ++ o1 t.op t.name ++ o2 t.op t.arg ++ o3 t.op t.n ++ o4 t.op t.has ++ o5 t.has t.ann ++ o6 t.op t.kids.length) ∧ (∀ x, (bv : Value).ownBlock = some x → x ≠ bp) ∧ Stp B M M1 w w' ∧ Low M1 w' ∧ B ≤ w'.heap.size ∧ At M1 w' b3 0 [.int .u8 t.op, .string t.name, .string t.arg, .int .i64 t.n, .bool t.has, .int .u8 t.ann.op, .string t.ann.name, .int .i64 t.ann.n, akv, kv] ∧ Rep.R M1 w' (.agg #[.int .u8 t.ann.op, .string t.ann.name, .int .i64 t.ann.n, akv]) t.ann ∧ Sl M1 w' kv t.kids) ?_ ?_
  · refine q0 (l_p 1 tbOk rfl ?_)
    refine l_cons (o_ld tbOk (h3.cell 0 _ rfl) rfl rfl rfl rfl rfl ?_)
    refine l_cons (o_call fo105 rfl rfl rfl (cnt_spec t.op _) ?_)
    rintro _ _ ⟨rfl, rfl⟩
    refine l_p 1 tbOk rfl (q1 ?_)
    refine c_ifP _ rfl (fun c9 => ?_) (fun c9 => ?_)
    · refine c_reg (l_p 2 tbOk rfl ?_)
      refine l_cons (o_ld tbOk (h3.cell 9 _ rfl) rfl rfl rfl rfl rfl ?_)
      refine l_cons (o_len tbOk hk rfl rfl rfl rfl rfl ?_)
      refine l_cons (o_conv (y := ((t.kids.length : Nat) : Int)) tbOk rfl rfl rfl rfl rfl ((wrap_u64 _).trans (by rw [u64_nat (by omega)])) rfl rfl ?_)
      refine l_cons (o_call fo100 rfl rfl rfl (penNum_spec t.kids.length (by omega) _ _ _ B bp _ hp ho d_ho_hp hlow hB (by simp only [List.length_append, List.length_cons, List.length_nil]; omega)) ?_)
      rintro _ w15 ⟨rfl, Mw15, vw15, hpw15, how15, new15, sw15⟩
      replace hT := hT.then sw15
      replace h3 := h3.stp sw15
      replace ha := Rep.stp ha sw15
      replace hk := hk.stp sw15
      replace hlow := sw15.low
      replace hB := Nat.le_trans hB sw15.upd.1
      replace hp := hpw15
      replace ho := how15
      replace d_ho_hp := new15
      clear hpw15 how15 new15
      refine l_nil ?_
      exact x_cut2 (vw15) (Mw15) (s2 rfl rfl) ⟨hp, by rw [o6, decide_eq_true c9]; exact ho, d_ho_hp, hT, hlow, hB, h3, ha, hk⟩
    refine c_skip ?_
    exact x_cut2 (bv) (M1) (s2 rfl rfl) ⟨hp, by rw [o6, decide_eq_false c9, cond_false, List.append_nil]; exact ho, d_ho_hp, hT, hlow, hB, h3, ha, hk⟩
  clear hp ho d_ho_hp hT hlow hB h3 ha hk
  rintro bv M1 w86 ⟨hp, ho, d_ho_hp, hT, hlow, hB, h3, ha, hk⟩
  refine q0 (l_p 1 tbOk rfl ?_)
  refine l_cons (o_ld tbOk (h3.cell 9 _ rfl) rfl rfl rfl rfl rfl ?_)
  refine l_cons (o_len tbOk hk rfl rfl rfl rfl rfl ?_)
  refine l_p 1 tbOk rfl (q1 (c_blk ?_))
  refine c_loop3 (X := Nat) (Y := Value) (Z := Nat → Prop) (fun i bv M1 => [(0, .pointer (some ⟨bp, 0, none⟩)), (86, kv), (87, .int .i64 (t.kids.length : Int)), (88, .int .i64 (i : Nat))]) (fun i bv M1 w' => i ≤ t.kids.length ∧ MB B M1 w' bp 125 [bv] ∧ OwnSl 5 B M1 w' bv ((b ++ o1 t.op t.name ++ o2 t.op t.arg ++ o3 t.op t.n ++ o4 t.op t.has ++ o5 t.has t.ann ++ o6 t.op t.kids.length) ++ (t.kids.take i).flatMap termB) ∧ (∀ x, (bv : Value).ownBlock = some x → x ≠ bp) ∧ Stp B M M1 w w' ∧ Low M1 w' ∧ B ≤ w'.heap.size ∧ Sl M1 w' kv t.kids) (fun i bv M1 => t.kids.length - i) (0) (bv) (M1) (s4 rfl rfl rfl rfl) ?_ ?_
  · exact ⟨Nat.zero_le _, hp, by simpa using ho, d_ho_hp, hT, hlow, hB, hk⟩
  clear hp ho d_ho_hp hT hlow hB hk
  rintro i bv M1 w16 ⟨hi, hp, ho, d_ho_hp, hT, hlow, hB, hk⟩
  have hft := flat_take_len (f := termB) (l := t.kids) i
  refine q0 (l_p 1 tbOk rfl (q1 (c_seq ?_)))
  refine c_ifP _ rfl (fun c10 => ?_) (fun c10 => ?_)
  · refine c_skip (x_seq (c_seq (c_blk (q0 ?_))))
    have hik : i < t.kids.length := by omega
    have hf1 := flat_take_len (f := termB) (l := t.kids) (i + 1)
    rw [flat_step hik, List.length_append] at hf1
    refine l_cons (o_ixS tbOk hk (List.getElem?_eq_getElem hik) rfl rfl rfl rfl rfl rfl rfl rfl rfl ?_)
    intro ebx eox eux hyx hatx
    obtain ⟨akvx, kvx, rfl, opx, nmx, agx, n64x, hax, hkx⟩ := tm_open hyx
    replace hatx : At M1 w16 ebx eox [.int .u8 t.kids[i].op, .string t.kids[i].name, .string t.kids[i].arg, .int .i64 t.kids[i].n, .bool t.kids[i].has, .int .u8 t.kids[i].ann.op, .string t.kids[i].ann.name, .int .i64 t.kids[i].ann.n, akvx, kvx] := hatx
    refine l_cons (o_lds tbOk (fun j v hv => hatx.cell j v hv) rfl rfl rfl rfl rfl rfl ?_)
    refine l_cons (o_new tbOk rfl rfl rfl ?_)
    intro b9 w17 qb9 ew17 hb9
    have nb9 := nM_of hlow qb9
    refine l_cons (o_st tbOk hb9 rfl rfl rfl rfl (Rep.one hyx) rfl rfl ?_)
    intro w18 h9 uw18 bew18
    have ew18 : Ext w16 w18 := ew17.trans (bew18 _ (Nat.le_of_eq qb9.symm))
    replace hT := hT.then (Stp.ext ew18 hlow hB)
    replace hp := hp.ext hlow hB ew18
    replace ho := ho.ext hlow hB ew18
    replace hk := hk.ext ew18
    replace hyx := Rep.ext hyx ew18
    replace hax := Rep.ext hax ew18
    replace hkx := hkx.ext ew18
    replace hatx := hatx.ext ew18
    replace hlow := hlow.ext ew18
    replace hB := Nat.le_trans hB ew18.size
    replace h9 : Box w18 b9 84 [.int .u8 t.kids[i].op, .string t.kids[i].name, .string t.kids[i].arg, .int .i64 t.kids[i].n, .bool t.kids[i].has, .int .u8 t.kids[i].ann.op, .string t.kids[i].ann.name, .int .i64 t.kids[i].ann.n, akvx, kvx] := h9
    replace h9 := h9.at nb9
    refine q1 (c_reg (l_p 1 tbOk rfl ?_))
    refine l_cons (o_lds tbOk (fun j v hv => h9.cell j v hv) rfl rfl rfl rfl rfl rfl ?_)
    refine l_cons (o_call fo82 rfl rfl rfl (ih _ (List.getElem_mem hik) _ _ _ B bp _ hp ho d_ho_hp hlow hB _ hyx (by simp only [List.length_append] at hle ⊢; omega)) ?_)
    rintro _ w19 ⟨rfl, Mw19, vw19, hpw19, how19, new19, sw19⟩
    replace hT := hT.then sw19
    replace hk := hk.stp sw19
    replace hyx := Rep.stp hyx sw19
    replace hax := Rep.stp hax sw19
    replace hkx := hkx.stp sw19
    replace hatx := hatx.stp sw19
    replace h9 := h9.stp sw19
    replace hlow := sw19.low
    replace hB := Nat.le_trans hB sw19.upd.1
    replace hp := hpw19
    replace ho := how19
    replace d_ho_hp := new19
    clear hpw19 how19 new19
    refine q2 (x_seq (c_reg ?_))
    refine l_cons (o_ar rfl rfl rfl (IntWalk.i64_in _ (by omega)) rfl rfl ?_)
    refine l_p 1 tbOk rfl (l_nil ?_)
    exact x_round3 (i + 1) (vw19) (Mw19) (s4 rfl rfl rfl (get_num rfl (by omega))) ⟨by omega, hp, by rw [flat_step hik, ← List.append_assoc]; exact ho, d_ho_hp, hT, hlow, hB, hk⟩ (by omega)
  refine c_exit (x_seqE (x_seqE (x_blkE ?_)))
  refine x_ret0n rfl ?_
  obtain rfl : i = t.kids.length := by omega
  refine ⟨rfl, _, _, hp, ?_, d_ho_hp, hT⟩
  rw [termB_eq, headE, List.take_of_length_le (Nat.le_refl _)] at *
  simpa only [List.append_assoc] using ho
/-- PutTerm: its bytes. -/
theorem putTerm_spec (t : Tm) (M : Nat → Prop) (w : World) (v : Value) (ht : Rep.R M w v t) (hlow0 : Low M w) (hz : AnnS t) (hl : (termB t).length ≤ 999999997000) :
    Calls Try.prog 41 #[v] w (Ret fun r w' => (∃ x, r = .tuple #[x, .int .u8 (bif rightT t false then 0 else 15)] ∧ Sl M w' x (bif rightT t false then termB t else [])) ∧ Ext w w') := by
  have hlow := hlow0
  have hB : w.heap.size ≤ w.heap.size := Nat.le_refl _
  have hE : Below w.heap.size w w := Below.refl _ _
  have hsub : ∀ b, M b → M b := fun _ h => h
  obtain ⟨akv, kv, rfl, op, nm, ag, n64, ha, hk⟩ := tm_open ht
  refine c_enter (n := 12) Try.func41 rfl rfl rfl ?_
  refine q0 ?_
  refine l_cons (o_box rfl rfl rfl ?_)
  intro b1 w1 hb_b1 ew1 h1
  replace h1 : Box _ b1 84 [.int .u8 t.op, .string t.name, .string t.arg, .int .i64 t.n, .bool t.has, .int .u8 t.ann.op, .string t.ann.name, .int .i64 t.ann.n, akv, kv] := h1
  replace h1 := h1.at (nM_of hlow hb_b1)
  replace hE := hE.trans (Below.mono ew1 hB)
  replace ht := Rep.ext ht ew1
  replace ha := Rep.ext ha ew1
  replace hk := hk.ext ew1
  replace hlow := hlow.ext ew1
  replace hB := Nat.le_trans hB ew1.size
  refine l_p 2 tbOk rfl (q1 (c_seq (q0 ?_)))
  refine l_cons (o_lds tbOk (fun j v hv => h1.cell j v hv) rfl rfl rfl rfl rfl rfl ?_)
  refine l_cons (o_call fo76 rfl rfl rfl (tRight_spec _ _ _ _ ht hlow hz) ?_)
  rintro _ w2 ⟨rfl, ew2⟩
  replace hE := hE.trans (Below.mono ew2 hB)
  replace ht := Rep.ext ht ew2
  replace ha := Rep.ext ha ew2
  replace hk := hk.ext ew2
  replace h1 := h1.ext ew2
  replace hlow := hlow.ext ew2
  replace hB := Nat.le_trans hB ew2.size
  refine l_p 1 tbOk rfl (q1 ?_)
  refine c_ifB _ rfl (fun c1 => ?_) (fun c1 => ?_)
  · refine q0 (l_p 2 tbOk rfl (q1 (c_ret (x_seqR (x_ret2 rfl rfl rfl ?_)))))
    have hr : rightT t false = false := by simp_all
    rw [hr]
    exact ⟨⟨_, rfl, sl_nil⟩, hE⟩
  refine c_skip (x_seq (q0 ?_))
  refine l_cons (o_new tbOk rfl rfl rfl ?_)
  intro bp w3 qbp ew3 hbp
  have sw3 := Stp.add ew3 hlow hB (Nat.le_of_eq qbp.symm) hbp.lt
  have hp : MB w.heap.size (Rw.Add M bp) w3 bp 125 [.slice none 0 0] := MB.mk' hbp qbp hB
  replace hE := hE.trans sw3.below
  replace ht := Rep.stp ht sw3
  replace ha := Rep.stp ha sw3
  replace hk := hk.stp sw3
  replace h1 := h1.stp sw3
  replace hsub := fun b h => sw3.sub b (hsub b h)
  replace hlow := sw3.low
  replace hB := Nat.le_trans hB sw3.upd.1
  have d_ho_hp : ∀ x, (.slice none 0 0 : Value).ownBlock = some x → x ≠ bp := fun x hx => by simp [Value.ownBlock] at hx
  refine q1 (q0 ?_)
  refine l_cons (o_lds tbOk (fun j v hv => h1.cell j v hv) rfl rfl rfl rfl rfl rfl ?_)
  refine l_cons (o_call fo82 rfl rfl rfl (penTerm_spec t [] _ _ w.heap.size bp _ hp own_nil d_ho_hp hlow hB _ ht (by simp; omega)) ?_)
  rintro _ w4 ⟨rfl, Mw4, vw4, hpw4, ho, new4, sw4⟩
  replace hE := hE.trans sw4.below
  replace ht := Rep.stp ht sw4
  replace ha := Rep.stp ha sw4
  replace hk := hk.stp sw4
  replace h1 := h1.stp sw4
  replace hsub := fun b h => sw4.sub b (hsub b h)
  replace hlow := sw4.low
  replace hB := Nat.le_trans hB sw4.upd.1
  replace hp := hpw4
  replace d_ho_hp := new4
  clear hpw4 new4
  refine q1 (q0 (l_p 1 tbOk rfl ?_))
  refine l_cons (o_ld tbOk (hp.cell 0 _ rfl) rfl rfl rfl rfl rfl ?_)
  refine l_p 2 tbOk rfl (q1 (c_ret (x_ret2 rfl rfl rfl ?_)))
  have hr : rightT t false = true := by simp_all
  rw [hr]
  exact ⟨⟨_, rfl, ho.sl (by simp; omega) hlow0 hsub⟩, hE⟩
/-- PutType: its bytes. -/
theorem putType_spec (t : Ty) (M : Nat → Prop) (w : World) (v : Value) (ht : Rep.R M w v t) (hlow0 : Low M w) (hl : (typeB t).length ≤ 999999997000) :
    Calls Try.prog 42 #[v] w (Ret fun r w' => (∃ x, r = .tuple #[x, .int .u8 (bif (rightB t || rowB t) then 0 else 15)] ∧ Sl M w' x (bif (rightB t || rowB t) then typeB t else [])) ∧ Ext w w') := by
  have hlow := hlow0
  have hB : w.heap.size ≤ w.heap.size := Nat.le_refl _
  have hE : Below w.heap.size w w := Below.refl _ _
  have hsub : ∀ b, M b → M b := fun _ h => h
  obtain ⟨kv, rfl, op, nm, n64, hk⟩ := ty_open ht
  refine c_enter (n := 17) Try.func42 rfl rfl rfl ?_
  refine q0 ?_
  refine l_cons (o_box rfl rfl rfl ?_)
  intro b1 w1 hb_b1 ew1 h1
  replace h1 : Box _ b1 40 [.int .u8 t.op, .string t.name, .int .i64 t.n, kv] := h1
  replace h1 := h1.at (nM_of hlow hb_b1)
  replace hE := hE.trans (Below.mono ew1 hB)
  replace ht := Rep.ext ht ew1
  replace hk := hk.ext ew1
  replace hlow := hlow.ext ew1
  replace hB := Nat.le_trans hB ew1.size
  refine l_p 2 tbOk rfl (q1 (c_seq (q0 ?_)))
  refine l_cons (o_lds tbOk (fun j v hv => h1.cell j v hv) rfl rfl rfl rfl rfl rfl ?_)
  refine l_cons (o_call fo78 rfl rfl rfl (kRight_specB _ _ _ _ ht hlow) ?_)
  rintro _ w2 ⟨rfl, ew2⟩
  replace hE := hE.trans (Below.mono ew2 hB)
  replace ht := Rep.ext ht ew2
  replace hk := hk.ext ew2
  replace h1 := h1.ext ew2
  replace hlow := hlow.ext ew2
  replace hB := Nat.le_trans hB ew2.size
  refine l_p 2 tbOk rfl ?_
  refine l_splitB 8 _ rfl (fun c1 => ?_) (fun c1 => ?_)
  · refine l_cons (o_lds tbOk (fun j v hv => h1.cell j v hv) rfl rfl rfl rfl rfl rfl ?_)
    refine l_cons (o_call fo55 rfl rfl rfl (kRow_specB _ _ _ _ ht hlow) ?_)
    rintro _ w3 ⟨rfl, ew3⟩
    replace hE := hE.trans (Below.mono ew3 hB)
    replace ht := Rep.ext ht ew3
    replace hk := hk.ext ew3
    replace h1 := h1.ext ew3
    replace hlow := hlow.ext ew3
    replace hB := Nat.le_trans hB ew3.size
    refine l_p 2 tbOk rfl (q1 ?_)
    refine c_ifB _ rfl (fun c2 => ?_) (fun c2 => ?_)
    · refine q0 (l_p 2 tbOk rfl (q1 (c_ret (x_seqR (x_ret2 rfl rfl rfl ?_)))))
      have hr : (rightB t || rowB t) = false := by simp_all
      rw [hr]
      exact ⟨⟨_, rfl, sl_nil⟩, hE⟩
    refine c_skip (x_seq (q0 ?_))
    refine l_cons (o_new tbOk rfl rfl rfl ?_)
    intro bp w4 qbp ew4 hbp
    have sw4 := Stp.add ew4 hlow hB (Nat.le_of_eq qbp.symm) hbp.lt
    have hp : MB w.heap.size (Rw.Add M bp) w4 bp 125 [.slice none 0 0] := MB.mk' hbp qbp hB
    replace hE := hE.trans sw4.below
    replace ht := Rep.stp ht sw4
    replace hk := hk.stp sw4
    replace h1 := h1.stp sw4
    replace hsub := fun b h => sw4.sub b (hsub b h)
    replace hlow := sw4.low
    replace hB := Nat.le_trans hB sw4.upd.1
    have d_ho_hp : ∀ x, (.slice none 0 0 : Value).ownBlock = some x → x ≠ bp := fun x hx => by simp [Value.ownBlock] at hx
    refine q1 (q0 ?_)
    refine l_cons (o_lds tbOk (fun j v hv => h1.cell j v hv) rfl rfl rfl rfl rfl rfl ?_)
    refine l_cons (o_call fo83 rfl rfl rfl (penKind_spec t [] _ _ w.heap.size bp _ hp own_nil d_ho_hp hlow hB _ ht (by simp; omega)) ?_)
    rintro _ w5 ⟨rfl, Mw5, vw5, hpw5, ho, new5, sw5⟩
    replace hE := hE.trans sw5.below
    replace ht := Rep.stp ht sw5
    replace hk := hk.stp sw5
    replace h1 := h1.stp sw5
    replace hsub := fun b h => sw5.sub b (hsub b h)
    replace hlow := sw5.low
    replace hB := Nat.le_trans hB sw5.upd.1
    replace hp := hpw5
    replace d_ho_hp := new5
    clear hpw5 new5
    refine q1 (q0 (l_p 1 tbOk rfl ?_))
    refine l_cons (o_ld tbOk (hp.cell 0 _ rfl) rfl rfl rfl rfl rfl ?_)
    refine l_p 2 tbOk rfl (q1 (c_ret (x_ret2 rfl rfl rfl ?_)))
    have hr : (rightB t || rowB t) = true := by simp_all
    rw [hr]
    exact ⟨⟨_, rfl, ho.sl (by simp; omega) hlow0 hsub⟩, hE⟩
  refine l_p 4 tbOk rfl (q1 (c_ifF rfl (c_skip (x_seq (q0 ?_)))))
  refine l_cons (o_new tbOk rfl rfl rfl ?_)
  intro bp w6 qbp ew6 hbp
  have sw6 := Stp.add ew6 hlow hB (Nat.le_of_eq qbp.symm) hbp.lt
  have hp : MB w.heap.size (Rw.Add M bp) w6 bp 125 [.slice none 0 0] := MB.mk' hbp qbp hB
  replace hE := hE.trans sw6.below
  replace ht := Rep.stp ht sw6
  replace hk := hk.stp sw6
  replace h1 := h1.stp sw6
  replace hsub := fun b h => sw6.sub b (hsub b h)
  replace hlow := sw6.low
  replace hB := Nat.le_trans hB sw6.upd.1
  have d_ho_hp : ∀ x, (.slice none 0 0 : Value).ownBlock = some x → x ≠ bp := fun x hx => by simp [Value.ownBlock] at hx
  refine q1 (q0 ?_)
  refine l_cons (o_lds tbOk (fun j v hv => h1.cell j v hv) rfl rfl rfl rfl rfl rfl ?_)
  refine l_cons (o_call fo83 rfl rfl rfl (penKind_spec t [] _ _ w.heap.size bp _ hp own_nil d_ho_hp hlow hB _ ht (by simp; omega)) ?_)
  rintro _ w7 ⟨rfl, Mw7, vw7, hpw7, ho, new7, sw7⟩
  replace hE := hE.trans sw7.below
  replace ht := Rep.stp ht sw7
  replace hk := hk.stp sw7
  replace h1 := h1.stp sw7
  replace hsub := fun b h => sw7.sub b (hsub b h)
  replace hlow := sw7.low
  replace hB := Nat.le_trans hB sw7.upd.1
  replace hp := hpw7
  replace d_ho_hp := new7
  clear hpw7 new7
  refine q1 (q0 (l_p 1 tbOk rfl ?_))
  refine l_cons (o_ld tbOk (hp.cell 0 _ rfl) rfl rfl rfl rfl rfl ?_)
  refine l_p 2 tbOk rfl (q1 (c_ret (x_ret2 rfl rfl rfl ?_)))
  have hr : (rightB t || rowB t) = true := by simp_all
  rw [hr]
  exact ⟨⟨_, rfl, ho.sl (by simp; omega) hlow0 hsub⟩, hE⟩
end Go.Proofs.Ytohfnpmehgpphaa
namespace Rw
open Go Go.RowKit
theorem sl_take {α : Type} [Rep α] {M : Nat → Prop} {w : World} {a : Option Addr} {c : Nat} {l : List α} (h : Sl M w (.slice a l.length c) l) {j : Nat} (hj : j ≤ l.length) : Sl M w (.slice a j c) (l.take j) := by
  obtain ⟨a', c', e, h1, h2, h3⟩ := h
  cases e
  have hl : (l.take j).length = j := by rw [List.length_take]; omega
  refine ⟨a, c, by rw [hl], by omega, by omega, ?_⟩
  rcases h3 with h3 | ⟨b, off, ha, hx⟩
  · left; rw [h3]; simp
  · refine .inr ⟨b, off, ha, fun i x hi => hx i x ?_⟩
    rw [List.getElem?_take] at hi
    split at hi
    · exact hi
    · cases hi
theorem sl_drop {α : Type} [Rep α] {M : Nat → Prop} {w : World} {a : Option Addr} {c : Nat} {l : List α} (h : Sl M w (.slice a l.length c) l) {j : Nat} (hj : j ≤ l.length) : Sl M w (sliced a j l.length c (Rep.sz α)) (l.drop j) := by
  obtain ⟨a', c', e, h1, h2, h3⟩ := h
  cases e
  have hl : (l.drop j).length = l.length - j := List.length_drop
  refine ⟨_, c - j, by rw [hl]; rfl, by omega, by omega, ?_⟩
  rcases h3 with h3 | ⟨b, off, ha, hx⟩
  · left; rw [h3]; simp
  · by_cases hc : c = j
    · left; exact List.eq_nil_of_length_eq_zero (by omega)
    · refine .inr ⟨b, off + j * Rep.sz α, by rw [if_neg hc, ha]; simp [addr_add], fun i x hi => ?_⟩
      rw [List.getElem?_drop] at hi
      obtain ⟨u, hu, hat⟩ := hx (j + i) x hi
      refine ⟨u, hu, ?_⟩
      rw [show off + j * Rep.sz α + i * Rep.sz α = off + (j + i) * Rep.sz α by rw [Nat.add_mul]; omega]
      exact hat
section
variable {P : Program} {T : Tab} {n : Nat} {ops : Array Oper} {Q : Exit → Act → World → Prop} {G : Env} {w : World} {K : Env → World → Prop}
  {d ty : Nat} {pos : String} {af : Array Edge} {g : Option (Nat × Bool)}
theorem o_slh {α : Type} [Rep α] {M : Nat → Prop} {v : Value} {l : List α} {t : TypeId} {x hi : Operand} {k : IntKind} {z : Int} {j : Nat} {ti te : TI} {e : Nat} (hT : TabOk P T) (hs : Sl M w v l) (hx : Env.ev G x = some v) (hhi : Env.ev G hi = some (.int k z)) (hz : z = (j : Int)) (hj : j ≤ l.length) (ht : T.get t = some ti) (htd : ti.d = .sl e) (hte : T.get e = some te)
    (hg : gd ops G ⟨some d, .slice t x none (some hi) none, ty, pos, af, g⟩ = some true) (hdn : Nat.blt d n = true) (h : ∀ v', Sl M w v' (l.take j) → K ((d, v') :: G) w) : OW P n ops Q G w ⟨some d, .slice t x none (some hi) none, ty, pos, af, g⟩ K := by
  obtain ⟨a, c, rfl, h1, h2, h3⟩ := id hs
  subst hz
  have hd := (hT t _ ht).d
  rw [htd] at hd
  simp only [TD.Ok] at hd
  have hel : P.elem t = e := by simp [Program.elem, hd]
  refine o_val (v := .slice a j c) hg rfl hdn (fun ac ha => ?_) (h _ (sl_take hs hj))
  have hd' : P.underlying t = some (.slice (P.elem t)) := by rw [hel]; exact hd
  have hsz : (Go.sizeOf (P.elem t)).run P w = .ok te.size w := by rw [hel]; exact run_sizeOf hT hte w
  simp [execOp, ha.ev hx, ha.ev hhi, run_sliceAt_slice w t _ _ _ _ hd', run_slice_h w t a l.length c hd' k (j : Int) (by omega) (by omega), hsz, sliced]
  intro _
  cases a with
  | none => rfl
  | some p => simp [Addr.add]
theorem o_slt {α : Type} [Rep α] {M : Nat → Prop} {v : Value} {l : List α} {t : TypeId} {x lo : Operand} {k : IntKind} {z : Int} {j : Nat} {ti te : TI} {e : Nat} (hT : TabOk P T) (hs : Sl M w v l) (hx : Env.ev G x = some v) (hlo : Env.ev G lo = some (.int k z)) (hz : z = (j : Int)) (hj : j ≤ l.length) (ht : T.get t = some ti) (htd : ti.d = .sl e) (hte : T.get e = some te) (hsz : te.size = Rep.sz α)
    (hg : gd ops G ⟨some d, .slice t x (some lo) none none, ty, pos, af, g⟩ = some true) (hdn : Nat.blt d n = true) (h : ∀ v', Sl M w v' (l.drop j) → K ((d, v') :: G) w) : OW P n ops Q G w ⟨some d, .slice t x (some lo) none none, ty, pos, af, g⟩ K := by
  obtain ⟨a, c, rfl, h1, h2, h3⟩ := id hs
  subst hz
  have hd := (hT t _ ht).d
  rw [htd] at hd
  simp only [TD.Ok] at hd
  have hel : P.elem t = e := by simp [Program.elem, hd]
  have hd' : P.underlying t = some (.slice (P.elem t)) := by rw [hel]; exact hd
  have hsize : (Go.sizeOf (P.elem t)).run P w = .ok te.size w := by rw [hel]; exact run_sizeOf hT hte w
  refine o_val (v := sliced a j l.length c te.size) hg rfl hdn (fun ac ha => ?_) (h _ (by rw [hsz]; exact sl_drop hs hj))
  simp [execOp, ha.ev hx, ha.ev hlo, run_sliceAt_slice w t _ _ _ _ hd', run_slice_l w t a l.length c hd' k (j : Int) (by omega) (by omega), hsize]
end
end Rw
namespace Go.Proofs.Ytohfnpmehgpphaa
open Go Rw Go.RowKit
set_option maxRecDepth 100000
/-- fail from now on. -/
theorem eyeFail_spec (M : Nat → Prop) (w : World) (B ye : Nat) (bv : Value) (l : List UInt8) (bad : Bool) (he : MB B M w ye 130 [bv, .bool bad]) (hb : Sl M w bv l) (hlow : Low M w) (hB : B ≤ w.heap.size) :
    Calls Try.prog 102 #[.pointer (some ⟨ye, 0, none⟩)] w (Ret fun r w' => r = .tuple #[] ∧ ∃ bv', MB B M w' ye 130 [bv', .bool (true)] ∧ Sl M w' bv' (([] : List UInt8)) ∧ UpdB ye w w') := by
  have hU := UpdB.refl ye w
  obtain ⟨ab, cb, rfl, _⟩ := id hb
  have hlt := hb.lt
  refine c_enter (n := 8) Try.func102 rfl rfl rfl ?_
  refine c_reg (l_p 4 tbOk rfl ?_)
  refine l_cons (o_st tbOk he.box rfl rfl rfl rfl (by intro u hu; simp [Value.cells] at hu; subst hu; rfl) rfl rfl ?_)
  intro w1 hw1 qw1 bew1
  have uw1 : UpdB _ _ _ := ⟨qw1, bew1⟩
  have sw1 := uw1.stp he.inM hlow he.ge
  have frw1 := qw1.2
  replace hU := hU.trans uw1
  replace hb := hb.stp sw1
  replace hlow := sw1.low
  replace hB := Nat.le_trans hB sw1.upd.1
  replace he : MB B _ w1 ye _ [.slice ab l.length cb, .bool true] := ⟨hw1, he.inM, he.ge⟩
  refine l_p 2 tbOk rfl ?_
  refine l_cons (o_st tbOk he.box rfl rfl rfl rfl (by intro u hu; simp [Value.cells] at hu; subst hu; rfl) rfl rfl ?_)
  intro w2 hw2 qw2 bew2
  have uw2 : UpdB _ _ _ := ⟨qw2, bew2⟩
  have sw2 := uw2.stp he.inM hlow he.ge
  have frw2 := qw2.2
  replace hU := hU.trans uw2
  replace hb := hb.stp sw2
  replace hlow := sw2.low
  replace hB := Nat.le_trans hB sw2.upd.1
  replace he : MB B _ w2 ye _ [.slice none 0 0, .bool true] := ⟨hw2, he.inM, he.ge⟩
  refine l_nil ?_
  refine x_ret0n rfl ?_
  exact ⟨rfl, _, he, sl_nil, hU⟩
/-- one byte. -/
theorem eyeOne_spec (M : Nat → Prop) (w : World) (B ye : Nat) (bv : Value) (l : List UInt8) (bad : Bool) (he : MB B M w ye 130 [bv, .bool bad]) (hb : Sl M w bv l) (hlow : Low M w) (hB : B ≤ w.heap.size) :
    Calls Try.prog 103 #[.pointer (some ⟨ye, 0, none⟩)] w (Ret fun r w' => r = .int .u8 (l.headD 0).toNat ∧ ∃ bv', MB B M w' ye 130 [bv', .bool (bad || l.isEmpty)] ∧ Sl M w' bv' (l.tail) ∧ UpdB ye w w') := by
  have hU := UpdB.refl ye w
  obtain ⟨ab, cb, rfl, _⟩ := id hb
  have hlt := hb.lt
  refine c_enter (n := 27) Try.func103 rfl rfl rfl ?_
  refine q0 (l_p 1 tbOk rfl (q1 (c_seq (q0 (l_p 3 tbOk rfl ?_)))))
  refine l_cons (o_ld tbOk (he.cell 0 _ rfl) rfl rfl rfl rfl rfl ?_)
  refine l_cons (o_len tbOk hb rfl rfl rfl rfl rfl ?_)
  refine l_p 1 tbOk rfl (q1 ?_)
  refine c_ifP _ rfl (fun hc => ?_) (fun hc => ?_)
  · obtain rfl : l = [] := List.eq_nil_of_length_eq_zero (by omega)
    refine q0 (l_p 1 tbOk rfl ?_)
    refine l_cons (o_call fo102 rfl rfl rfl (eyeFail_spec _ _ B ye _ _ _ he hb hlow hB) ?_)
    rintro _ w1 ⟨rfl, bvw1, hew1, hbw1, uw1⟩
    have sw1 := uw1.stp he.inM hlow he.ge
    have frw1 := uw1.upd.2
    replace hU := hU.trans uw1
    replace hlow := sw1.low
    replace hB := Nat.le_trans hB sw1.upd.1
    replace he := hew1
    replace hb := hbw1
    obtain ⟨abw1, cbw1, rfl, _⟩ := id hb
    refine q1 (q0 (l_p 1 tbOk rfl (q1 (c_ret (x_seqR (x_ret1 rfl rfl ?_))))))
    exact ⟨rfl, _, by rw [show (bad || ([] : List UInt8).isEmpty) = true by simp]; exact he, hb, hU⟩
  obtain ⟨c, r, rfl⟩ : ∃ c r, l = c :: r := by
    cases l with
    | nil => exact absurd rfl hc
    | cons c r => exact ⟨c, r, rfl⟩
  refine c_skip (x_seq (q0 (l_p 3 tbOk rfl ?_)))
  refine l_cons (o_ld tbOk (he.cell 0 _ rfl) rfl rfl rfl rfl rfl ?_)
  refine l_cons (o_ixS tbOk hb (show (c :: r)[0]? = some c from rfl) rfl rfl rfl rfl rfl rfl rfl rfl rfl ?_)
  intro eb eo eu hr hat
  replace hr : eu = .int .u8 c.toNat := hr
  subst hr
  refine l_cons (o_ld tbOk (hat.cell 0 _ rfl) rfl rfl rfl rfl rfl ?_)
  refine l_p 1 tbOk rfl (q1 (q0 (l_p 4 tbOk rfl ?_)))
  refine l_cons (o_ld tbOk (he.cell 0 _ rfl) rfl rfl rfl rfl rfl ?_)
  refine l_cons (o_slt tbOk hb rfl rfl rfl (j := 1) (by simp) rfl rfl rfl rfl rfl rfl ?_)
  intro bv2 hb2
  replace hb2 : Sl M w bv2 r := hb2
  obtain ⟨a2, c2, rfl, _⟩ := id hb2
  refine l_p 2 tbOk rfl ?_
  refine l_cons (o_st tbOk he.box rfl rfl rfl rfl (by intro u hu; simp [Value.cells] at hu; subst hu; rfl) rfl rfl ?_)
  intro w2 hw2 qw2 bew2
  have uw2 : UpdB _ _ _ := ⟨qw2, bew2⟩
  have sw2 := uw2.stp he.inM hlow he.ge
  have frw2 := qw2.2
  replace hU := hU.trans uw2
  replace hb := hb.stp sw2
  replace hb2 := hb2.stp sw2
  replace hlow := sw2.low
  replace hB := Nat.le_trans hB sw2.upd.1
  replace he : MB B _ w2 ye _ [.slice a2 r.length c2, .bool bad] := ⟨hw2, he.inM, he.ge⟩
  refine q1 (q0 (l_p 2 tbOk rfl (q1 (c_ret (x_ret1 rfl rfl ?_)))))
  exact ⟨rfl, _, by rw [show (bad || (c :: r).isEmpty) = bad by simp]; exact he, hb2, hU⟩
/-- num: a number. -/
theorem eyeNum_spec (M : Nat → Prop) (w : World) (B ye : Nat) (bv : Value) (l : List UInt8) (bad : Bool) (he : MB B M w ye 130 [bv, .bool bad]) (hb : Sl M w bv l) (hlow : Low M w) (hB : B ≤ w.heap.size) :
    Calls Try.prog 101 #[.pointer (some ⟨ye, 0, none⟩)] w (Ret fun r w' => r = .int .u64 ((numE l bad).1 : Nat) ∧ ∃ bv', MB B M w' ye 130 [bv', .bool ((numE l bad).2.2)] ∧ Sl M w' bv' ((numE l bad).2.1) ∧ UpdB ye w w') := by
  have hU := UpdB.refl ye w
  obtain ⟨ab, cb, rfl, _⟩ := id hb
  have hlt := hb.lt
  refine c_enter (n := 39) Try.func101 rfl rfl rfl ?_
  refine q0 (l_p 1 tbOk rfl (q1 (q0 (l_p 1 tbOk rfl (q1 (c_seq (q0 (l_p 1 tbOk rfl (q1 (c_blk ?_))))))))))
  refine c_loop5 (X := Nat) (Y := Nat) (Z := List UInt8) (U := Bool) (V := Value) (fun i n k bd bv => [(0, .pointer (some ⟨ye, 0, none⟩)), (3, .int .u64 (n : Nat)), (6, .int .i64 (i : Nat))]) (fun i n k bd bv w' => i ≤ 9 ∧ n < 2 ^ (7 * i) ∧ eyeN (9 - i) i n k bd = eyeN 9 0 0 l bad ∧ MB B M w' ye 130 [bv, .bool bd] ∧ Sl M w' bv k ∧ UpdB ye w w' ∧ Low M w' ∧ B ≤ w'.heap.size) (fun i n k bd bv => 9 - i) (0) (0) (l) (bad) (.slice ab l.length cb) (s3 rfl rfl rfl) ?_ ?_
  · exact ⟨Nat.zero_le _, by decide, rfl, he, hb, hU, hlow, hB⟩
  clear he hb hU hlow hB
  rintro i n k bd bv w1 ⟨hi, hn, hinv, he, hb, hU, hlow, hB⟩
  obtain ⟨ab2, cb2, rfl, _⟩ := id hb
  refine q0 (l_p 1 tbOk rfl (q1 (c_seq ?_)))
  refine c_ifP _ rfl (fun c1 => ?_) (fun c1 => ?_)
  · have hpw := pow_small (i := i + 1) (by omega)
    have hbd := eye_bound (c := k.headD 0) hn
    refine c_skip (x_seq (c_seq (c_blk (q0 (l_p 2 tbOk rfl (q1 (q0 (l_p 1 tbOk rfl ?_))))))))
    refine l_cons (o_call fo103 rfl rfl rfl (eyeOne_spec _ _ B ye _ _ _ he hb hlow hB) ?_)
    rintro _ w2 ⟨rfl, bvw2, hew2, hbw2, uw2⟩
    have sw2 := uw2.stp he.inM hlow he.ge
    have frw2 := uw2.upd.2
    replace hU := hU.trans uw2
    replace hlow := sw2.low
    replace hB := Nat.le_trans hB sw2.upd.1
    replace he := hew2
    replace hb := hbw2
    obtain ⟨abw2, cbw2, rfl, _⟩ := id hb
    refine l_p 1 tbOk rfl (q1 (c_seq (q0 (l_p 3 tbOk rfl ?_))))
    refine l_splitP 13 _ rfl (fun c2 => ?_) (fun c2 => ?_)
    · refine l_p 4 tbOk rfl ?_
      refine l_splitP 17 _ rfl (fun c3 => ?_) (fun c3 => ?_)
      · refine l_p 5 tbOk rfl (q1 (c_ifT rfl (q0 (l_p 1 tbOk rfl ?_))))
        have hyes : (k.headD 0 = 0 ∧ 0 < i) ∨ (bd || k.isEmpty) = true := by
          have hz : (k.headD 0).toNat = 0 → k.headD 0 = 0 := fun h => UInt8.toNat_inj.1 h
          first | (right; assumption) | exact .inl ⟨hz (by omega), by omega⟩
        refine l_cons (o_call fo102 rfl rfl rfl (eyeFail_spec _ _ B ye _ _ _ he hb hlow hB) ?_)
        rintro _ w3 ⟨rfl, bvw3, hew3, hbw3, uw3⟩
        have sw3 := uw3.stp he.inM hlow he.ge
        have frw3 := uw3.upd.2
        replace hU := hU.trans uw3
        replace hlow := sw3.low
        replace hB := Nat.le_trans hB sw3.upd.1
        replace he := hew3
        replace hb := hbw3
        obtain ⟨abw3, cbw3, rfl, _⟩ := id hb
        refine q1 (q0 (l_p 1 tbOk rfl (q1 (c_ret (x_seqR (x_blkR (x_seqR (x_seqR (x_blkR (x_seqR (x_ret1 rfl rfl ?_)))))))))))
        unfold numE
        rw [← hinv, show 9 - i = (9 - (i + 1)) + 1 by omega, eyeN_bad hyes]
        exact ⟨rfl, _, he, hb, hU⟩
      refine l_p 3 tbOk rfl ?_
      refine l_cons (o_ld tbOk (he.cell 1 _ rfl) rfl rfl rfl rfl rfl ?_)
      refine l_p 1 tbOk rfl (q1 ?_)
      refine c_if _ rfl (fun c4 => ?_) (fun c4 => ?_)
      · refine q0 (l_p 1 tbOk rfl ?_)
        have hyes : (k.headD 0 = 0 ∧ 0 < i) ∨ (bd || k.isEmpty) = true := by
          have hz : (k.headD 0).toNat = 0 → k.headD 0 = 0 := fun h => UInt8.toNat_inj.1 h
          first | (right; assumption) | exact .inl ⟨hz (by omega), by omega⟩
        refine l_cons (o_call fo102 rfl rfl rfl (eyeFail_spec _ _ B ye _ _ _ he hb hlow hB) ?_)
        rintro _ w4 ⟨rfl, bvw4, hew4, hbw4, uw4⟩
        have sw4 := uw4.stp he.inM hlow he.ge
        have frw4 := uw4.upd.2
        replace hU := hU.trans uw4
        replace hlow := sw4.low
        replace hB := Nat.le_trans hB sw4.upd.1
        replace he := hew4
        replace hb := hbw4
        obtain ⟨abw4, cbw4, rfl, _⟩ := id hb
        refine q1 (q0 (l_p 1 tbOk rfl (q1 (c_ret (x_seqR (x_blkR (x_seqR (x_seqR (x_blkR (x_seqR (x_ret1 rfl rfl ?_)))))))))))
        unfold numE
        rw [← hinv, show 9 - i = (9 - (i + 1)) + 1 by omega, eyeN_bad hyes]
        exact ⟨rfl, _, he, hb, hU⟩
      refine c_skip (x_seq (q0 (l_p 2 tbOk rfl ?_)))
      have hno : ¬ ((k.headD 0 = 0 ∧ 0 < i) ∨ (bd || k.isEmpty) = true) := by
        rintro (⟨h1, h2⟩ | h)
        · have h3 : (k.headD 0).toNat = 0 := by rw [h1]; rfl
          omega
        · simp_all
      refine l_cons (o_and (r := (((k.headD 0).toNat % 128 : Nat) : Int)) rfl rfl (and_127 _) rfl rfl ?_)
      refine l_cons (o_conv (y := (((k.headD 0).toNat % 128 : Nat) : Int)) tbOk rfl rfl rfl rfl rfl ((wrap_u64 _).trans (by rw [u64_nat (by omega)])) rfl rfl ?_)
      refine l_p 1 tbOk rfl ?_
      refine l_cons (o_ar rfl rfl rfl (z := ((7 * i : Nat) : Int)) (by rw [IntWalk.i64_in _ (by omega)]; omega) rfl rfl ?_)
      refine l_cons (o_shl (s := 7 * i) (r := (((k.headD 0).toNat % 128 * 2 ^ (7 * i) : Nat) : Int)) rfl rfl (show 7 * i ≤ 64 by omega) (by rw [show (((k.headD 0).toNat % 128 : Nat) : Int) * 2 ^ (7 * i) = (((k.headD 0).toNat % 128 * 2 ^ (7 * i) : Nat) : Int) by simp, wrap_u64, u64_nat (by omega)]) rfl rfl ?_)
      refine l_cons (o_or (r := ((n + (k.headD 0).toNat % 128 * 2 ^ (7 * i) : Nat) : Int)) rfl rfl (or_add hn (by omega)) rfl rfl ?_)
      refine l_p 1 tbOk rfl (q1 (q0 (l_p 2 tbOk rfl (q1 ?_))))
      refine c_ifP _ rfl (fun c5 => ?_) (fun c5 => ?_)
      · refine q0 (l_p 2 tbOk rfl (q1 (c_ret (x_blkR (x_seqR (x_seqR (x_blkR (x_seqR (x_ret1 rfl rfl ?_)))))))))
        unfold numE
        rw [← hinv, show 9 - i = (9 - (i + 1)) + 1 by omega, eyeN_last hno (by omega)]
        exact ⟨rfl, _, he, hb, hU⟩
      refine c_skip (x_blk (x_seq (c_reg ?_)))
      refine l_cons (o_ar rfl rfl rfl (IntWalk.i64_in _ (by omega)) rfl rfl ?_)
      refine l_p 1 tbOk rfl (l_nil ?_)
      exact x_round5 (i + 1) (n + (k.headD 0).toNat % 128 * 2 ^ (7 * i)) (k.tail) (bd || k.isEmpty) ((.slice abw2 _ cbw2)) (s3 rfl rfl (get_num rfl (by omega))) ⟨by omega, eye_bound hn, by rw [← hinv, show 9 - i = (9 - (i + 1)) + 1 by omega]; exact (eyeN_step hno (by omega)).symm, he, hb, hU, hlow, hB⟩ (by omega)
    refine l_p 7 tbOk rfl ?_
    refine l_cons (o_ld tbOk (he.cell 1 _ rfl) rfl rfl rfl rfl rfl ?_)
    refine l_p 1 tbOk rfl (q1 ?_)
    refine c_if _ rfl (fun c6 => ?_) (fun c6 => ?_)
    · refine q0 (l_p 1 tbOk rfl ?_)
      have hyes : (k.headD 0 = 0 ∧ 0 < i) ∨ (bd || k.isEmpty) = true := by
        have hz : (k.headD 0).toNat = 0 → k.headD 0 = 0 := fun h => UInt8.toNat_inj.1 h
        first | (right; assumption) | exact .inl ⟨hz (by omega), by omega⟩
      refine l_cons (o_call fo102 rfl rfl rfl (eyeFail_spec _ _ B ye _ _ _ he hb hlow hB) ?_)
      rintro _ w5 ⟨rfl, bvw5, hew5, hbw5, uw5⟩
      have sw5 := uw5.stp he.inM hlow he.ge
      have frw5 := uw5.upd.2
      replace hU := hU.trans uw5
      replace hlow := sw5.low
      replace hB := Nat.le_trans hB sw5.upd.1
      replace he := hew5
      replace hb := hbw5
      obtain ⟨abw5, cbw5, rfl, _⟩ := id hb
      refine q1 (q0 (l_p 1 tbOk rfl (q1 (c_ret (x_seqR (x_blkR (x_seqR (x_seqR (x_blkR (x_seqR (x_ret1 rfl rfl ?_)))))))))))
      unfold numE
      rw [← hinv, show 9 - i = (9 - (i + 1)) + 1 by omega, eyeN_bad hyes]
      exact ⟨rfl, _, he, hb, hU⟩
    refine c_skip (x_seq (q0 (l_p 2 tbOk rfl ?_)))
    have hno : ¬ ((k.headD 0 = 0 ∧ 0 < i) ∨ (bd || k.isEmpty) = true) := by
      rintro (⟨h1, h2⟩ | h)
      · have h3 : (k.headD 0).toNat = 0 := by rw [h1]; rfl
        omega
      · simp_all
    refine l_cons (o_and (r := (((k.headD 0).toNat % 128 : Nat) : Int)) rfl rfl (and_127 _) rfl rfl ?_)
    refine l_cons (o_conv (y := (((k.headD 0).toNat % 128 : Nat) : Int)) tbOk rfl rfl rfl rfl rfl ((wrap_u64 _).trans (by rw [u64_nat (by omega)])) rfl rfl ?_)
    refine l_p 1 tbOk rfl ?_
    refine l_cons (o_ar rfl rfl rfl (z := ((7 * i : Nat) : Int)) (by rw [IntWalk.i64_in _ (by omega)]; omega) rfl rfl ?_)
    refine l_cons (o_shl (s := 7 * i) (r := (((k.headD 0).toNat % 128 * 2 ^ (7 * i) : Nat) : Int)) rfl rfl (show 7 * i ≤ 64 by omega) (by rw [show (((k.headD 0).toNat % 128 : Nat) : Int) * 2 ^ (7 * i) = (((k.headD 0).toNat % 128 * 2 ^ (7 * i) : Nat) : Int) by simp, wrap_u64, u64_nat (by omega)]) rfl rfl ?_)
    refine l_cons (o_or (r := ((n + (k.headD 0).toNat % 128 * 2 ^ (7 * i) : Nat) : Int)) rfl rfl (or_add hn (by omega)) rfl rfl ?_)
    refine l_p 1 tbOk rfl (q1 (q0 (l_p 2 tbOk rfl (q1 ?_))))
    refine c_ifP _ rfl (fun c7 => ?_) (fun c7 => ?_)
    · refine q0 (l_p 2 tbOk rfl (q1 (c_ret (x_blkR (x_seqR (x_seqR (x_blkR (x_seqR (x_ret1 rfl rfl ?_)))))))))
      unfold numE
      rw [← hinv, show 9 - i = (9 - (i + 1)) + 1 by omega, eyeN_last hno (by omega)]
      exact ⟨rfl, _, he, hb, hU⟩
    refine c_skip (x_blk (x_seq (c_reg ?_)))
    refine l_cons (o_ar rfl rfl rfl (IntWalk.i64_in _ (by omega)) rfl rfl ?_)
    refine l_p 1 tbOk rfl (l_nil ?_)
    exact x_round5 (i + 1) (n + (k.headD 0).toNat % 128 * 2 ^ (7 * i)) (k.tail) (bd || k.isEmpty) ((.slice abw2 _ cbw2)) (s3 rfl rfl (get_num rfl (by omega))) ⟨by omega, eye_bound hn, by rw [← hinv, show 9 - i = (9 - (i + 1)) + 1 by omega]; exact (eyeN_step hno (by omega)).symm, he, hb, hU, hlow, hB⟩ (by omega)
  refine c_exit (x_seqE (x_seqE (x_blkE (x_seq (q0 (l_p 1 tbOk rfl ?_))))))
  refine l_cons (o_call fo102 rfl rfl rfl (eyeFail_spec _ _ B ye _ _ _ he hb hlow hB) ?_)
  rintro _ w6 ⟨rfl, bvw6, hew6, hbw6, uw6⟩
  have sw6 := uw6.stp he.inM hlow he.ge
  have frw6 := uw6.upd.2
  replace hU := hU.trans uw6
  replace hlow := sw6.low
  replace hB := Nat.le_trans hB sw6.upd.1
  replace he := hew6
  replace hb := hbw6
  obtain ⟨abw6, cbw6, rfl, _⟩ := id hb
  refine q1 (q0 (l_p 1 tbOk rfl (q1 (c_ret (x_ret1 rfl rfl ?_)))))
  unfold numE
  rw [← hinv, show 9 - i = 0 by omega, show eyeN 0 i n k bd = (0, [], true) from rfl]
  exact ⟨rfl, _, he, hb, hU⟩
/-- text. -/
theorem eyeText_spec (M : Nat → Prop) (w : World) (B ye : Nat) (bv : Value) (l : List UInt8) (bad : Bool) (he : MB B M w ye 130 [bv, .bool bad]) (hb : Sl M w bv l) (hlow : Low M w) (hB : B ≤ w.heap.size) :
    Calls Try.prog 73 #[.pointer (some ⟨ye, 0, none⟩)] w (Ret fun r w' => r = .string (textE l bad).1 ∧ ∃ bv', MB B M w' ye 130 [bv', .bool ((textE l bad).2.2)] ∧ Sl M w' bv' ((textE l bad).2.1) ∧ UpdB ye w w') := by
  have hU := UpdB.refl ye w
  obtain ⟨ab, cb, rfl, _⟩ := id hb
  have hlt := hb.lt
  refine c_enter (n := 34) Try.func73 rfl rfl rfl ?_
  refine q0 (l_p 1 tbOk rfl (q1 (q0 (l_p 1 tbOk rfl ?_))))
  refine l_cons (o_call fo101 rfl rfl rfl (eyeNum_spec _ _ B ye _ _ _ he hb hlow hB) ?_)
  rintro _ w1 ⟨rfl, bvw1, hew1, hbw1, uw1⟩
  have sw1 := uw1.stp he.inM hlow he.ge
  have frw1 := uw1.upd.2
  replace hU := hU.trans uw1
  replace hlow := sw1.low
  replace hB := Nat.le_trans hB sw1.upd.1
  replace he := hew1
  replace hb := hbw1
  obtain ⟨abw1, cbw1, rfl, _⟩ := id hb
  have hlt2 := hb.lt
  refine l_p 1 tbOk rfl (q1 (c_seq (q0 (l_p 4 tbOk rfl ?_))))
  refine l_cons (o_ld tbOk (he.cell 0 _ rfl) rfl rfl rfl rfl rfl ?_)
  refine l_cons (o_len tbOk hb rfl rfl rfl rfl rfl ?_)
  refine l_cons (o_conv (y := (((numE l bad).2.1.length : Nat) : Int)) tbOk rfl rfl rfl rfl rfl ((wrap_u64 _).trans (by rw [u64_nat (by omega)])) rfl rfl ?_)
  refine l_p 1 tbOk rfl (q1 ?_)
  refine c_ifP _ rfl (fun c1 => ?_) (fun c1 => ?_)
  · refine q0 (l_p 1 tbOk rfl ?_)
    refine l_cons (o_call fo102 rfl rfl rfl (eyeFail_spec _ _ B ye _ _ _ he hb hlow hB) ?_)
    rintro _ w2 ⟨rfl, bvw2, hew2, hbw2, uw2⟩
    have sw2 := uw2.stp he.inM hlow he.ge
    have frw2 := uw2.upd.2
    replace hU := hU.trans uw2
    replace hlow := sw2.low
    replace hB := Nat.le_trans hB sw2.upd.1
    replace he := hew2
    replace hb := hbw2
    obtain ⟨abw2, cbw2, rfl, _⟩ := id hb
    refine q1 (q0 (l_p 1 tbOk rfl (q1 (c_ret (x_seqR (x_ret1 rfl rfl ?_))))))
    unfold textE
    rw [if_pos (by omega)]
    exact ⟨rfl, _, he, hb, hU⟩
  refine c_skip (x_seq (q0 (l_p 3 tbOk rfl ?_)))
  refine l_cons (o_ld tbOk (he.cell 0 _ rfl) rfl rfl rfl rfl rfl ?_)
  refine l_p 1 tbOk rfl ?_
  refine l_cons (o_slh tbOk hb rfl rfl (j := (numE l bad).1) rfl (by omega) rfl rfl rfl rfl rfl ?_)
  intro bv2 hb2
  refine l_cons (o_b2s tbOk hb2 rfl rfl rfl rfl rfl rfl rfl rfl rfl ?_)
  refine l_p 1 tbOk rfl (q1 (q0 (l_p 4 tbOk rfl ?_)))
  refine l_cons (o_ld tbOk (he.cell 0 _ rfl) rfl rfl rfl rfl rfl ?_)
  refine l_p 1 tbOk rfl ?_
  refine l_cons (o_slt tbOk hb rfl rfl (j := (numE l bad).1) rfl (by omega) rfl rfl rfl rfl rfl rfl ?_)
  intro bv3 hb3
  obtain ⟨a3, c3, rfl, _⟩ := id hb3
  refine l_p 2 tbOk rfl ?_
  refine l_cons (o_st tbOk he.box rfl rfl rfl rfl (by intro u hu; simp [Value.cells] at hu; subst hu; rfl) rfl rfl ?_)
  intro w3 hw3 qw3 bew3
  have uw3 : UpdB _ _ _ := ⟨qw3, bew3⟩
  have sw3 := uw3.stp he.inM hlow he.ge
  have frw3 := qw3.2
  replace hU := hU.trans uw3
  replace hb := hb.stp sw3
  replace hb2 := hb2.stp sw3
  replace hb3 := hb3.stp sw3
  replace hlow := sw3.low
  replace hB := Nat.le_trans hB sw3.upd.1
  replace he : MB B _ w3 ye _ [.slice a3 ((numE l bad).2.1.drop (numE l bad).1).length c3, .bool (numE l bad).2.2] := ⟨hw3, he.inM, he.ge⟩
  refine q1 (q0 (l_p 2 tbOk rfl (q1 (c_ret (x_ret1 rfl rfl ?_)))))
  unfold textE
  rw [if_neg (by omega)]
  exact ⟨rfl, _, he, hb3, hU⟩
end Go.Proofs.Ytohfnpmehgpphaa
namespace Go.Proofs.Ytohfnpmehgpphaa
open Go Rw Go.RowKit
set_option maxRecDepth 100000
/-- Same: the same bytes? -/
theorem sameB_spec (l k : List UInt8) (M : Nat → Prop) (w : World) (v u : Value) (hs : Sl M w v l) (hk : Sl M w u k) :
    Calls Try.prog 29 #[v, u] w (Ret fun r w' => r = .bool (decide (l = k)) ∧ Ext w w') := by
  have hE : Below w.heap.size w w := Below.refl _ _
  have hB : w.heap.size ≤ w.heap.size := Nat.le_refl _
  have hlt := hs.lt
  have hkt := hk.lt
  refine c_enter (n := 26) Try.func29 rfl rfl rfl ?_
  refine q0 (l_p 1 tbOk rfl (q1 (c_seq (q0 (l_p 1 tbOk rfl ?_)))))
  refine l_cons (o_len tbOk hs rfl rfl rfl rfl rfl ?_)
  refine l_p 1 tbOk rfl ?_
  refine l_cons (o_len tbOk hk rfl rfl rfl rfl rfl ?_)
  refine l_p 1 tbOk rfl (q1 ?_)
  refine c_ifN _ rfl (fun c1 => ?_) (fun c1 => ?_)
  · refine q0 (l_p 1 tbOk rfl (q1 (c_ret (x_seqR (x_ret1 rfl rfl ?_)))))
    exact ⟨by rw [decide_eq_false (fun e : l = k => by subst e; omega)], hE⟩
  refine c_skip (x_seq (c_seq (q0 (l_p 1 tbOk rfl (q1 (c_blk ?_))))))
  have hll : l.length = k.length := by omega
  refine c_loop (X := Nat) (fun i => [(0, v), (1, u), (5, .int .i64 (i : Nat))]) (fun i w' => i ≤ l.length ∧ l.take i = k.take i ∧ Sl M w' v l ∧ Sl M w' u k ∧ Below w.heap.size w w' ∧ w.heap.size ≤ w'.heap.size) (fun i => l.length - i) (0) (s3 rfl rfl rfl) ?_ ?_
  · exact ⟨Nat.zero_le _, rfl, hs, hk, hE, hB⟩
  rintro i w1 ⟨hi, htk, hs, hk, hE, hB⟩
  refine c_seq (q0 (l_p 2 tbOk rfl ?_))
  refine l_cons (o_len tbOk hs rfl rfl rfl rfl rfl ?_)
  refine l_p 1 tbOk rfl (q1 ?_)
  refine c_ifP _ rfl (fun c2 => ?_) (fun c2 => ?_)
  · refine c_skip (x_seq (c_seq (c_blk (c_seq ?_))))
    refine a_beg Ext rfl ?_
    intro w2 ew2
    replace hE := hE.trans (Below.mono ew2 hB)
    replace hs := hs.ext ew2
    replace hk := hk.ext ew2
    replace hB := Nat.le_trans hB ew2.size
    have hS : Ext w2 w2 := ext_refl _
    have D_hs := hs
    have D_hk := hk
    refine a_p 0 tbOk rfl rfl rfl rfl (by kernel_rfl) (fun _ _ _ h => h) hS ?_
    refine a_p 1 tbOk rfl rfl rfl rfl (by kernel_rfl) (fun _ _ _ h => h) hS ?_
    have hil : i < l.length := by omega
    have hik : i < k.length := by omega
    refine a_ixS 2 tbOk D_hs (List.getElem?_eq_getElem hil) rfl rfl rfl rfl rfl rfl rfl rfl rfl rfl (by kernel_rfl) (fun _ _ _ _ h => h) hS ?_
    intro ebz3 eoz3 euz3 hrz3 hatz3
    replace hrz3 : euz3 = .int .u8 (l[i]).toNat := hrz3
    subst hrz3
    refine a_ld 3 tbOk (fun _ hs => (hatz3.ext hs).cell 0 _ rfl) rfl rfl rfl rfl rfl rfl (by kernel_rfl) (fun _ _ _ h => h) hS ?_
    refine a_p 4 tbOk rfl rfl rfl rfl (by kernel_rfl) (fun _ _ _ h => h) hS ?_
    refine a_p 5 tbOk rfl rfl rfl rfl (by kernel_rfl) (fun _ _ _ h => h) hS ?_
    refine a_ixS 6 tbOk D_hk (List.getElem?_eq_getElem hik) rfl rfl rfl rfl rfl rfl rfl rfl rfl rfl (by kernel_rfl) (fun _ _ _ _ h => h) hS ?_
    intro ebz4 eoz4 euz4 hrz4 hatz4
    replace hrz4 : euz4 = .int .u8 (k[i]).toNat := hrz4
    subst hrz4
    refine a_ld 7 tbOk (fun _ hs => (hatz4.ext hs).cell 0 _ rfl) rfl rfl rfl rfl rfl rfl (by kernel_rfl) (fun _ _ _ h => h) hS ?_
    refine a_p 8 tbOk rfl rfl rfl rfl (by kernel_rfl) (fun _ _ _ h => h) hS ?_
    refine a_end (by kernel_rfl) ?_
    refine x_seq ?_
    refine c_ifN _ rfl (fun c5 => ?_) (fun c5 => ?_)
    · refine q0 (l_p 1 tbOk rfl (q1 (c_ret (x_blkR (x_seqR (x_seqR (x_blkR (x_seqR (x_ret1 rfl rfl ?_)))))))))
      exact ⟨by rw [decide_eq_false (fun e : l = k => by subst e; omega)], hE⟩
    refine c_skip (x_blk (x_seq (c_reg (l_p 1 tbOk rfl ?_))))
    refine l_cons (o_ar rfl rfl rfl (IntWalk.i64_in _ (by omega)) rfl rfl ?_)
    refine l_p 1 tbOk rfl (l_nil ?_)
    exact x_round (i + 1) (s3 rfl rfl (get_num rfl (by omega))) ⟨by omega, by
      have h5 : l[i] = k[i] := UInt8.toNat_inj.1 (by omega)
      rw [List.take_succ_eq_append_getElem hil, List.take_succ_eq_append_getElem hik, htk, h5], hs, hk, hE, hB⟩ (by omega)
  refine c_exit (x_seqE (x_seqE (x_blkE (x_seq (q0 (l_p 1 tbOk rfl (q1 (c_ret (x_ret1 rfl rfl ?_)))))))))
  exact ⟨by rw [decide_eq_true (show l = k by rwa [List.take_of_length_le (by omega), List.take_of_length_le (by omega)] at htk)], hE⟩
end Go.Proofs.Ytohfnpmehgpphaa
namespace Rw
def kcnt (c : UInt8) : Nat := if c.toNat = 11 ∨ c.toNat = 4 then 2 else if c.toNat = 5 ∨ c.toNat = 6 then 1 else 0
/-- A type's number, name; what is left; whether something is wrong. -/
def kheadE (c : UInt8) (l : List UInt8) (bad : Bool) : Int × ByteArray × List UInt8 × Bool :=
  if c.toNat = 7 ∨ c.toNat = 10 then (((numE l bad).1 : Int), ⟨#[]⟩, (numE l bad).2) else if c.toNat = 11 then (0, textE l bad) else (0, ⟨#[]⟩, l, bad)
def kidsE {α : Type} (g : List UInt8 → Bool → α × List UInt8 × Bool) : Nat → List UInt8 → Bool → List α × List UInt8 × Bool
  | 0, l, bad => ([], l, bad)
  | k + 1, l, bad => if bad = true then ([], l, bad) else ((g l bad).1 :: (kidsE g k (g l bad).2.1 (g l bad).2.2).1, (kidsE g k (g l bad).2.1 (g l bad).2.2).2)
def kindE : Nat → List UInt8 → Bool → Ty × List UInt8 × Bool
  | 0, _, _ => (.mk 0 ⟨#[]⟩ 0 [], [], true)
  | f + 1, l, bad => (.mk (l.headD 0).toNat (kheadE (l.headD 0) l.tail (bad || l.isEmpty)).2.1 (kheadE (l.headD 0) l.tail (bad || l.isEmpty)).1
      (kidsE (kindE f) (kcnt (l.headD 0)) (kheadE (l.headD 0) l.tail (bad || l.isEmpty)).2.2.1 (kheadE (l.headD 0) l.tail (bad || l.isEmpty)).2.2.2).1,
      (kidsE (kindE f) (kcnt (l.headD 0)) (kheadE (l.headD 0) l.tail (bad || l.isEmpty)).2.2.1 (kheadE (l.headD 0) l.tail (bad || l.isEmpty)).2.2.2).2)
/-! ## What is wrong stays so; less is left -/
theorem textE_bad (l : List UInt8) : textE l true = (⟨#[]⟩, [], true) := by
  unfold textE; rw [numE_bad]; rfl
theorem kheadE_bad (c : UInt8) (l : List UInt8) : (kheadE c l true).2.2.2 = true := by
  unfold kheadE
  rw [numE_bad, textE_bad]
  split
  · rfl
  · split <;> rfl
theorem kidsE_bad {α : Type} (g : List UInt8 → Bool → α × List UInt8 × Bool) (k : Nat) (l : List UInt8) : kidsE g k l true = ([], l, true) := by
  cases k with
  | zero => rfl
  | succ k => rw [kidsE, if_pos rfl]
theorem kidsE_step {α : Type} {g : List UInt8 → Bool → α × List UInt8 × Bool} {k : Nat} {l : List UInt8} {bad : Bool} (h : bad = false) : kidsE g (k + 1) l bad = ((g l bad).1 :: (kidsE g k (g l bad).2.1 (g l bad).2.2).1, (kidsE g k (g l bad).2.1 (g l bad).2.2).2) := by
  rw [kidsE, if_neg (by rw [h]; simp)]
theorem numE_less (l : List UInt8) (bad : Bool) : (numE l bad).2.1.length ≤ l.length ∧ (numE l bad).1 < 9223372036854775808 := by
  cases bad with
  | true => rw [numE_bad]; exact ⟨Nat.zero_le _, by decide⟩
  | false =>
    rw [numE_tk]
    cases h : tkN l with
    | none => exact ⟨Nat.zero_le _, show (0 : Nat) < _ by decide⟩
    | some z =>
      obtain ⟨m, q⟩ := z
      have := tkN_le h
      exact ⟨by simp, this.2⟩
theorem textE_less (l : List UInt8) (bad : Bool) : (textE l bad).2.1.length ≤ l.length ∧ (textE l bad).1.size ≤ l.length := by
  have h := numE_less l bad
  unfold textE
  split
  · exact ⟨Nat.zero_le _, Nat.zero_le _⟩
  · refine ⟨by simp only [List.length_drop]; omega, ?_⟩
    show (((numE l bad).2.1.take (numE l bad).1).toArray).size ≤ _
    rw [List.size_toArray, List.length_take]
    omega
theorem kheadE_less (c : UInt8) (l : List UInt8) (bad : Bool) : (kheadE c l bad).2.2.1.length ≤ l.length ∧ (kheadE c l bad).2.1.size ≤ l.length ∧ (0 ≤ (kheadE c l bad).1 ∧ (kheadE c l bad).1 < 9223372036854775808) := by
  have h := numE_less l bad
  have h2 := textE_less l bad
  unfold kheadE
  split
  · exact ⟨h.1, Nat.zero_le _, by simp only; omega⟩
  · split
    · exact ⟨h2.1, h2.2, by simp only; omega⟩
    · exact ⟨Nat.le_refl _, Nat.zero_le _, by simp only; omega⟩
theorem kidsE_less {α : Type} {g : List UInt8 → Bool → α × List UInt8 × Bool} (hg : ∀ l bad, (g l bad).2.1.length ≤ l.length) : ∀ (k : Nat) (l : List UInt8) (bad : Bool), (kidsE g k l bad).2.1.length ≤ l.length
  | 0, _, _ => Nat.le_refl _
  | k + 1, l, bad => by
    cases bad with
    | true => rw [kidsE_bad]; exact Nat.le_refl _
    | false => rw [kidsE_step rfl]; exact Nat.le_trans (kidsE_less hg k _ _) (hg l false)
theorem kindE_less : ∀ (f : Nat) (l : List UInt8) (bad : Bool), (kindE f l bad).2.1.length ≤ l.length
  | 0, _, _ => Nat.zero_le _
  | f + 1, l, bad => by
    have h1 := kheadE_less (l.headD 0) l.tail (bad || l.isEmpty)
    have h2 := kidsE_less (kindE_less f) (kcnt (l.headD 0)) (kheadE (l.headD 0) l.tail (bad || l.isEmpty)).2.2.1 (kheadE (l.headD 0) l.tail (bad || l.isEmpty)).2.2.2
    rw [kindE]
    have h3 : l.tail.length ≤ l.length := by simp
    simp only
    omega
/-! ## What is got is put the same -/
theorem byte_of {c : UInt8} {m : Nat} (h : m = c.toNat) : UInt8.ofNat m = c := by
  subst h; simp
theorem numV_pos : ∀ {l : List UInt8}, lead l < l.length → ((l[lead l]?).getD 1 = 0 → False) → 0 < numV (l.take (lead l + 1))
  | [], h, _ => by simp at h
  | c :: r, h, hz => by
    by_cases hc : c.toNat < 128
    · have hl : lead (c :: r) = 0 := by unfold lead; rw [if_pos hc]
      rw [hl] at hz ⊢
      have h0 : c.toNat ≠ 0 := fun e => hz (by simp; exact UInt8.toNat_inj.1 e)
      simp [numV]; omega
    · have hl : lead (c :: r) = lead r + 1 := by rw [lead, if_neg hc]
      rw [hl] at hz h ⊢
      have := numV_pos (l := r) (by simpa using h) (by simpa using hz)
      rw [List.take_succ_cons, numV]; omega
theorem numG_back : ∀ (f : Nat) (l : List UInt8), lead l < l.length → lead l ≤ f → ((l[lead l]?).getD 1 = 0 → lead l = 0) → numG f (numV (l.take (lead l + 1))) = l.take (lead l + 1)
  | f, [], h, _, _ => by simp at h
  | f, c :: r, h, hf, hz => by
    by_cases hc : c.toNat < 128
    · have hl : lead (c :: r) = 0 := by unfold lead; rw [if_pos hc]
      rw [hl]
      have e : numV ((c :: r).take (0 + 1)) = c.toNat := by simp [numV]; omega
      rw [e]
      cases f with
      | zero => simp [numG]
      | succ f => rw [numG, if_pos hc]; simp
    · have hl : lead (c :: r) = lead r + 1 := by rw [lead, if_neg hc]
      rw [hl] at hz h hf ⊢
      have h' : lead r < r.length := by simpa using h
      have hz' : (r[lead r]?).getD 1 = 0 → False := fun e => by have := hz (by simpa using e); omega
      have hp := numV_pos h' hz'
      obtain ⟨f, rfl⟩ : ∃ g, f = g + 1 := ⟨f - 1, by omega⟩
      rw [List.take_succ_cons, numV, numG, if_neg (by omega)]
      have hc2 : c.toNat < 256 := c.toNat_lt
      rw [byte_of (c := c) (by omega), show (c.toNat % 128 + 128 * numV (r.take (lead r + 1))) / 128 = numV (r.take (lead r + 1)) by omega, numG_back f r h' (by omega) (fun e => (hz' e).elim)]
theorem numE_back {l : List UInt8} (h : (numE l false).2.2 = false) : numY (numE l false).1 ++ (numE l false).2.1 = l := by
  rw [numE_tk] at h ⊢
  unfold tkN at h ⊢
  split at h
  · rename_i e; split at e
    · simp at h
    · cases e
  · rename_i m k e
    split at e
    · cases e
    · rename_i hn
      cases e
      simp only
      rw [numY, numG_back 9 l (by have : ¬ l.length ≤ lead l := fun e => hn (.inl e); omega) (by have : ¬ 8 < lead l := fun e => hn (.inr (.inl e)); omega) (fun e => Classical.byContradiction fun h0 => hn (.inr (.inr ⟨e, by omega⟩)))]
      exact List.take_append_drop _ _
theorem numE_ok {l : List UInt8} {bad : Bool} (h : (numE l bad).2.2 = false) : bad = false := by
  cases bad with
  | false => rfl
  | true => rw [numE_bad] at h; cases h
theorem textE_ok {l : List UInt8} {bad : Bool} (h : (textE l bad).2.2 = false) : bad = false := by
  cases bad with
  | false => rfl
  | true => rw [textE_bad] at h; cases h
theorem textE_back {l : List UInt8} (h : (textE l false).2.2 = false) : textB (textE l false).1 ++ (textE l false).2.1 = l := by
  unfold textE at h ⊢
  split at h
  · cases h
  · rename_i hn
    rw [if_neg hn]
    have hb := numE_back h
    have hs : (ByteArray.mk ((numE l false).2.1.take (numE l false).1).toArray).size = (numE l false).1 := by
      show (((numE l false).2.1.take (numE l false).1).toArray).size = _
      rw [List.size_toArray, List.length_take]; omega
    unfold textB
    simp only
    rw [hs, List.append_assoc, List.take_append_drop, hb]
theorem kheadE_ok {c : UInt8} {l : List UInt8} {bad : Bool} (h : (kheadE c l bad).2.2.2 = false) : bad = false := by
  cases bad with
  | false => rfl
  | true => rw [kheadE_bad] at h; cases h
theorem kheadE_back {c : UInt8} {l : List UInt8} (h : (kheadE c l false).2.2.2 = false) : headY c.toNat (kheadE c l false).2.1 (kheadE c l false).1 ++ (kheadE c l false).2.2.1 = c :: l := by
  have hc : UInt8.ofNat ((c.toNat : Int)).toNat = c := byte_of (by omega)
  unfold kheadE at h ⊢
  unfold headY
  rw [hc]
  split at h
  · rename_i h1
    have hn := (numE_less l false).2
    rw [if_pos h1, if_pos (by omega)]
    simp only at h ⊢
    rw [u64_nat (by omega), List.cons_append, numE_back h]
  · rename_i h1
    rw [if_neg h1, if_neg (by omega)]
    split at h
    · rename_i h2
      rw [if_pos h2, if_pos (by omega)]
      rw [List.cons_append, textE_back h]
    · rename_i h2
      rw [if_neg h2, if_neg (by omega)]
      rfl
theorem kidsE_ok {α : Type} {g : List UInt8 → Bool → α × List UInt8 × Bool} {k : Nat} {l : List UInt8} {bad : Bool} (h : (kidsE g k l bad).2.2 = false) : bad = false := by
  cases bad with
  | false => rfl
  | true => rw [kidsE_bad] at h; cases h
theorem kidsE_back {α : Type} {g : List UInt8 → Bool → α × List UInt8 × Bool} {p : α → List UInt8} (hg : ∀ l, (g l false).2.2 = false → p (g l false).1 ++ (g l false).2.1 = l) : ∀ (k : Nat) (l : List UInt8), (kidsE g k l false).2.2 = false → (kidsE g k l false).1.flatMap p ++ (kidsE g k l false).2.1 = l
  | 0, l, _ => rfl
  | k + 1, l, h => by
    rw [kidsE_step rfl] at h ⊢
    simp only at h ⊢
    have h1 := kidsE_ok h
    rw [h1] at h ⊢
    rw [List.flatMap_cons, List.append_assoc, kidsE_back hg k _ h, hg l h1]
theorem isEmpty_cons {l : List UInt8} (h : (false || l.isEmpty) = false) : l.headD 0 :: l.tail = l := by
  cases l with
  | nil => cases h
  | cons c r => rfl
theorem kindE_back : ∀ (f : Nat) (l : List UInt8), (kindE f l false).2.2 = false → typeB (kindE f l false).1 ++ (kindE f l false).2.1 = l
  | 0, _, h => by cases h
  | f + 1, l, h => by
    rw [kindE] at h ⊢
    simp only at h ⊢
    have h1 := kidsE_ok h
    have h2 := kheadE_ok h1
    rw [h1] at h ⊢
    rw [h2] at h h1 ⊢
    rw [typeB_eq, List.append_assoc]
    show headY _ _ _ ++ (List.flatMap typeB (kidsE _ _ _ _).1 ++ _) = l
    rw [kidsE_back (kindE_back f) _ _ h]
    show headY ((l.headD 0).toNat : Int) (kheadE (l.headD 0) l.tail false).2.1 (kheadE (l.headD 0) l.tail false).1 ++ _ = l
    rw [kheadE_back h1, isEmpty_cons h2]
/-- As many parts as there were bytes, at most. -/
theorem kidsE_psz {g : List UInt8 → Bool → Ty × List UInt8 × Bool} (hg : ∀ l, psz (g l false).1 + (g l false).2.1.length ≤ l.length + 1 ∧ ((g l false).2.2 = false → psz (g l false).1 + (g l false).2.1.length ≤ l.length)) :
    ∀ (k : Nat) (l : List UInt8) (bad : Bool), pszs (kidsE g k l bad).1 + (kidsE g k l bad).2.1.length ≤ l.length + 1 ∧ ((kidsE g k l bad).2.2 = false → pszs (kidsE g k l bad).1 + (kidsE g k l bad).2.1.length ≤ l.length) ∧ (bad = true → pszs (kidsE g k l bad).1 + (kidsE g k l bad).2.1.length ≤ l.length)
  | 0, l, bad => by
    have e : pszs (kidsE g 0 l bad).1 = 0 := rfl
    have e2 : (kidsE g 0 l bad).2.1 = l := rfl
    rw [e, e2]; omega
  | k + 1, l, true => by
    rw [kidsE_bad]
    have e : pszs ([] : List Ty) = 0 := rfl
    simp only [e]; omega
  | k + 1, l, false => by
    have h1 := hg l
    have h2 := kidsE_psz hg k (g l false).2.1 (g l false).2.2
    rw [kidsE_step rfl]
    simp only [pszs_cons]
    refine ⟨?_, fun h => ?_, fun h => by cases h⟩
    · cases hb : (g l false).2.2 with
      | true => have := h2.2.2 hb; rw [hb] at this; omega
      | false => have := h1.2 hb; rw [hb] at h2; omega
    · have hb := kidsE_ok h
      have := h1.2 hb
      have := h2.2.1 h
      omega
theorem kindE_psz : ∀ (f : Nat) (l : List UInt8) (bad : Bool), psz (kindE f l bad).1 + (kindE f l bad).2.1.length ≤ l.length + 1 ∧ ((kindE f l bad).2.2 = false → psz (kindE f l bad).1 + (kindE f l bad).2.1.length ≤ l.length)
  | 0, l, bad => by
    have e : psz (kindE 0 l bad).1 = 1 := by rw [psz_eq]; rfl
    rw [e]
    exact ⟨by simp [kindE], fun h => by cases h⟩
  | f + 1, l, bad => by
    have h1 := kheadE_less (l.headD 0) l.tail (bad || l.isEmpty)
    have h2 := kidsE_psz (g := kindE f) (fun l => kindE_psz f l false) (kcnt (l.headD 0)) (kheadE (l.headD 0) l.tail (bad || l.isEmpty)).2.2.1 (kheadE (l.headD 0) l.tail (bad || l.isEmpty)).2.2.2
    have e : psz (kindE (f + 1) l bad).1 = pszs (kindE (f + 1) l bad).1.kids + 1 := psz_eq _
    rw [e, kindE]
    simp only [Ty.kids]
    cases l with
    | nil =>
      have hb : (kheadE (([] : List UInt8).headD 0) ([] : List UInt8).tail (bad || ([] : List UInt8).isEmpty)).2.2.2 = true := by
        rw [show (bad || ([] : List UInt8).isEmpty) = true by simp]; exact kheadE_bad _ _
      have h3 := h2.2.2 hb
      have h4 : ([] : List UInt8).tail.length = 0 := rfl
      have h5 : ([] : List UInt8).length = 0 := rfl
      refine ⟨by omega, fun h => ?_⟩
      have := kidsE_ok h
      rw [this] at hb; cases hb
    | cons c r =>
      have h4 : (c :: r).tail.length = r.length := rfl
      have h5 : (c :: r).length = r.length + 1 := rfl
      refine ⟨by omega, fun h => ?_⟩
      have := h2.2.1 h
      omega
/-! ## Expressions -/
def eT (k : Bool) (l : List UInt8) (bad : Bool) : ByteArray × List UInt8 × Bool := bif k then textE l bad else (⟨#[]⟩, l, bad)
def eN (k : Bool) (l : List UInt8) (bad : Bool) : Nat × List UInt8 × Bool := bif k then numE l bad else (0, l, bad)
def eH (a : Int) (l : List UInt8) (bad : Bool) : Bool × List UInt8 × Bool :=
  bif decide (a = 1) then (decide (l.headD 0 = 1), (bif decide (1 < (l.headD 0).toNat) then [] else l.tail), (bad || l.isEmpty || decide (1 < (l.headD 0).toNat))) else (decide (a = 2), l, bad)
def eA (k : Bool) (l : List UInt8) (bad : Bool) : Ty × List UInt8 × Bool := bif k then kindE (l.length + 1) l bad else (.mk 0 ⟨#[]⟩ 0 [], l, bad)
def eC (c : Int) (l : List UInt8) (bad : Bool) : Nat × List UInt8 × Bool := bif decide (c < 0) then (bif decide ((numE l bad).2.1.length < (numE l bad).1) then (0, [], true) else numE l bad) else (c.toNat, l, bad)
def e0 (l : List UInt8) (bad : Bool) : Int × List UInt8 × Bool := ((l.headD 0).toNat, l.tail, (bad || l.isEmpty))
def e1 (l : List UInt8) (bad : Bool) := eT (prt (e0 l bad).1).1 (e0 l bad).2.1 (e0 l bad).2.2
def e2 (l : List UInt8) (bad : Bool) := eT (prt (e0 l bad).1).2.1 (e1 l bad).2.1 (e1 l bad).2.2
def e3 (l : List UInt8) (bad : Bool) := eN (prt (e0 l bad).1).2.2.1 (e2 l bad).2.1 (e2 l bad).2.2
def e4 (l : List UInt8) (bad : Bool) := eH (prt (e0 l bad).1).2.2.2 (e3 l bad).2.1 (e3 l bad).2.2
def e5 (l : List UInt8) (bad : Bool) := eA (e4 l bad).1 (e4 l bad).2.1 (e4 l bad).2.2
def e6 (l : List UInt8) (bad : Bool) := eC (cnt (e0 l bad).1) (e5 l bad).2.1 (e5 l bad).2.2
/-- An expression off bytes; what is left; whether something is wrong. -/
def termE : Nat → List UInt8 → Bool → Tm × List UInt8 × Bool
  | 0, _, _ => (.mk 0 ⟨#[]⟩ ⟨#[]⟩ 0 false (.mk 0 ⟨#[]⟩ 0 []) [], [], true)
  | f + 1, l, bad => (.mk (e0 l bad).1 (e1 l bad).1 (e2 l bad).1 (e3 l bad).1 (e4 l bad).1 (e5 l bad).1 (kidsE (termE f) (e6 l bad).1 (e6 l bad).2.1 (e6 l bad).2.2).1, (kidsE (termE f) (e6 l bad).1 (e6 l bad).2.1 (e6 l bad).2.2).2)
theorem eT_less (k : Bool) (l : List UInt8) (bad : Bool) : (eT k l bad).2.1.length ≤ l.length ∧ (eT k l bad).1.size ≤ l.length := by
  cases k with
  | true => exact textE_less l bad
  | false => exact ⟨Nat.le_refl _, Nat.zero_le _⟩
theorem eN_less (k : Bool) (l : List UInt8) (bad : Bool) : (eN k l bad).2.1.length ≤ l.length ∧ (eN k l bad).1 < 9223372036854775808 := by
  cases k with
  | true => exact numE_less l bad
  | false => exact ⟨Nat.le_refl _, show (0 : Nat) < _ by decide⟩
theorem eH_less (a : Int) (l : List UInt8) (bad : Bool) : (eH a l bad).2.1.length ≤ l.length := by
  unfold eH
  cases decide (a = 1) with
  | true =>
    simp only [cond_true]
    cases decide (1 < (l.headD 0).toNat) <;> simp
  | false => exact Nat.le_refl _
theorem eA_less (k : Bool) (l : List UInt8) (bad : Bool) : (eA k l bad).2.1.length ≤ l.length ∧ psz (eA k l bad).1 ≤ l.length + 1 := by
  cases k with
  | true => exact ⟨kindE_less _ l bad, by have := (kindE_psz (l.length + 1) l bad).1; show psz (kindE (l.length + 1) l bad).1 ≤ _; omega⟩
  | false => exact ⟨Nat.le_refl _, by show psz (Ty.mk 0 ⟨#[]⟩ 0 []) ≤ _; rw [psz_eq]; show (0 : Nat) + 1 ≤ _; omega⟩
theorem cnt_le (op : Int) : cnt op ≤ 3 := by unfold cnt; repeat' split <;> omega
theorem eC_less {c : Int} (hc : c ≤ 3) (l : List UInt8) (bad : Bool) : (eC c l bad).2.1.length ≤ l.length ∧ (eC c l bad).1 ≤ l.length + 3 := by
  unfold eC
  cases decide (c < 0) with
  | true =>
    simp only [cond_true]
    have := numE_less l bad
    cases h : decide ((numE l bad).2.1.length < (numE l bad).1) with
    | true => exact ⟨Nat.zero_le _, Nat.zero_le _⟩
    | false => have := of_decide_eq_false h; simp only [cond_false]; omega
  | false => simp only [cond_false]; omega
/-- Sizes of all that is got of a node. -/
theorem e_less (l : List UInt8) (bad : Bool) : (e1 l bad).1.size ≤ l.length ∧ (e2 l bad).1.size ≤ l.length ∧ (e3 l bad).1 < 9223372036854775808 ∧ psz (e5 l bad).1 ≤ l.length + 1 ∧ (e6 l bad).1 ≤ l.length + 3 ∧ (e6 l bad).2.1.length ≤ l.tail.length ∧
    (e1 l bad).2.1.length ≤ l.tail.length ∧ (e2 l bad).2.1.length ≤ l.tail.length ∧ (e3 l bad).2.1.length ≤ l.tail.length ∧ (e4 l bad).2.1.length ≤ l.tail.length ∧ (e5 l bad).2.1.length ≤ l.tail.length := by
  have h0 : (e0 l bad).2.1.length = l.tail.length := rfl
  have h00 : l.tail.length ≤ l.length := by simp
  have h1 := eT_less (prt (e0 l bad).1).1 (e0 l bad).2.1 (e0 l bad).2.2
  have h2 := eT_less (prt (e0 l bad).1).2.1 (e1 l bad).2.1 (e1 l bad).2.2
  have h3 := eN_less (prt (e0 l bad).1).2.2.1 (e2 l bad).2.1 (e2 l bad).2.2
  have h4 := eH_less (prt (e0 l bad).1).2.2.2 (e3 l bad).2.1 (e3 l bad).2.2
  have h5 := eA_less (e4 l bad).1 (e4 l bad).2.1 (e4 l bad).2.2
  have h6 := eC_less (cnt_le (e0 l bad).1) (e5 l bad).2.1 (e5 l bad).2.2
  change (e1 l bad).2.1.length ≤ _ ∧ (e1 l bad).1.size ≤ _ at h1
  change (e2 l bad).2.1.length ≤ _ ∧ (e2 l bad).1.size ≤ _ at h2
  change (e3 l bad).2.1.length ≤ _ ∧ (e3 l bad).1 < _ at h3
  change (e4 l bad).2.1.length ≤ _ at h4
  change (e5 l bad).2.1.length ≤ _ ∧ psz (e5 l bad).1 ≤ _ at h5
  change (e6 l bad).2.1.length ≤ _ ∧ (e6 l bad).1 ≤ _ at h6
  omega
theorem termE_less : ∀ (f : Nat) (l : List UInt8) (bad : Bool), (termE f l bad).2.1.length ≤ l.length
  | 0, _, _ => Nat.zero_le _
  | f + 1, l, bad => by
    have h1 := e_less l bad
    have h2 := kidsE_less (termE_less f) (e6 l bad).1 (e6 l bad).2.1 (e6 l bad).2.2
    have h3 : l.tail.length ≤ l.length := by simp
    rw [termE]
    simp only
    omega
theorem kidsE_mem {α : Type} {g : List UInt8 → Bool → α × List UInt8 × Bool} (hl : ∀ l bad, (g l bad).2.1.length ≤ l.length) : ∀ (k : Nat) (l : List UInt8) (bad : Bool), ∀ x ∈ (kidsE g k l bad).1, ∃ r, r.length ≤ l.length ∧ x = (g r false).1
  | 0, _, _, x, h => by cases h
  | k + 1, l, true, x, h => by rw [kidsE_bad] at h; cases h
  | k + 1, l, false, x, h => by
    rw [kidsE_step rfl] at h
    rcases List.mem_cons.1 h with h | h
    · exact ⟨l, Nat.le_refl _, h⟩
    · obtain ⟨r, h1, h2⟩ := kidsE_mem hl k _ _ x h
      exact ⟨r, Nat.le_trans h1 (hl l false), h2⟩
theorem kidsE_full {α : Type} {g : List UInt8 → Bool → α × List UInt8 × Bool} : ∀ {k : Nat} {l : List UInt8} {bad : Bool}, (kidsE g k l bad).2.2 = false → (kidsE g k l bad).1.length = k
  | 0, _, _, _ => rfl
  | k + 1, l, true, h => by rw [kidsE_bad] at h; cases h
  | k + 1, l, false, h => by rw [kidsE_step rfl] at h ⊢; have := kidsE_full h; simp only [List.length_cons]; omega
/-- Annotations that are got are small. -/
theorem termE_ann : ∀ (f : Nat) (l : List UInt8) (bad : Bool), ∀ x ∈ nodesL (termE f l bad).1, psz x.ann ≤ l.length + 1
  | 0, l, bad, x, h => by
    rw [termE, nodesL_eq] at h
    simp [Tm.kids] at h
    subst h
    show psz (Ty.mk 0 ⟨#[]⟩ 0 []) ≤ _
    rw [psz_eq]; show (0 : Nat) + 1 ≤ _; omega
  | f + 1, l, bad, x, h => by
    have h1 := e_less l bad
    have h3 : l.tail.length ≤ l.length := by simp
    rw [termE, nodesL_eq] at h
    rcases List.mem_cons.1 h with h | h
    · subst h; exact h1.2.2.2.1
    · obtain ⟨k, hk, hx⟩ := List.mem_flatMap.1 h
      obtain ⟨r, h4, rfl⟩ := kidsE_mem (termE_less f) _ _ _ k hk
      have := termE_ann f r false x hx
      omega
theorem eT_ok {k : Bool} {l : List UInt8} {bad : Bool} (h : (eT k l bad).2.2 = false) : bad = false := by
  cases k with
  | true => exact textE_ok h
  | false => exact h
theorem eN_ok {k : Bool} {l : List UInt8} {bad : Bool} (h : (eN k l bad).2.2 = false) : bad = false := by
  cases k with
  | true => exact numE_ok h
  | false => exact h
theorem kindE_ok {f : Nat} {l : List UInt8} {bad : Bool} (h : (kindE f l bad).2.2 = false) : bad = false := by
  cases f with
  | zero => cases h
  | succ f =>
    have := kheadE_ok (kidsE_ok (show (kidsE (kindE f) _ _ _).2.2 = false from h))
    cases bad with
    | false => rfl
    | true => simp at this
theorem eA_ok {k : Bool} {l : List UInt8} {bad : Bool} (h : (eA k l bad).2.2 = false) : bad = false := by
  cases k with
  | true => exact kindE_ok h
  | false => exact h
theorem eH_ok {a : Int} {l : List UInt8} {bad : Bool} (h : (eH a l bad).2.2 = false) : bad = false := by
  unfold eH at h
  cases e : decide (a = 1) with
  | true => rw [e] at h; simp only [cond_true, Bool.or_eq_false_iff] at h; exact h.1.1
  | false => rw [e] at h; exact h
theorem eC_ok {c : Int} {l : List UInt8} {bad : Bool} (h : (eC c l bad).2.2 = false) : bad = false := by
  unfold eC at h
  cases e : decide (c < 0) with
  | true =>
    rw [e] at h
    simp only [cond_true] at h
    cases e2 : decide ((numE l bad).2.1.length < (numE l bad).1) with
    | true => rw [e2] at h; cases h
    | false => rw [e2] at h; exact numE_ok h
  | false => rw [e] at h; exact h
theorem eT_back {k : Bool} {l : List UInt8} (h : (eT k l false).2.2 = false) : (bif k then textB (eT k l false).1 else []) ++ (eT k l false).2.1 = l := by
  cases k with
  | true => exact textE_back h
  | false => rfl
theorem eN_back {k : Bool} {l : List UInt8} (h : (eN k l false).2.2 = false) : (bif k then numY (u64 ((eN k l false).1 : Int)) else []) ++ (eN k l false).2.1 = l := by
  cases k with
  | true =>
    have hn := (numE_less l false).2
    simp only [cond_true]
    rw [show (eN true l false) = numE l false from rfl] at h ⊢
    rw [u64_nat (by omega)]
    exact numE_back h
  | false => rfl
theorem eH_back {a : Int} {l : List UInt8} (h : (eH a l false).2.2 = false) : (bif decide (a = 1) then [bif (eH a l false).1 then (1 : UInt8) else 0] else []) ++ (eH a l false).2.1 = l := by
  unfold eH at h ⊢
  cases e : decide (a = 1) with
  | true =>
    rw [e] at h
    simp only [cond_true, Bool.or_eq_false_iff] at h ⊢
    rw [h.2]
    simp only [cond_false]
    have h1 := of_decide_eq_false h.2
    have h2 := isEmpty_cons (l := l) (by rw [Bool.false_or]; exact h.1.2)
    have h3 : (bif decide (l.headD 0 = 1) then (1 : UInt8) else 0) = l.headD 0 := by
      by_cases e1 : l.headD 0 = 1
      · rw [decide_eq_true e1, e1]; rfl
      · rw [decide_eq_false e1]
        have : (l.headD 0).toNat ≠ 1 := fun e2 => e1 (UInt8.toNat_inj.1 e2)
        exact (UInt8.toNat_inj.1 (show (l.headD 0).toNat = 0 by omega)).symm
    rw [h3]
    exact h2
  | false => rfl
theorem eA_back {k : Bool} {l : List UInt8} (h : (eA k l false).2.2 = false) : (bif k then typeB (eA k l false).1 else []) ++ (eA k l false).2.1 = l := by
  cases k with
  | true => exact kindE_back _ l h
  | false => rfl
theorem eC_back {c : Int} {l : List UInt8} (h : (eC c l false).2.2 = false) : (bif decide (c < 0) then numY (eC c l false).1 else []) ++ (eC c l false).2.1 = l := by
  unfold eC at h ⊢
  cases e : decide (c < 0) with
  | true =>
    rw [e] at h
    simp only [cond_true] at h ⊢
    cases e2 : decide ((numE l false).2.1.length < (numE l false).1) with
    | true => rw [e2] at h; cases h
    | false => rw [e2] at h; exact numE_back h
  | false => rfl
theorem termE_back : ∀ (f : Nat) (l : List UInt8), (termE f l false).2.2 = false → termB (termE f l false).1 ++ (termE f l false).2.1 = l
  | 0, _, h => by cases h
  | f + 1, l, h => by
    rw [termE] at h ⊢
    simp only at h ⊢
    have b6 := kidsE_ok h
    have hfull := kidsE_full h
    have b5 := eC_ok b6
    have b4 := eA_ok b5
    have b3 := eH_ok b4
    have b2 := eN_ok b3
    have b1 := eT_ok b2
    have b0 := eT_ok b1
    rw [b6] at h hfull
    have c6 : (bif decide (cnt (e0 l false).1 < 0) then numY (e6 l false).1 else []) ++ (e6 l false).2.1 = (e5 l false).2.1 := by
      have h9 := b6; unfold e6 at h9 ⊢; rw [b5] at h9 ⊢; exact eC_back h9
    have c5 : (bif (e4 l false).1 then typeB (e5 l false).1 else []) ++ (e5 l false).2.1 = (e4 l false).2.1 := by
      have h9 := b5; unfold e5 at h9 ⊢; rw [b4] at h9 ⊢; exact eA_back h9
    have c4 : (bif decide ((prt (e0 l false).1).2.2.2 = 1) then [bif (e4 l false).1 then (1 : UInt8) else 0] else []) ++ (e4 l false).2.1 = (e3 l false).2.1 := by
      have h9 := b4; unfold e4 at h9 ⊢; rw [b3] at h9 ⊢; exact eH_back h9
    have c3 : (bif (prt (e0 l false).1).2.2.1 then numY (u64 ((e3 l false).1 : Int)) else []) ++ (e3 l false).2.1 = (e2 l false).2.1 := by
      have h9 := b3; unfold e3 at h9 ⊢; rw [b2] at h9 ⊢; exact eN_back h9
    have c2 : (bif (prt (e0 l false).1).2.1 then textB (e2 l false).1 else []) ++ (e2 l false).2.1 = (e1 l false).2.1 := by
      have h9 := b2; unfold e2 at h9 ⊢; rw [b1] at h9 ⊢; exact eT_back h9
    have c1 : (bif (prt (e0 l false).1).1 then textB (e1 l false).1 else []) ++ (e1 l false).2.1 = (e0 l false).2.1 := by
      have h9 := b1; unfold e1 at h9 ⊢; rw [b0] at h9 ⊢; exact eT_back h9
    rw [b6, termB_eq]
    simp only [Tm.op, Tm.name, Tm.arg, Tm.n, Tm.has, Tm.ann, Tm.kids]
    rw [hfull, headE, o1, o2, o3, o4, o5, o6]
    simp only [List.append_assoc, List.cons_append]
    rw [kidsE_back (termE_back f) _ _ h, c6, c5, c4, c3, c2, c1, show UInt8.ofNat ((e0 l false).1).toNat = l.headD 0 from byte_of (by unfold e0; simp)]
    exact isEmpty_cons b0
/-! ## What GetTerm and GetType get -/
def getT (l : List UInt8) : Tm := (termE (l.length + 1) l false).1
def okGT (l : List UInt8) : Bool := !(termE (l.length + 1) l false).2.2 && ((termE (l.length + 1) l false).2.1.isEmpty && rightT (getT l) false)
def getY (l : List UInt8) : Ty := (kindE (l.length + 1) l false).1
def okGY (l : List UInt8) : Bool := !(kindE (l.length + 1) l false).2.2 && ((kindE (l.length + 1) l false).2.1.isEmpty && (rightB (getY l) || rowB (getY l)))
theorem okGT_back {l : List UInt8} (h : okGT l = true) : rightT (getT l) false = true ∧ termB (getT l) = l := by
  unfold okGT at h
  simp only [Bool.and_eq_true, Bool.not_eq_true', List.isEmpty_iff] at h
  have hb := termE_back (l.length + 1) l h.1
  rw [h.2.1, List.append_nil] at hb
  exact ⟨h.2.2, hb⟩
theorem okGY_back {l : List UInt8} (h : okGY l = true) : (rightB (getY l) || rowB (getY l)) = true ∧ typeB (getY l) = l := by
  unfold okGY at h
  simp only [Bool.and_eq_true, Bool.not_eq_true', List.isEmpty_iff] at h
  have hb := kindE_back (l.length + 1) l h.1
  rw [h.2.1, List.append_nil] at hb
  exact ⟨h.2.2, hb⟩
theorem getT_ann {l : List UInt8} (hl : l.length ≤ 1000000) : AnnS (getT l) := fun x hx => by
  have := termE_ann (l.length + 1) l false x hx; omega
def tyZ : Ty := .mk 0 ⟨#[]⟩ 0 []
def tmZ : Tm := .mk 0 ⟨#[]⟩ ⟨#[]⟩ 0 false (.mk 0 ⟨#[]⟩ 0 []) []
end Rw
namespace Rw
open Go Go.RowKit
section
variable {e B : Nat} {M M' M0 : Nat → Prop} {w w' : World} {v : Value}
theorem OwnSl.slM {α : Type} [Rep α] {l : List α} (h : OwnSl e B M w v l) (hl : l.length < 140737488355328) (hb : ∀ b, v.ownBlock = some b → ¬ M0 b) (hsub : ∀ b, M0 b → M b) : Sl M0 w v l := by
  obtain ⟨us, hr, hs⟩ := h.row
  have hlt := hr.lt
  rcases hr.2 with ⟨rfl, hn⟩ | ⟨g, cap, cur, rfl, hB, hg, hc, _, _, htake⟩
  · have : l = [] := List.eq_nil_of_length_eq_zero hn
    subst this
    exact sl_nil
  · refine ⟨_, cap, rfl, hl, hc, .inr ⟨g, 0, rfl, fun i x hx => ?_⟩⟩
    obtain ⟨u, hu, hR⟩ := hs.get hx
    refine ⟨u, Rep.wk hR (fun b _ hb => hsub b hb), (hlt g rfl).2, hb g rfl, fun j c hc => ?_⟩
    have := hr.cells (g := g) rfl (i * Rep.sz α + j) c (hs.flat_get hu j c hc)
    rw [addr_add] at this
    rwa [show 0 + i * Rep.sz α + j = 0 + (i * Rep.sz α + j) by omega]
/-- What was new is written no more. -/
theorem Stp.drop (h : Stp B M M' w w') (hl : Low M w) : Stp B M M w w' := ⟨h.upd, fun _ _ h => h, fun _ h => h, fun b hb => Nat.lt_of_lt_of_le (hl b hb) h.upd.1, h.below⟩
/-- A block that is none of the old ones, but for one, and isn't that one, is new. -/
theorem new_of {b k : Nat} {w0 : World} (h : ∀ x y, v.ownBlock = some x → Out (fun x => x = k) w0 y → x ≠ y) (hk : ∀ x, v.ownBlock = some x → x ≠ k) (hl : Low M w0) (hb : v.ownBlock = some b) : ¬ M b := fun hm => h b b hb ⟨hl b hm, hk b hb⟩ rfl
end
end Rw
