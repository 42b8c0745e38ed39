/- Walks: the program's expressions, parts of a node. Printed by wip/walks/tree1.py. -/
import Derived.Test.YtohfnpmehgpphaaWn
import Derived.Test.YtohfnpmehgpphaaPlainTa
namespace Go.Proofs.Ytohfnpmehgpphaa
open Go Rw Go.RowKit
set_option maxRecDepth 100000

/-- shaped: which parts an op has. -/
theorem shaped_spec (op : Int) (M : Nat → Prop) (w : World) (hlow0 : Low M w) :
    Calls Try.prog 119 #[.int .u8 op] w (Ret fun r w' => r = .tuple #[.agg #[.bool (shp op).1, .bool (shp op).2.1, .int .i64 (shp op).2.2.1, .int .i64 (shp op).2.2.2.1], .bool (shp op).2.2.2.2] ∧ Ext w w') := by
  have hlow := hlow0
  have hB : w.heap.size ≤ w.heap.size := Nat.le_refl _
  have hE : Below w.heap.size w w := Below.refl _ _
  have hsub : ∀ b, M b → M b := fun _ h => h
  refine c_enter (n := 52) Try.func119 rfl rfl rfl ?_
  refine q0 ?_
  refine l_cons (o_new tbOk rfl rfl rfl ?_)
  intro b2 w1 qb2 ew1 hb2
  have sw1 := Stp.add ew1 hlow hB (Nat.le_of_eq qb2.symm) hb2.lt
  have h2 : MB w.heap.size (Rw.Add M b2) w1 b2 184 [.bool false, .bool false, .int .i64 0, .int .i64 0] := MB.mk' hb2 qb2 hB
  replace hE := hE.trans sw1.below
  replace hsub := fun b h => sw1.sub b (hsub b h)
  replace hlow := sw1.low
  replace hB := Nat.le_trans hB sw1.upd.1
  refine l_p 1 tbOk rfl (q1 (c_seq (q0 (l_p 1 tbOk rfl (q1 (c_blk (q0 (l_p 2 tbOk rfl (q1 ?_)))))))))
  refine c_ifP _ rfl (fun c1 => ?_) (fun c1 => ?_)
  · refine q0 ?_
    refine l_cons (o_build (cells := [.bool true, .bool false, .int .i64 0, .int .i64 0]) bd184 rfl rfl rfl rfl rfl ?_)
    refine l_cons (o_st tbOk h2.box rfl rfl rfl rfl (by simp [Value.cells, Value.oneCell']) rfl rfl ?_)
    intro w2 hw2 qw2 bew2
    have uw2 : UpdB _ _ _ := ⟨qw2, bew2⟩
    have sw2 := uw2.stp h2.inM hlow h2.ge
    have frw2 := qw2.2
    replace hE := hE.trans sw2.below
    replace hsub := fun b h => sw2.sub b (hsub b h)
    replace hlow := sw2.low
    replace hB := Nat.le_trans hB sw2.upd.1
    replace h2 : MB w.heap.size _ w2 b2 _ [.bool true, .bool false, .int .i64 0, .int .i64 0] := ⟨hw2, h2.inM, h2.ge⟩
    refine l_p 1 tbOk rfl (q1 (c_ret (x_blkR (x_seqR ?_))))
    refine x_ret2st tbOk (fun j v hv => h2.cell j v hv) rfl rfl rfl rfl rfl rfl ?_
    subst c1
    exact ⟨rfl, hE⟩
  refine c_seq (q0 (l_p 2 tbOk rfl (q1 ?_)))
  refine c_splitP 8 _ rfl (fun c2 => c_ifT rfl ?_) (fun c2 => c_ifF rfl ?_)
  · refine c_skip (x_seq (c_ifT rfl (q0 ?_)))
    refine l_cons (o_build (cells := [.bool false, .bool false, .int .i64 0, .int .i64 0]) bd184 rfl rfl rfl rfl rfl ?_)
    refine l_cons (o_st tbOk h2.box rfl rfl rfl rfl (by simp [Value.cells, Value.oneCell']) rfl rfl ?_)
    intro w3 hw3 qw3 bew3
    have uw3 : UpdB _ _ _ := ⟨qw3, bew3⟩
    have sw3 := uw3.stp h2.inM hlow h2.ge
    have frw3 := qw3.2
    replace hE := hE.trans sw3.below
    replace hsub := fun b h => sw3.sub b (hsub b h)
    replace hlow := sw3.low
    replace hB := Nat.le_trans hB sw3.upd.1
    replace h2 : MB w.heap.size _ w3 b2 _ [.bool false, .bool false, .int .i64 0, .int .i64 0] := ⟨hw3, h2.inM, h2.ge⟩
    refine l_p 1 tbOk rfl (q1 (c_ret (x_blkR (x_seqR ?_))))
    refine x_ret2st tbOk (fun j v hv => h2.cell j v hv) rfl rfl rfl rfl rfl rfl ?_
    subst c2
    exact ⟨rfl, hE⟩
  refine q0 (l_p 2 tbOk rfl (q1 ?_))
  refine c_splitP 8 _ rfl (fun c3 => c_ifT rfl ?_) (fun c3 => c_ifF rfl ?_)
  · refine c_skip (x_seq (c_ifT rfl (q0 ?_)))
    refine l_cons (o_build (cells := [.bool false, .bool false, .int .i64 0, .int .i64 0]) bd184 rfl rfl rfl rfl rfl ?_)
    refine l_cons (o_st tbOk h2.box rfl rfl rfl rfl (by simp [Value.cells, Value.oneCell']) rfl rfl ?_)
    intro w4 hw4 qw4 bew4
    have uw4 : UpdB _ _ _ := ⟨qw4, bew4⟩
    have sw4 := uw4.stp h2.inM hlow h2.ge
    have frw4 := qw4.2
    replace hE := hE.trans sw4.below
    replace hsub := fun b h => sw4.sub b (hsub b h)
    replace hlow := sw4.low
    replace hB := Nat.le_trans hB sw4.upd.1
    replace h2 : MB w.heap.size _ w4 b2 _ [.bool false, .bool false, .int .i64 0, .int .i64 0] := ⟨hw4, h2.inM, h2.ge⟩
    refine l_p 1 tbOk rfl (q1 (c_ret (x_blkR (x_seqR ?_))))
    refine x_ret2st tbOk (fun j v hv => h2.cell j v hv) rfl rfl rfl rfl rfl rfl ?_
    subst c3
    exact ⟨rfl, hE⟩
  refine c_reg (l_p 2 tbOk rfl (q1 ?_))
  refine c_splitP 8 _ rfl (fun c4 => c_ifT rfl ?_) (fun c4 => c_ifF rfl ?_)
  · refine q0 ?_
    refine l_cons (o_build (cells := [.bool false, .bool false, .int .i64 0, .int .i64 0]) bd184 rfl rfl rfl rfl rfl ?_)
    refine l_cons (o_st tbOk h2.box rfl rfl rfl rfl (by simp [Value.cells, Value.oneCell']) rfl rfl ?_)
    intro w5 hw5 qw5 bew5
    have uw5 : UpdB _ _ _ := ⟨qw5, bew5⟩
    have sw5 := uw5.stp h2.inM hlow h2.ge
    have frw5 := qw5.2
    replace hE := hE.trans sw5.below
    replace hsub := fun b h => sw5.sub b (hsub b h)
    replace hlow := sw5.low
    replace hB := Nat.le_trans hB sw5.upd.1
    replace h2 : MB w.heap.size _ w5 b2 _ [.bool false, .bool false, .int .i64 0, .int .i64 0] := ⟨hw5, h2.inM, h2.ge⟩
    refine l_p 1 tbOk rfl (q1 (c_ret (x_blkR (x_seqR ?_))))
    refine x_ret2st tbOk (fun j v hv => h2.cell j v hv) rfl rfl rfl rfl rfl rfl ?_
    subst c4
    exact ⟨rfl, hE⟩
  refine q0 (l_p 2 tbOk rfl (q1 ?_))
  refine c_ifP _ rfl (fun c5 => ?_) (fun c5 => ?_)
  · refine q0 ?_
    refine l_cons (o_build (cells := [.bool false, .bool true, .int .i64 1, .int .i64 1]) bd184 rfl rfl rfl rfl rfl ?_)
    refine l_cons (o_st tbOk h2.box rfl rfl rfl rfl (by simp [Value.cells, Value.oneCell']) rfl rfl ?_)
    intro w6 hw6 qw6 bew6
    have uw6 : UpdB _ _ _ := ⟨qw6, bew6⟩
    have sw6 := uw6.stp h2.inM hlow h2.ge
    have frw6 := qw6.2
    replace hE := hE.trans sw6.below
    replace hsub := fun b h => sw6.sub b (hsub b h)
    replace hlow := sw6.low
    replace hB := Nat.le_trans hB sw6.upd.1
    replace h2 : MB w.heap.size _ w6 b2 _ [.bool false, .bool true, .int .i64 1, .int .i64 1] := ⟨hw6, h2.inM, h2.ge⟩
    refine l_p 1 tbOk rfl (q1 (c_ret (x_blkR (x_seqR ?_))))
    refine x_ret2st tbOk (fun j v hv => h2.cell j v hv) rfl rfl rfl rfl rfl rfl ?_
    subst c5
    exact ⟨rfl, hE⟩
  refine q0 (l_p 2 tbOk rfl (q1 ?_))
  refine c_ifP _ rfl (fun c6 => ?_) (fun c6 => ?_)
  · refine q0 ?_
    refine l_cons (o_build (cells := [.bool true, .bool true, .int .i64 1, .int .i64 1]) bd184 rfl rfl rfl rfl rfl ?_)
    refine l_cons (o_st tbOk h2.box rfl rfl rfl rfl (by simp [Value.cells, Value.oneCell']) rfl rfl ?_)
    intro w7 hw7 qw7 bew7
    have uw7 : UpdB _ _ _ := ⟨qw7, bew7⟩
    have sw7 := uw7.stp h2.inM hlow h2.ge
    have frw7 := qw7.2
    replace hE := hE.trans sw7.below
    replace hsub := fun b h => sw7.sub b (hsub b h)
    replace hlow := sw7.low
    replace hB := Nat.le_trans hB sw7.upd.1
    replace h2 : MB w.heap.size _ w7 b2 _ [.bool true, .bool true, .int .i64 1, .int .i64 1] := ⟨hw7, h2.inM, h2.ge⟩
    refine l_p 1 tbOk rfl (q1 (c_ret (x_blkR (x_seqR ?_))))
    refine x_ret2st tbOk (fun j v hv => h2.cell j v hv) rfl rfl rfl rfl rfl rfl ?_
    subst c6
    exact ⟨rfl, hE⟩
  refine q0 (l_p 2 tbOk rfl (q1 ?_))
  refine c_ifP _ rfl (fun c7 => ?_) (fun c7 => ?_)
  · refine q0 ?_
    refine l_cons (o_build (cells := [.bool false, .bool false, .int .i64 2, .int .i64 0]) bd184 rfl rfl rfl rfl rfl ?_)
    refine l_cons (o_st tbOk h2.box rfl rfl rfl rfl (by simp [Value.cells, Value.oneCell']) rfl rfl ?_)
    intro w8 hw8 qw8 bew8
    have uw8 : UpdB _ _ _ := ⟨qw8, bew8⟩
    have sw8 := uw8.stp h2.inM hlow h2.ge
    have frw8 := qw8.2
    replace hE := hE.trans sw8.below
    replace hsub := fun b h => sw8.sub b (hsub b h)
    replace hlow := sw8.low
    replace hB := Nat.le_trans hB sw8.upd.1
    replace h2 : MB w.heap.size _ w8 b2 _ [.bool false, .bool false, .int .i64 2, .int .i64 0] := ⟨hw8, h2.inM, h2.ge⟩
    refine l_p 1 tbOk rfl (q1 (c_ret (x_blkR (x_seqR ?_))))
    refine x_ret2st tbOk (fun j v hv => h2.cell j v hv) rfl rfl rfl rfl rfl rfl ?_
    subst c7
    exact ⟨rfl, hE⟩
  refine c_seq (q0 (l_p 2 tbOk rfl (q1 ?_)))
  refine c_splitP 22 _ rfl (fun c8 => c_ifT rfl ?_) (fun c8 => c_ifF rfl ?_)
  · refine c_skip (x_seq (c_ifT rfl (q0 ?_)))
    refine l_cons (o_build (cells := [.bool true, .bool false, .int .i64 2, .int .i64 0]) bd184 rfl rfl rfl rfl rfl ?_)
    refine l_cons (o_st tbOk h2.box rfl rfl rfl rfl (by simp [Value.cells, Value.oneCell']) rfl rfl ?_)
    intro w9 hw9 qw9 bew9
    have uw9 : UpdB _ _ _ := ⟨qw9, bew9⟩
    have sw9 := uw9.stp h2.inM hlow h2.ge
    have frw9 := qw9.2
    replace hE := hE.trans sw9.below
    replace hsub := fun b h => sw9.sub b (hsub b h)
    replace hlow := sw9.low
    replace hB := Nat.le_trans hB sw9.upd.1
    replace h2 : MB w.heap.size _ w9 b2 _ [.bool true, .bool false, .int .i64 2, .int .i64 0] := ⟨hw9, h2.inM, h2.ge⟩
    refine l_p 1 tbOk rfl (q1 (c_ret (x_blkR (x_seqR ?_))))
    refine x_ret2st tbOk (fun j v hv => h2.cell j v hv) rfl rfl rfl rfl rfl rfl ?_
    subst c8
    exact ⟨rfl, hE⟩
  refine q0 (l_p 2 tbOk rfl (q1 ?_))
  refine c_splitP 22 _ rfl (fun c9 => c_ifT rfl ?_) (fun c9 => c_ifF rfl ?_)
  · refine c_skip (x_seq (c_ifT rfl (q0 ?_)))
    refine l_cons (o_build (cells := [.bool true, .bool false, .int .i64 2, .int .i64 0]) bd184 rfl rfl rfl rfl rfl ?_)
    refine l_cons (o_st tbOk h2.box rfl rfl rfl rfl (by simp [Value.cells, Value.oneCell']) rfl rfl ?_)
    intro w10 hw10 qw10 bew10
    have uw10 : UpdB _ _ _ := ⟨qw10, bew10⟩
    have sw10 := uw10.stp h2.inM hlow h2.ge
    have frw10 := qw10.2
    replace hE := hE.trans sw10.below
    replace hsub := fun b h => sw10.sub b (hsub b h)
    replace hlow := sw10.low
    replace hB := Nat.le_trans hB sw10.upd.1
    replace h2 : MB w.heap.size _ w10 b2 _ [.bool true, .bool false, .int .i64 2, .int .i64 0] := ⟨hw10, h2.inM, h2.ge⟩
    refine l_p 1 tbOk rfl (q1 (c_ret (x_blkR (x_seqR ?_))))
    refine x_ret2st tbOk (fun j v hv => h2.cell j v hv) rfl rfl rfl rfl rfl rfl ?_
    subst c9
    exact ⟨rfl, hE⟩
  refine c_reg (l_p 2 tbOk rfl (q1 ?_))
  refine c_splitP 22 _ rfl (fun c10 => c_ifT rfl ?_) (fun c10 => c_ifF rfl ?_)
  · refine q0 ?_
    refine l_cons (o_build (cells := [.bool true, .bool false, .int .i64 2, .int .i64 0]) bd184 rfl rfl rfl rfl rfl ?_)
    refine l_cons (o_st tbOk h2.box rfl rfl rfl rfl (by simp [Value.cells, Value.oneCell']) rfl rfl ?_)
    intro w11 hw11 qw11 bew11
    have uw11 : UpdB _ _ _ := ⟨qw11, bew11⟩
    have sw11 := uw11.stp h2.inM hlow h2.ge
    have frw11 := qw11.2
    replace hE := hE.trans sw11.below
    replace hsub := fun b h => sw11.sub b (hsub b h)
    replace hlow := sw11.low
    replace hB := Nat.le_trans hB sw11.upd.1
    replace h2 : MB w.heap.size _ w11 b2 _ [.bool true, .bool false, .int .i64 2, .int .i64 0] := ⟨hw11, h2.inM, h2.ge⟩
    refine l_p 1 tbOk rfl (q1 (c_ret (x_blkR (x_seqR ?_))))
    refine x_ret2st tbOk (fun j v hv => h2.cell j v hv) rfl rfl rfl rfl rfl rfl ?_
    subst c10
    exact ⟨rfl, hE⟩
  refine q0 (l_p 2 tbOk rfl (q1 ?_))
  refine c_ifP _ rfl (fun c11 => ?_) (fun c11 => ?_)
  · refine q0 ?_
    refine l_cons (o_build (cells := [.bool false, .bool false, .int .i64 3, .int .i64 0]) bd184 rfl rfl rfl rfl rfl ?_)
    refine l_cons (o_st tbOk h2.box rfl rfl rfl rfl (by simp [Value.cells, Value.oneCell']) rfl rfl ?_)
    intro w12 hw12 qw12 bew12
    have uw12 : UpdB _ _ _ := ⟨qw12, bew12⟩
    have sw12 := uw12.stp h2.inM hlow h2.ge
    have frw12 := qw12.2
    replace hE := hE.trans sw12.below
    replace hsub := fun b h => sw12.sub b (hsub b h)
    replace hlow := sw12.low
    replace hB := Nat.le_trans hB sw12.upd.1
    replace h2 : MB w.heap.size _ w12 b2 _ [.bool false, .bool false, .int .i64 3, .int .i64 0] := ⟨hw12, h2.inM, h2.ge⟩
    refine l_p 1 tbOk rfl (q1 (c_ret (x_blkR (x_seqR ?_))))
    refine x_ret2st tbOk (fun j v hv => h2.cell j v hv) rfl rfl rfl rfl rfl rfl ?_
    subst c11
    exact ⟨rfl, hE⟩
  refine q0 (l_p 2 tbOk rfl (q1 ?_))
  refine c_ifP _ rfl (fun c12 => ?_) (fun c12 => ?_)
  · refine q0 ?_
    refine l_cons (o_build (cells := [.bool true, .bool false, .int .i64 2, .int .i64 0]) bd184 rfl rfl rfl rfl rfl ?_)
    refine l_cons (o_st tbOk h2.box rfl rfl rfl rfl (by simp [Value.cells, Value.oneCell']) rfl rfl ?_)
    intro w13 hw13 qw13 bew13
    have uw13 : UpdB _ _ _ := ⟨qw13, bew13⟩
    have sw13 := uw13.stp h2.inM hlow h2.ge
    have frw13 := qw13.2
    replace hE := hE.trans sw13.below
    replace hsub := fun b h => sw13.sub b (hsub b h)
    replace hlow := sw13.low
    replace hB := Nat.le_trans hB sw13.upd.1
    replace h2 : MB w.heap.size _ w13 b2 _ [.bool true, .bool false, .int .i64 2, .int .i64 0] := ⟨hw13, h2.inM, h2.ge⟩
    refine l_p 1 tbOk rfl (q1 (c_ret (x_blkR (x_seqR ?_))))
    refine x_ret2st tbOk (fun j v hv => h2.cell j v hv) rfl rfl rfl rfl rfl rfl ?_
    subst c12
    exact ⟨rfl, hE⟩
  refine c_seq (q0 (l_p 2 tbOk rfl (q1 ?_)))
  refine c_splitP 33 _ rfl (fun c13 => c_ifT rfl ?_) (fun c13 => c_ifF rfl ?_)
  · refine c_skip (x_seq (c_ifT rfl (q0 ?_)))
    refine l_cons (o_build (cells := [.bool true, .bool false, .int .i64 1, .int .i64 0]) bd184 rfl rfl rfl rfl rfl ?_)
    refine l_cons (o_st tbOk h2.box rfl rfl rfl rfl (by simp [Value.cells, Value.oneCell']) rfl rfl ?_)
    intro w14 hw14 qw14 bew14
    have uw14 : UpdB _ _ _ := ⟨qw14, bew14⟩
    have sw14 := uw14.stp h2.inM hlow h2.ge
    have frw14 := qw14.2
    replace hE := hE.trans sw14.below
    replace hsub := fun b h => sw14.sub b (hsub b h)
    replace hlow := sw14.low
    replace hB := Nat.le_trans hB sw14.upd.1
    replace h2 : MB w.heap.size _ w14 b2 _ [.bool true, .bool false, .int .i64 1, .int .i64 0] := ⟨hw14, h2.inM, h2.ge⟩
    refine l_p 1 tbOk rfl (q1 (c_ret (x_blkR (x_seqR ?_))))
    refine x_ret2st tbOk (fun j v hv => h2.cell j v hv) rfl rfl rfl rfl rfl rfl ?_
    subst c13
    exact ⟨rfl, hE⟩
  refine q0 (l_p 2 tbOk rfl (q1 ?_))
  refine c_splitP 33 _ rfl (fun c14 => c_ifT rfl ?_) (fun c14 => c_ifF rfl ?_)
  · refine c_skip (x_seq (c_ifT rfl (q0 ?_)))
    refine l_cons (o_build (cells := [.bool true, .bool false, .int .i64 1, .int .i64 0]) bd184 rfl rfl rfl rfl rfl ?_)
    refine l_cons (o_st tbOk h2.box rfl rfl rfl rfl (by simp [Value.cells, Value.oneCell']) rfl rfl ?_)
    intro w15 hw15 qw15 bew15
    have uw15 : UpdB _ _ _ := ⟨qw15, bew15⟩
    have sw15 := uw15.stp h2.inM hlow h2.ge
    have frw15 := qw15.2
    replace hE := hE.trans sw15.below
    replace hsub := fun b h => sw15.sub b (hsub b h)
    replace hlow := sw15.low
    replace hB := Nat.le_trans hB sw15.upd.1
    replace h2 : MB w.heap.size _ w15 b2 _ [.bool true, .bool false, .int .i64 1, .int .i64 0] := ⟨hw15, h2.inM, h2.ge⟩
    refine l_p 1 tbOk rfl (q1 (c_ret (x_blkR (x_seqR ?_))))
    refine x_ret2st tbOk (fun j v hv => h2.cell j v hv) rfl rfl rfl rfl rfl rfl ?_
    subst c14
    exact ⟨rfl, hE⟩
  refine q0 (l_p 2 tbOk rfl (q1 ?_))
  refine c_splitP 33 _ rfl (fun c15 => c_ifT rfl ?_) (fun c15 => c_ifF rfl ?_)
  · refine c_skip (x_seq (c_ifT rfl (q0 ?_)))
    refine l_cons (o_build (cells := [.bool true, .bool false, .int .i64 1, .int .i64 0]) bd184 rfl rfl rfl rfl rfl ?_)
    refine l_cons (o_st tbOk h2.box rfl rfl rfl rfl (by simp [Value.cells, Value.oneCell']) rfl rfl ?_)
    intro w16 hw16 qw16 bew16
    have uw16 : UpdB _ _ _ := ⟨qw16, bew16⟩
    have sw16 := uw16.stp h2.inM hlow h2.ge
    have frw16 := qw16.2
    replace hE := hE.trans sw16.below
    replace hsub := fun b h => sw16.sub b (hsub b h)
    replace hlow := sw16.low
    replace hB := Nat.le_trans hB sw16.upd.1
    replace h2 : MB w.heap.size _ w16 b2 _ [.bool true, .bool false, .int .i64 1, .int .i64 0] := ⟨hw16, h2.inM, h2.ge⟩
    refine l_p 1 tbOk rfl (q1 (c_ret (x_blkR (x_seqR ?_))))
    refine x_ret2st tbOk (fun j v hv => h2.cell j v hv) rfl rfl rfl rfl rfl rfl ?_
    subst c15
    exact ⟨rfl, hE⟩
  refine c_reg (l_p 2 tbOk rfl (q1 ?_))
  refine c_splitP 33 _ rfl (fun c16 => c_ifT rfl ?_) (fun c16 => c_ifF rfl ?_)
  · refine q0 ?_
    refine l_cons (o_build (cells := [.bool true, .bool false, .int .i64 1, .int .i64 0]) bd184 rfl rfl rfl rfl rfl ?_)
    refine l_cons (o_st tbOk h2.box rfl rfl rfl rfl (by simp [Value.cells, Value.oneCell']) rfl rfl ?_)
    intro w17 hw17 qw17 bew17
    have uw17 : UpdB _ _ _ := ⟨qw17, bew17⟩
    have sw17 := uw17.stp h2.inM hlow h2.ge
    have frw17 := qw17.2
    replace hE := hE.trans sw17.below
    replace hsub := fun b h => sw17.sub b (hsub b h)
    replace hlow := sw17.low
    replace hB := Nat.le_trans hB sw17.upd.1
    replace h2 : MB w.heap.size _ w17 b2 _ [.bool true, .bool false, .int .i64 1, .int .i64 0] := ⟨hw17, h2.inM, h2.ge⟩
    refine l_p 1 tbOk rfl (q1 (c_ret (x_blkR (x_seqR ?_))))
    refine x_ret2st tbOk (fun j v hv => h2.cell j v hv) rfl rfl rfl rfl rfl rfl ?_
    subst c16
    exact ⟨rfl, hE⟩
  refine q0 (l_p 2 tbOk rfl (q1 ?_))
  refine c_ifP _ rfl (fun c17 => ?_) (fun c17 => ?_)
  · refine q0 ?_
    refine l_cons (o_build (cells := [.bool false, .bool false, .int .i64 (-1), .int .i64 0]) bd184 rfl rfl rfl rfl rfl ?_)
    refine l_cons (o_st tbOk h2.box rfl rfl rfl rfl (by simp [Value.cells, Value.oneCell']) rfl rfl ?_)
    intro w18 hw18 qw18 bew18
    have uw18 : UpdB _ _ _ := ⟨qw18, bew18⟩
    have sw18 := uw18.stp h2.inM hlow h2.ge
    have frw18 := qw18.2
    replace hE := hE.trans sw18.below
    replace hsub := fun b h => sw18.sub b (hsub b h)
    replace hlow := sw18.low
    replace hB := Nat.le_trans hB sw18.upd.1
    replace h2 : MB w.heap.size _ w18 b2 _ [.bool false, .bool false, .int .i64 (-1), .int .i64 0] := ⟨hw18, h2.inM, h2.ge⟩
    refine l_p 1 tbOk rfl (q1 (c_ret (x_blkR (x_seqR ?_))))
    refine x_ret2st tbOk (fun j v hv => h2.cell j v hv) rfl rfl rfl rfl rfl rfl ?_
    subst c17
    exact ⟨rfl, hE⟩
  refine q0 (l_p 2 tbOk rfl (q1 ?_))
  refine c_ifP _ rfl (fun c18 => ?_) (fun c18 => ?_)
  · refine q0 ?_
    refine l_cons (o_build (cells := [.bool true, .bool true, .int .i64 1, .int .i64 0]) bd184 rfl rfl rfl rfl rfl ?_)
    refine l_cons (o_st tbOk h2.box rfl rfl rfl rfl (by simp [Value.cells, Value.oneCell']) rfl rfl ?_)
    intro w19 hw19 qw19 bew19
    have uw19 : UpdB _ _ _ := ⟨qw19, bew19⟩
    have sw19 := uw19.stp h2.inM hlow h2.ge
    have frw19 := qw19.2
    replace hE := hE.trans sw19.below
    replace hsub := fun b h => sw19.sub b (hsub b h)
    replace hlow := sw19.low
    replace hB := Nat.le_trans hB sw19.upd.1
    replace h2 : MB w.heap.size _ w19 b2 _ [.bool true, .bool true, .int .i64 1, .int .i64 0] := ⟨hw19, h2.inM, h2.ge⟩
    refine l_p 1 tbOk rfl (q1 (c_ret (x_blkR (x_seqR ?_))))
    refine x_ret2st tbOk (fun j v hv => h2.cell j v hv) rfl rfl rfl rfl rfl rfl ?_
    subst c18
    exact ⟨rfl, hE⟩
  refine q0 (l_p 2 tbOk rfl (q1 ?_))
  refine c_ifP _ rfl (fun c19 => ?_) (fun c19 => ?_)
  · refine q0 ?_
    refine l_cons (o_build (cells := [.bool false, .bool true, .int .i64 1, .int .i64 0]) bd184 rfl rfl rfl rfl rfl ?_)
    refine l_cons (o_st tbOk h2.box rfl rfl rfl rfl (by simp [Value.cells, Value.oneCell']) rfl rfl ?_)
    intro w20 hw20 qw20 bew20
    have uw20 : UpdB _ _ _ := ⟨qw20, bew20⟩
    have sw20 := uw20.stp h2.inM hlow h2.ge
    have frw20 := qw20.2
    replace hE := hE.trans sw20.below
    replace hsub := fun b h => sw20.sub b (hsub b h)
    replace hlow := sw20.low
    replace hB := Nat.le_trans hB sw20.upd.1
    replace h2 : MB w.heap.size _ w20 b2 _ [.bool false, .bool true, .int .i64 1, .int .i64 0] := ⟨hw20, h2.inM, h2.ge⟩
    refine l_p 1 tbOk rfl (q1 (c_ret (x_blkR (x_seqR ?_))))
    refine x_ret2st tbOk (fun j v hv => h2.cell j v hv) rfl rfl rfl rfl rfl rfl ?_
    subst c19
    exact ⟨rfl, hE⟩
  refine q0 (l_p 2 tbOk rfl (q1 ?_))
  refine c_ifP _ rfl (fun c20 => ?_) (fun c20 => ?_)
  · refine q0 ?_
    refine l_cons (o_build (cells := [.bool false, .bool false, .int .i64 1, .int .i64 2]) bd184 rfl rfl rfl rfl rfl ?_)
    refine l_cons (o_st tbOk h2.box rfl rfl rfl rfl (by simp [Value.cells, Value.oneCell']) rfl rfl ?_)
    intro w21 hw21 qw21 bew21
    have uw21 : UpdB _ _ _ := ⟨qw21, bew21⟩
    have sw21 := uw21.stp h2.inM hlow h2.ge
    have frw21 := qw21.2
    replace hE := hE.trans sw21.below
    replace hsub := fun b h => sw21.sub b (hsub b h)
    replace hlow := sw21.low
    replace hB := Nat.le_trans hB sw21.upd.1
    replace h2 : MB w.heap.size _ w21 b2 _ [.bool false, .bool false, .int .i64 1, .int .i64 2] := ⟨hw21, h2.inM, h2.ge⟩
    refine l_p 1 tbOk rfl (q1 (c_ret (x_blkR (x_seqR ?_))))
    refine x_ret2st tbOk (fun j v hv => h2.cell j v hv) rfl rfl rfl rfl rfl rfl ?_
    subst c20
    exact ⟨rfl, hE⟩
  refine c_skip (x_blk (x_seq (q0 ?_)))
  refine l_cons (o_build (cells := [.bool false, .bool false, .int .i64 0, .int .i64 0]) bd184 rfl rfl rfl rfl rfl ?_)
  refine l_cons (o_st tbOk h2.box rfl rfl rfl rfl (by simp [Value.cells, Value.oneCell']) rfl rfl ?_)
  intro w22 hw22 qw22 bew22
  have uw22 : UpdB _ _ _ := ⟨qw22, bew22⟩
  have sw22 := uw22.stp h2.inM hlow h2.ge
  have frw22 := qw22.2
  replace hE := hE.trans sw22.below
  replace hsub := fun b h => sw22.sub b (hsub b h)
  replace hlow := sw22.low
  replace hB := Nat.le_trans hB sw22.upd.1
  replace h2 : MB w.heap.size _ w22 b2 _ [.bool false, .bool false, .int .i64 0, .int .i64 0] := ⟨hw22, h2.inM, h2.ge⟩
  refine l_p 1 tbOk rfl (q1 (c_ret ?_))
  refine x_ret2st tbOk (fun j v hv => h2.cell j v hv) rfl rfl rfl rfl rfl rfl ?_
  exact ⟨by unfold shp; simp [*], hE⟩

/-- named: is a name there just if one should be? -/
theorem named_spec (s : ByteArray) (b : Bool) (w : World) (hs : s.size < 140737488355328) :
    Calls Try.prog 122 #[.string s, .bool b] w (Ret fun r w' => r = .bool (namedB s b) ∧ Ext w w') := by
  have hE : Below w.heap.size w w := Below.refl _ _
  have hB : w.heap.size ≤ w.heap.size := Nat.le_refl _
  refine c_enter (n := 18) Try.func122 rfl rfl rfl ?_
  refine q0 (l_p 1 tbOk rfl (q1 (q0 (l_p 3 tbOk rfl ?_))))
  refine l_splitP 7 _ rfl (fun c1 => ?_) (fun c1 => ?_)
  · refine l_p 4 tbOk rfl ?_
    refine l_splitB 11 _ rfl (fun c2 => ?_) (fun c2 => ?_)
    · refine l_p 7 tbOk rfl (q1 (c_ret (x_ret1 rfl rfl ?_)))
      exact ⟨by congr 1; unfold namedB; simp_all, hE⟩
    refine l_p 2 tbOk rfl ?_
    refine l_split 13 _ rfl (fun c3 => ?_) (fun c3 => ?_)
    · refine l_p 1 tbOk rfl ?_
      refine l_cons (o_call fo57 rfl rfl rfl (isWord_spec _ s hs) ?_)
      rintro _ _ ⟨rfl, rfl⟩
      refine l_p 3 tbOk rfl (q1 (c_ret (x_ret1 rfl rfl ?_)))
      exact ⟨by congr 1; unfold namedB; simp_all, hE⟩
    refine l_p 5 tbOk rfl (q1 (c_ret (x_ret1 rfl rfl ?_)))
    exact ⟨by congr 1; unfold namedB; simp_all, hE⟩
  refine l_p 6 tbOk rfl ?_
  refine l_split 13 _ rfl (fun c4 => ?_) (fun c4 => ?_)
  · refine l_p 1 tbOk rfl ?_
    refine l_cons (o_call fo57 rfl rfl rfl (isWord_spec _ s hs) ?_)
    rintro _ _ ⟨rfl, rfl⟩
    refine l_p 3 tbOk rfl (q1 (c_ret (x_ret1 rfl rfl ?_)))
    exact ⟨by congr 1; unfold namedB; simp_all, hE⟩
  refine l_p 5 tbOk rfl (q1 (c_ret (x_ret1 rfl rfl ?_)))
  exact ⟨by congr 1; unfold namedB; simp_all, hE⟩

/-- blank: the zero type? -/
theorem blank_spec (t : Ty) (M : Nat → Prop) (w : World) (v : Value) (ht : Rep.R M w v t) (hlow : Low M w) :
    Calls Try.prog 133 #[v] w (Ret fun r w' => r = .bool (blankB t) ∧ Ext w w') := by
  have hE : Below w.heap.size w w := Below.refl _ _
  have hB : w.heap.size ≤ w.heap.size := Nat.le_refl _
  obtain ⟨kv, rfl, op, nm, n64, hk⟩ := ty_open ht
  refine c_enter (n := 22) Try.func133 rfl rfl rfl ?_
  refine q0 ?_
  refine l_cons (o_box rfl rfl rfl ?_)
  intro b1 w1 hb_b1 ew1 h1
  replace h1 : Box _ b1 40 [.int .u8 t.op, .string t.name, .int .i64 t.n, kv] := h1
  replace h1 := h1.at (nM_of hlow hb_b1)
  replace hE := hE.trans (Below.mono ew1 hB)
  replace ht := Rep.ext ht ew1
  replace hk := hk.ext ew1
  replace hlow := hlow.ext ew1
  replace hB := Nat.le_trans hB ew1.size
  refine l_p 1 tbOk rfl (q1 (q0 (l_p 1 tbOk rfl ?_)))
  refine l_cons (o_ld tbOk (h1.cell 0 _ rfl) rfl rfl rfl rfl rfl ?_)
  refine l_p 2 tbOk rfl ?_
  refine l_splitP 6 _ rfl (fun c1 => ?_) (fun c1 => ?_)
  · refine l_p 1 tbOk rfl ?_
    refine l_cons (o_ld tbOk (h1.cell 1 _ rfl) rfl rfl rfl rfl rfl ?_)
    refine l_p 3 tbOk rfl ?_
    refine l_splitP 11 _ rfl (fun c2 => ?_) (fun c2 => ?_)
    · refine l_p 1 tbOk rfl ?_
      refine l_cons (o_ld tbOk (h1.cell 2 _ rfl) rfl rfl rfl rfl rfl ?_)
      refine l_p 3 tbOk rfl ?_
      refine l_splitP 16 _ rfl (fun c3 => ?_) (fun c3 => ?_)
      · refine l_p 1 tbOk rfl ?_
        refine l_cons (o_ld tbOk (h1.cell 3 _ rfl) rfl rfl rfl rfl rfl ?_)
        refine l_cons (o_len tbOk hk rfl rfl rfl rfl rfl ?_)
        refine l_p 3 tbOk rfl (q1 (c_ret (x_ret1 rfl rfl ?_)))
        exact ⟨by congr 1; unfold blankB; simp_all, hE⟩
      refine l_p 6 tbOk rfl (q1 (c_ret (x_ret1 rfl rfl ?_)))
      exact ⟨by congr 1; unfold blankB; simp_all, hE⟩
    refine l_p 11 tbOk rfl (q1 (c_ret (x_ret1 rfl rfl ?_)))
    exact ⟨by congr 1; unfold blankB; simp_all, hE⟩
  refine l_p 16 tbOk rfl (q1 (c_ret (x_ret1 rfl rfl ?_)))
  exact ⟨by congr 1; unfold blankB; simp_all, hE⟩

/-- sign: of two numbers? -/
theorem sign_spec (s : ByteArray) (w : World) :
    Calls Try.prog 123 #[.string s] w (Ret fun r w' => r = .bool (signB s) ∧ w = w') := by
  refine c_enter (n := 12) Try.func123 rfl rfl rfl ?_
  refine q0 (l_p 1 tbOk rfl (q1 (c_seq (q0 (l_p 1 tbOk rfl (q1 (c_blk (c_seq (q0 (l_p 2 tbOk rfl (q1 ?_)))))))))))
  refine c_splitP 4 _ rfl (fun c1 => c_ifT rfl ?_) (fun c1 => c_ifF rfl ?_)
  · refine c_skip (x_seq (c_ifT rfl (q0 (l_p 1 tbOk rfl (q1 (c_ret (x_blkR (x_seqR (x_ret1 rfl rfl ?_)))))))))
    exact ⟨by congr 1; unfold signB; simp_all, rfl⟩
  refine q0 (l_p 2 tbOk rfl (q1 ?_))
  refine c_splitP 4 _ rfl (fun c2 => c_ifT rfl ?_) (fun c2 => c_ifF rfl ?_)
  · refine c_skip (x_seq (c_ifT rfl (q0 (l_p 1 tbOk rfl (q1 (c_ret (x_blkR (x_seqR (x_ret1 rfl rfl ?_)))))))))
    exact ⟨by congr 1; unfold signB; simp_all, rfl⟩
  refine q0 (l_p 2 tbOk rfl (q1 ?_))
  refine c_splitP 4 _ rfl (fun c3 => c_ifT rfl ?_) (fun c3 => c_ifF rfl ?_)
  · refine c_skip (x_seq (c_ifT rfl (q0 (l_p 1 tbOk rfl (q1 (c_ret (x_blkR (x_seqR (x_ret1 rfl rfl ?_)))))))))
    exact ⟨by congr 1; unfold signB; simp_all, rfl⟩
  refine q0 (l_p 2 tbOk rfl (q1 ?_))
  refine c_splitP 4 _ rfl (fun c4 => c_ifT rfl ?_) (fun c4 => c_ifF rfl ?_)
  · refine c_skip (x_seq (c_ifT rfl (q0 (l_p 1 tbOk rfl (q1 (c_ret (x_blkR (x_seqR (x_ret1 rfl rfl ?_)))))))))
    exact ⟨by congr 1; unfold signB; simp_all, rfl⟩
  refine q0 (l_p 2 tbOk rfl (q1 ?_))
  refine c_splitP 4 _ rfl (fun c5 => c_ifT rfl ?_) (fun c5 => c_ifF rfl ?_)
  · refine c_skip (x_seq (c_ifT rfl (q0 (l_p 1 tbOk rfl (q1 (c_ret (x_blkR (x_seqR (x_ret1 rfl rfl ?_)))))))))
    exact ⟨by congr 1; unfold signB; simp_all, rfl⟩
  refine q0 (l_p 2 tbOk rfl (q1 ?_))
  refine c_splitP 4 _ rfl (fun c6 => c_ifT rfl ?_) (fun c6 => c_ifF rfl ?_)
  · refine c_skip (x_seq (c_ifT rfl (q0 (l_p 1 tbOk rfl (q1 (c_ret (x_blkR (x_seqR (x_ret1 rfl rfl ?_)))))))))
    exact ⟨by congr 1; unfold signB; simp_all, rfl⟩
  refine c_reg (l_p 2 tbOk rfl (q1 ?_))
  refine c_splitP 4 _ rfl (fun c7 => c_ifT rfl ?_) (fun c7 => c_ifF rfl ?_)
  · refine q0 (l_p 1 tbOk rfl (q1 (c_ret (x_blkR (x_seqR (x_ret1 rfl rfl ?_))))))
    exact ⟨by congr 1; unfold signB; simp_all, rfl⟩
  refine c_skip (x_blk (x_seq (q0 (l_p 1 tbOk rfl (q1 (c_ret (x_ret1 rfl rfl ?_)))))))
  exact ⟨by congr 1; unfold signB; simp_all, rfl⟩

/-- arm: may a kid of a case be of this op? -/
theorem arm_spec (op : Int) (b : Bool) (w : World) :
    Calls Try.prog 124 #[.int .u8 op, .bool b] w (Ret fun r w' => r = .bool (armB op b) ∧ w = w') := by
  refine c_enter (n := 14) Try.func124 rfl rfl rfl ?_
  refine q0 (l_p 1 tbOk rfl (q1 (q0 (l_p 3 tbOk rfl ?_))))
  refine l_splitP 7 _ rfl (fun c1 => ?_) (fun c1 => ?_)
  · refine l_p 7 tbOk rfl (q1 (c_ret (x_ret1 rfl rfl ?_)))
    exact ⟨by congr 1; unfold armB; simp_all, rfl⟩
  refine l_p 3 tbOk rfl ?_
  refine l_splitP 10 _ rfl (fun c2 => ?_) (fun c2 => ?_)
  · refine l_p 4 tbOk rfl (q1 (c_ret (x_ret1 rfl rfl ?_)))
    exact ⟨by congr 1; unfold armB; simp_all, rfl⟩
  refine l_p 4 tbOk rfl (q1 (c_ret (x_ret1 rfl rfl ?_)))
  exact ⟨by congr 1; unfold armB; simp_all, rfl⟩

/-- number: may the number be? -/
theorem number_spec (t : Tm) (M : Nat → Prop) (w : World) (v : Value) (ht : Rep.R M w v t) (hlow : Low M w) :
    Calls Try.prog 120 #[v] w (Ret fun r w' => r = .bool (numberB t.op t.n) ∧ Ext w w') := by
  have hE : Below w.heap.size w w := Below.refl _ _
  have hB : w.heap.size ≤ w.heap.size := Nat.le_refl _
  obtain ⟨akv, kv, rfl, op, nm, ag, n64, ha, hk⟩ := tm_open ht
  refine c_enter (n := 23) Try.func120 rfl rfl rfl ?_
  refine q0 ?_
  refine l_cons (o_box rfl rfl rfl ?_)
  intro b1 w1 hb_b1 ew1 h1
  replace h1 : Box _ b1 84 [.int .u8 t.op, .string t.name, .string t.arg, .int .i64 t.n, .bool t.has, .int .u8 t.ann.op, .string t.ann.name, .int .i64 t.ann.n, akv, kv] := h1
  replace h1 := h1.at (nM_of hlow hb_b1)
  replace hE := hE.trans (Below.mono ew1 hB)
  replace ht := Rep.ext ht ew1
  replace ha := Rep.ext ha ew1
  replace hk := hk.ext ew1
  replace hlow := hlow.ext ew1
  replace hB := Nat.le_trans hB ew1.size
  refine l_p 1 tbOk rfl (q1 (c_seq (q0 (l_p 1 tbOk rfl ?_))))
  refine l_cons (o_ld tbOk (h1.cell 0 _ rfl) rfl rfl rfl rfl rfl ?_)
  refine q1 (c_blk (q0 (l_p 2 tbOk rfl (q1 ?_))))
  refine c_ifP _ rfl (fun c1 => ?_) (fun c1 => ?_)
  · refine q0 (l_p 1 tbOk rfl ?_)
    refine l_cons (o_ld tbOk (h1.cell 3 _ rfl) rfl rfl rfl rfl rfl ?_)
    refine l_p 2 tbOk rfl (q1 (c_ret (x_blkR (x_seqR (x_ret1 rfl rfl ?_)))))
    exact ⟨by congr 1; unfold numberB; simp_all, hE⟩
  refine q0 (l_p 2 tbOk rfl (q1 ?_))
  refine c_ifP _ rfl (fun c2 => ?_) (fun c2 => ?_)
  · refine q0 (l_p 1 tbOk rfl ?_)
    refine l_cons (o_ld tbOk (h1.cell 3 _ rfl) rfl rfl rfl rfl rfl ?_)
    refine l_p 2 tbOk rfl ?_
    refine l_splitP 15 _ rfl (fun c3 => ?_) (fun c3 => ?_)
    · refine l_p 5 tbOk rfl (q1 (c_ret (x_blkR (x_seqR (x_ret1 rfl rfl ?_)))))
      exact ⟨by congr 1; unfold numberB; simp_all, hE⟩
    refine l_p 1 tbOk rfl ?_
    refine l_cons (o_ld tbOk (h1.cell 3 _ rfl) rfl rfl rfl rfl rfl ?_)
    refine l_p 3 tbOk rfl (q1 (c_ret (x_blkR (x_seqR (x_ret1 rfl rfl ?_)))))
    exact ⟨by congr 1; unfold numberB; simp_all, hE⟩
  refine c_skip (x_blk (x_seq (q0 (l_p 1 tbOk rfl ?_))))
  refine l_cons (o_ld tbOk (h1.cell 3 _ rfl) rfl rfl rfl rfl rfl ?_)
  refine l_p 2 tbOk rfl (q1 (c_ret (x_ret1 rfl rfl ?_)))
  exact ⟨by congr 1; unfold numberB; simp_all, hE⟩

/-- noted: is the annotation as it should be? -/
theorem noted_spec (t : Tm) (a : Int) (M : Nat → Prop) (w : World) (v : Value) (ht : Rep.R M w v t) (hlow : Low M w) (hz : psz t.ann ≤ 2000000) :
    Calls Try.prog 121 #[v, .int .i64 a] w (Ret fun r w' => r = .bool (notedB t.has t.ann a) ∧ Ext w w') := by
  have hE : Below w.heap.size w w := Below.refl _ _
  have hB : w.heap.size ≤ w.heap.size := Nat.le_refl _
  obtain ⟨akv, kv, rfl, op, nm, ag, n64, ha, hk⟩ := tm_open ht
  refine c_enter (n := 26) Try.func121 rfl rfl rfl ?_
  refine q0 ?_
  refine l_cons (o_box rfl rfl rfl ?_)
  intro b2 w1 hb_b2 ew1 h2
  replace h2 : Box _ b2 84 [.int .u8 t.op, .string t.name, .string t.arg, .int .i64 t.n, .bool t.has, .int .u8 t.ann.op, .string t.ann.name, .int .i64 t.ann.n, akv, kv] := h2
  replace h2 := h2.at (nM_of hlow hb_b2)
  replace hE := hE.trans (Below.mono ew1 hB)
  replace ht := Rep.ext ht ew1
  replace ha := Rep.ext ha ew1
  replace hk := hk.ext ew1
  replace hlow := hlow.ext ew1
  replace hB := Nat.le_trans hB ew1.size
  refine l_p 1 tbOk rfl (q1 (c_seq (q0 (l_p 1 tbOk rfl ?_))))
  refine l_cons (o_ld tbOk (h2.cell 4 _ rfl) rfl rfl rfl rfl rfl ?_)
  refine q1 ?_
  refine c_if _ rfl (fun c1 => ?_) (fun c1 => ?_)
  · refine q0 (l_p 3 tbOk rfl ?_)
    refine l_splitP 9 _ rfl (fun c2 => ?_) (fun c2 => ?_)
    · refine l_p 1 tbOk rfl ?_
      refine l_cons (o_lds tbOk (fun j v hv => (h2).mid 5 (sub := [.int .u8 t.ann.op, .string t.ann.name, .int .i64 t.ann.n, akv]) rfl j v hv) rfl rfl rfl rfl rfl rfl ?_)
      refine l_cons (o_call fo78 rfl rfl rfl (kRight_specB _ _ _ _ ha hlow) ?_)
      rintro _ w2 ⟨rfl, ew2⟩
      replace hE := hE.trans (Below.mono ew2 hB)
      replace ht := Rep.ext ht ew2
      replace ha := Rep.ext ha ew2
      replace hk := hk.ext ew2
      replace h2 := h2.ext ew2
      replace hlow := hlow.ext ew2
      replace hB := Nat.le_trans hB ew2.size
      refine l_p 2 tbOk rfl ?_
      refine l_split 14 _ rfl (fun c3 => ?_) (fun c3 => ?_)
      · refine l_p 1 tbOk rfl ?_
        refine l_cons (o_lds tbOk (fun j v hv => (h2).mid 5 (sub := [.int .u8 t.ann.op, .string t.ann.name, .int .i64 t.ann.n, akv]) rfl j v hv) rfl rfl rfl rfl rfl rfl ?_)
        refine l_cons (o_call fo132 rfl rfl rfl (kClosed_spec _ _ _ _ ha hlow hz) ?_)
        rintro _ w3 ⟨rfl, ew3⟩
        replace hE := hE.trans (Below.mono ew3 hB)
        replace ht := Rep.ext ht ew3
        replace ha := Rep.ext ha ew3
        replace hk := hk.ext ew3
        replace h2 := h2.ext ew3
        replace hlow := hlow.ext ew3
        replace hB := Nat.le_trans hB ew3.size
        refine l_p 2 tbOk rfl (q1 (c_ret (x_seqR (x_ret1 rfl rfl ?_))))
        exact ⟨by congr 1; unfold notedB; simp_all <;> intros <;> omega, hE⟩
      refine l_p 5 tbOk rfl (q1 (c_ret (x_seqR (x_ret1 rfl rfl ?_))))
      exact ⟨by congr 1; unfold notedB; simp_all <;> intros <;> omega, hE⟩
    refine l_p 10 tbOk rfl (q1 (c_ret (x_seqR (x_ret1 rfl rfl ?_))))
    exact ⟨by congr 1; unfold notedB; simp_all <;> intros <;> omega, hE⟩
  refine c_skip (x_seq (q0 (l_p 3 tbOk rfl ?_)))
  refine l_splitP 21 _ rfl (fun c4 => ?_) (fun c4 => ?_)
  · refine l_p 1 tbOk rfl ?_
    refine l_cons (o_lds tbOk (fun j v hv => (h2).mid 5 (sub := [.int .u8 t.ann.op, .string t.ann.name, .int .i64 t.ann.n, akv]) rfl j v hv) rfl rfl rfl rfl rfl rfl ?_)
    refine l_cons (o_call fo133 rfl rfl rfl (blank_spec _ _ _ _ ha hlow) ?_)
    rintro _ w4 ⟨rfl, ew4⟩
    replace hE := hE.trans (Below.mono ew4 hB)
    replace ht := Rep.ext ht ew4
    replace ha := Rep.ext ha ew4
    replace hk := hk.ext ew4
    replace h2 := h2.ext ew4
    replace hlow := hlow.ext ew4
    replace hB := Nat.le_trans hB ew4.size
    refine l_p 2 tbOk rfl (q1 (c_ret (x_ret1 rfl rfl ?_)))
    exact ⟨by congr 1; unfold notedB; simp_all <;> intros <;> omega, hE⟩
  refine l_p 5 tbOk rfl (q1 (c_ret (x_ret1 rfl rfl ?_)))
  exact ⟨by congr 1; unfold notedB; simp_all <;> intros <;> omega, hE⟩

/-- right: an expression, or an arm? -/
theorem tright_spec : ∀ (t : Tm) (arms : Bool) (M : Nat → Prop) (w : World) (v : Value), Rep.R M w v t → Low M w → AnnS t → Calls Try.prog 106 #[v, .bool arms] w (Ret fun r w' => r = .bool (rightT t arms) ∧ Ext w w') := by
  refine Tm.ind fun t ih => ?_
  intro arms M w v ht hlow hz
  have hE : Below w.heap.size w w := Below.refl _ _
  have hB : w.heap.size ≤ w.heap.size := Nat.le_refl _
  obtain ⟨akv, kv, rfl, op, nm, ag, n64, ha, hk⟩ := tm_open ht
  have hlt := hk.lt
  refine c_enter (n := 120) Try.func106 rfl rfl rfl ?_
  refine q0 ?_
  refine l_cons (o_box rfl rfl rfl ?_)
  intro b2 w1 hb_b2 ew1 h2
  replace h2 : Box _ b2 84 [.int .u8 t.op, .string t.name, .string t.arg, .int .i64 t.n, .bool t.has, .int .u8 t.ann.op, .string t.ann.name, .int .i64 t.ann.n, akv, kv] := h2
  replace h2 := h2.at (nM_of hlow hb_b2)
  replace hE := hE.trans (Below.mono ew1 hB)
  replace ht := Rep.ext ht ew1
  replace ha := Rep.ext ha ew1
  replace hk := hk.ext ew1
  replace hlow := hlow.ext ew1
  replace hB := Nat.le_trans hB ew1.size
  refine l_p 1 tbOk rfl (q1 (q0 (l_p 1 tbOk rfl ?_)))
  refine l_cons (o_ld tbOk (h2.cell 0 _ rfl) rfl rfl rfl rfl rfl ?_)
  refine l_cons (o_call fo119 rfl rfl rfl (shaped_spec t.op M _ hlow) ?_)
  rintro _ w2 ⟨rfl, ew2⟩
  replace hE := hE.trans (Below.mono ew2 hB)
  replace ht := Rep.ext ht ew2
  replace ha := Rep.ext ha ew2
  replace hk := hk.ext ew2
  replace h2 := h2.ext ew2
  replace hlow := hlow.ext ew2
  replace hB := Nat.le_trans hB ew2.size
  refine l_p 3 tbOk rfl ?_
  refine l_cons (o_new tbOk rfl rfl rfl ?_)
  intro b5 w3 qb5 ew3 hb5
  have nb5 := nM_of hlow qb5
  refine l_cons (o_st tbOk hb5 rfl rfl rfl rfl (by simp [Value.cells, Value.oneCell']) rfl rfl ?_)
  intro w4 h5 uw4 bew4
  have ew4 : Ext w2 w4 := ew3.trans (bew4 _ (Nat.le_of_eq qb5.symm))
  replace hE := hE.trans (Below.mono ew4 hB)
  replace ht := Rep.ext ht ew4
  replace ha := Rep.ext ha ew4
  replace hk := hk.ext ew4
  replace h2 := h2.ext ew4
  replace hlow := hlow.ext ew4
  replace hB := Nat.le_trans hB ew4.size
  replace h5 : Box _ b5 184 [.bool (shp t.op).1, .bool (shp t.op).2.1, .int .i64 (shp t.op).2.2.1, .int .i64 (shp t.op).2.2.2.1] := h5
  replace h5 := h5.at nb5
  refine l_p 1 tbOk rfl (q1 ?_)
  refine c_cut (X := Nat) (fun b5 => [(1, .bool arms), (2, .pointer (some ⟨b2, 0, none⟩)), (5, .pointer (some ⟨b5, 0, none⟩))]) (fun b5 w' => ((shp t.op).2.2.2.2 = true ∧ (arms == armsB t.op) = true ∧ numberB t.op t.n = true ∧ notedB t.has t.ann (shp t.op).2.2.2.1 = true ∧ namedB t.arg (shp t.op).2.1 = true) ∧ At M w' b2 0 [.int .u8 t.op, .string t.name, .string t.arg, .int .i64 t.n, .bool t.has, .int .u8 t.ann.op, .string t.ann.name, .int .i64 t.ann.n, akv, kv] ∧ At M w' b5 0 [.bool (shp t.op).1, .bool (shp t.op).2.1, .int .i64 (shp t.op).2.2.1, .int .i64 (shp t.op).2.2.2.1] ∧ Sl M w' kv t.kids ∧ Low M w' ∧ Below w.heap.size w w' ∧ w.heap.size ≤ w'.heap.size) ?_ ?_
  · refine q0 (l_p 3 tbOk rfl ?_)
    refine l_splitB 18 _ rfl (fun c1 => ?_) (fun c1 => ?_)
    · refine l_p 31 tbOk rfl (q1 (c_ifT rfl (q0 (l_p 1 tbOk rfl (q1 (c_ret (x_seqR (x_ret1 rfl rfl ?_))))))))
      exact ⟨by rw [rightT_eq]; clear ih; unfold headT armsB; simp_all <;> intros <;> omega, hE⟩
    refine l_p 2 tbOk rfl ?_
    refine l_cons (o_ld tbOk (h2.cell 0 _ rfl) rfl rfl rfl rfl rfl ?_)
    refine l_p 2 tbOk rfl ?_
    refine l_splitP 23 _ rfl (fun c2 => ?_) (fun c2 => ?_)
    · refine l_p 4 tbOk rfl ?_
      refine l_cons (o_bne tbOk rfl rfl rfl rfl rfl rfl ?_)
      refine l_p 2 tbOk rfl ?_
      refine l_split 30 _ rfl (fun c3 => ?_) (fun c3 => ?_)
      · refine l_p 19 tbOk rfl (q1 (c_ifT rfl (q0 (l_p 1 tbOk rfl (q1 (c_ret (x_seqR (x_ret1 rfl rfl ?_))))))))
        exact ⟨by rw [rightT_eq]; clear ih; unfold headT armsB; simp_all <;> intros <;> omega, hE⟩
      refine l_cons (o_lds tbOk (fun j v hv => h2.cell j v hv) rfl rfl rfl rfl rfl rfl ?_)
      refine l_cons (o_call fo120 rfl rfl rfl (number_spec _ _ _ _ ht hlow) ?_)
      rintro _ w5 ⟨rfl, ew5⟩
      replace hE := hE.trans (Below.mono ew5 hB)
      replace ht := Rep.ext ht ew5
      replace ha := Rep.ext ha ew5
      replace hk := hk.ext ew5
      replace h2 := h2.ext ew5
      replace h5 := h5.ext ew5
      replace hlow := hlow.ext ew5
      replace hB := Nat.le_trans hB ew5.size
      refine l_p 3 tbOk rfl ?_
      refine l_splitB 35 _ rfl (fun c4 => ?_) (fun c4 => ?_)
      · refine l_p 14 tbOk rfl (q1 (c_ifT rfl (q0 (l_p 1 tbOk rfl (q1 (c_ret (x_seqR (x_ret1 rfl rfl ?_))))))))
        exact ⟨by rw [rightT_eq]; clear ih; unfold headT armsB; simp_all <;> intros <;> omega, hE⟩
      refine l_cons (o_lds tbOk (fun j v hv => h2.cell j v hv) rfl rfl rfl rfl rfl rfl ?_)
      refine l_p 1 tbOk rfl ?_
      refine l_cons (o_ld tbOk (h5.cell 3 _ rfl) rfl rfl rfl rfl rfl ?_)
      refine l_cons (o_call fo121 rfl rfl rfl (noted_spec _ _ _ _ _ ht hlow hz.self) ?_)
      rintro _ w6 ⟨rfl, ew6⟩
      replace hE := hE.trans (Below.mono ew6 hB)
      replace ht := Rep.ext ht ew6
      replace ha := Rep.ext ha ew6
      replace hk := hk.ext ew6
      replace h2 := h2.ext ew6
      replace h5 := h5.ext ew6
      replace hlow := hlow.ext ew6
      replace hB := Nat.le_trans hB ew6.size
      refine l_p 3 tbOk rfl ?_
      refine l_splitB 42 _ rfl (fun c5 => ?_) (fun c5 => ?_)
      · refine l_p 7 tbOk rfl (q1 (c_ifT rfl (q0 (l_p 1 tbOk rfl (q1 (c_ret (x_seqR (x_ret1 rfl rfl ?_))))))))
        exact ⟨by rw [rightT_eq]; clear ih; unfold headT armsB; simp_all <;> intros <;> omega, hE⟩
      refine l_p 1 tbOk rfl ?_
      refine l_cons (o_ld tbOk (h2.cell 2 _ rfl) rfl rfl rfl rfl rfl ?_)
      refine l_p 1 tbOk rfl ?_
      refine l_cons (o_ld tbOk (h5.cell 1 _ rfl) rfl rfl rfl rfl rfl ?_)
      refine l_cons (o_call fo122 rfl rfl rfl (named_spec _ _ _ (by first | exact nm | exact ag)) ?_)
      rintro _ w7 ⟨rfl, ew7⟩
      replace hE := hE.trans (Below.mono ew7 hB)
      replace ht := Rep.ext ht ew7
      replace ha := Rep.ext ha ew7
      replace hk := hk.ext ew7
      replace h2 := h2.ext ew7
      replace h5 := h5.ext ew7
      replace hlow := hlow.ext ew7
      replace hB := Nat.le_trans hB ew7.size
      refine l_p 2 tbOk rfl (q1 ?_)
      refine c_ifB _ rfl (fun c6 => ?_) (fun c6 => ?_)
      · refine q0 (l_p 1 tbOk rfl (q1 (c_ret (x_seqR (x_ret1 rfl rfl ?_)))))
        exact ⟨by rw [rightT_eq]; clear ih; unfold headT armsB; simp_all <;> intros <;> omega, hE⟩
      refine c_skip ?_
      exact x_cut (b5) (s3 rfl rfl rfl) ⟨by clear ih; simp_all [armsB], h2, h5, hk, hlow, hE, hB⟩
    refine l_p 1 tbOk rfl ?_
    refine l_cons (o_ld tbOk (h2.cell 0 _ rfl) rfl rfl rfl rfl rfl ?_)
    refine l_p 2 tbOk rfl ?_
    refine l_cons (o_bne tbOk rfl rfl rfl rfl rfl rfl ?_)
    refine l_p 2 tbOk rfl ?_
    refine l_split 30 _ rfl (fun c7 => ?_) (fun c7 => ?_)
    · refine l_p 19 tbOk rfl (q1 (c_ifT rfl (q0 (l_p 1 tbOk rfl (q1 (c_ret (x_seqR (x_ret1 rfl rfl ?_))))))))
      exact ⟨by rw [rightT_eq]; clear ih; unfold headT armsB; simp_all <;> intros <;> omega, hE⟩
    refine l_cons (o_lds tbOk (fun j v hv => h2.cell j v hv) rfl rfl rfl rfl rfl rfl ?_)
    refine l_cons (o_call fo120 rfl rfl rfl (number_spec _ _ _ _ ht hlow) ?_)
    rintro _ w8 ⟨rfl, ew8⟩
    replace hE := hE.trans (Below.mono ew8 hB)
    replace ht := Rep.ext ht ew8
    replace ha := Rep.ext ha ew8
    replace hk := hk.ext ew8
    replace h2 := h2.ext ew8
    replace h5 := h5.ext ew8
    replace hlow := hlow.ext ew8
    replace hB := Nat.le_trans hB ew8.size
    refine l_p 3 tbOk rfl ?_
    refine l_splitB 35 _ rfl (fun c8 => ?_) (fun c8 => ?_)
    · refine l_p 14 tbOk rfl (q1 (c_ifT rfl (q0 (l_p 1 tbOk rfl (q1 (c_ret (x_seqR (x_ret1 rfl rfl ?_))))))))
      exact ⟨by rw [rightT_eq]; clear ih; unfold headT armsB; simp_all <;> intros <;> omega, hE⟩
    refine l_cons (o_lds tbOk (fun j v hv => h2.cell j v hv) rfl rfl rfl rfl rfl rfl ?_)
    refine l_p 1 tbOk rfl ?_
    refine l_cons (o_ld tbOk (h5.cell 3 _ rfl) rfl rfl rfl rfl rfl ?_)
    refine l_cons (o_call fo121 rfl rfl rfl (noted_spec _ _ _ _ _ ht hlow hz.self) ?_)
    rintro _ w9 ⟨rfl, ew9⟩
    replace hE := hE.trans (Below.mono ew9 hB)
    replace ht := Rep.ext ht ew9
    replace ha := Rep.ext ha ew9
    replace hk := hk.ext ew9
    replace h2 := h2.ext ew9
    replace h5 := h5.ext ew9
    replace hlow := hlow.ext ew9
    replace hB := Nat.le_trans hB ew9.size
    refine l_p 3 tbOk rfl ?_
    refine l_splitB 42 _ rfl (fun c9 => ?_) (fun c9 => ?_)
    · refine l_p 7 tbOk rfl (q1 (c_ifT rfl (q0 (l_p 1 tbOk rfl (q1 (c_ret (x_seqR (x_ret1 rfl rfl ?_))))))))
      exact ⟨by rw [rightT_eq]; clear ih; unfold headT armsB; simp_all <;> intros <;> omega, hE⟩
    refine l_p 1 tbOk rfl ?_
    refine l_cons (o_ld tbOk (h2.cell 2 _ rfl) rfl rfl rfl rfl rfl ?_)
    refine l_p 1 tbOk rfl ?_
    refine l_cons (o_ld tbOk (h5.cell 1 _ rfl) rfl rfl rfl rfl rfl ?_)
    refine l_cons (o_call fo122 rfl rfl rfl (named_spec _ _ _ (by first | exact nm | exact ag)) ?_)
    rintro _ w10 ⟨rfl, ew10⟩
    replace hE := hE.trans (Below.mono ew10 hB)
    replace ht := Rep.ext ht ew10
    replace ha := Rep.ext ha ew10
    replace hk := hk.ext ew10
    replace h2 := h2.ext ew10
    replace h5 := h5.ext ew10
    replace hlow := hlow.ext ew10
    replace hB := Nat.le_trans hB ew10.size
    refine l_p 2 tbOk rfl (q1 ?_)
    refine c_ifB _ rfl (fun c10 => ?_) (fun c10 => ?_)
    · refine q0 (l_p 1 tbOk rfl (q1 (c_ret (x_seqR (x_ret1 rfl rfl ?_)))))
      exact ⟨by rw [rightT_eq]; clear ih; unfold headT armsB; simp_all <;> intros <;> omega, hE⟩
    refine c_skip ?_
    exact x_cut (b5) (s3 rfl rfl rfl) ⟨by clear ih; simp_all [armsB], h2, h5, hk, hlow, hE, hB⟩
  clear ht ha h2 hk hlow hE hB
  rintro b5 w40 ⟨⟨H1, H2, H3, H4, H5⟩, h2, h5, hk, hlow, hE, hB⟩
  refine c_cut (X := Nat) (fun b5 => [(1, .bool arms), (2, .pointer (some ⟨b2, 0, none⟩)), (5, .pointer (some ⟨b5, 0, none⟩))]) (fun b5 w' => ((shp t.op).2.2.2.2 = true ∧ (arms == armsB t.op) = true ∧ numberB t.op t.n = true ∧ notedB t.has t.ann (shp t.op).2.2.2.1 = true ∧ namedB t.arg (shp t.op).2.1 = true ∧ (bif decide (t.op = 40) then signB t.name else namedB t.name (shp t.op).1) = true) ∧ At M w' b2 0 [.int .u8 t.op, .string t.name, .string t.arg, .int .i64 t.n, .bool t.has, .int .u8 t.ann.op, .string t.ann.name, .int .i64 t.ann.n, akv, kv] ∧ At M w' b5 0 [.bool (shp t.op).1, .bool (shp t.op).2.1, .int .i64 (shp t.op).2.2.1, .int .i64 (shp t.op).2.2.2.1] ∧ Sl M w' kv t.kids ∧ Low M w' ∧ Below w.heap.size w w' ∧ w.heap.size ≤ w'.heap.size) ?_ ?_
  · refine q0 (l_p 1 tbOk rfl ?_)
    refine l_cons (o_ld tbOk (h2.cell 0 _ rfl) rfl rfl rfl rfl rfl ?_)
    refine l_p 1 tbOk rfl (q1 ?_)
    refine c_ifP _ rfl (fun c11 => ?_) (fun c11 => ?_)
    · refine q0 (l_p 1 tbOk rfl ?_)
      refine l_cons (o_ld tbOk (h2.cell 1 _ rfl) rfl rfl rfl rfl rfl ?_)
      refine l_cons (o_call fo123 rfl rfl rfl (sign_spec _ _) ?_)
      rintro _ _ ⟨rfl, rfl⟩
      refine l_p 1 tbOk rfl (q1 ?_)
      refine c_ifB _ rfl (fun c12 => ?_) (fun c12 => ?_)
      · refine q0 (l_p 1 tbOk rfl (q1 (c_ret (x_seqR (x_ret1 rfl rfl ?_)))))
        exact ⟨by rw [rightT_eq]; clear ih; unfold headT armsB; simp_all <;> intros <;> omega, hE⟩
      refine c_skip ?_
      exact x_cut (b5) (s3 rfl rfl rfl) ⟨by clear ih; simp_all, h2, h5, hk, hlow, hE, hB⟩
    refine q0 (l_p 1 tbOk rfl ?_)
    refine l_cons (o_ld tbOk (h2.cell 1 _ rfl) rfl rfl rfl rfl rfl ?_)
    refine l_p 1 tbOk rfl ?_
    refine l_cons (o_ld tbOk (h5.cell 0 _ rfl) rfl rfl rfl rfl rfl ?_)
    refine l_cons (o_call fo122 rfl rfl rfl (named_spec _ _ _ (by first | exact nm | exact ag)) ?_)
    rintro _ w11 ⟨rfl, ew11⟩
    replace hE := hE.trans (Below.mono ew11 hB)
    replace h2 := h2.ext ew11
    replace h5 := h5.ext ew11
    replace hk := hk.ext ew11
    replace hlow := hlow.ext ew11
    replace hB := Nat.le_trans hB ew11.size
    refine l_p 1 tbOk rfl (q1 ?_)
    refine c_ifB _ rfl (fun c13 => ?_) (fun c13 => ?_)
    · refine q0 (l_p 1 tbOk rfl (q1 (c_ret (x_seqR (x_ret1 rfl rfl ?_)))))
      exact ⟨by rw [rightT_eq]; clear ih; unfold headT armsB; simp_all <;> intros <;> omega, hE⟩
    refine c_skip ?_
    exact x_cut (b5) (s3 rfl rfl rfl) ⟨by clear ih; simp_all, h2, h5, hk, hlow, hE, hB⟩
  clear h2 h5 hk hlow hE hB
  rintro b5 w90 ⟨⟨H1, H2, H3, H4, H5, H6⟩, h2, h5, hk, hlow, hE, hB⟩
  refine c_cut (X := Nat) (fun b5 => [(1, .bool arms), (2, .pointer (some ⟨b2, 0, none⟩)), (5, .pointer (some ⟨b5, 0, none⟩))]) (fun b5 w' => headT t arms = true ∧ At M w' b2 0 [.int .u8 t.op, .string t.name, .string t.arg, .int .i64 t.n, .bool t.has, .int .u8 t.ann.op, .string t.ann.name, .int .i64 t.ann.n, akv, kv] ∧ At M w' b5 0 [.bool (shp t.op).1, .bool (shp t.op).2.1, .int .i64 (shp t.op).2.2.1, .int .i64 (shp t.op).2.2.2.1] ∧ Sl M w' kv t.kids ∧ Low M w' ∧ Below w.heap.size w w' ∧ w.heap.size ≤ w'.heap.size) ?_ ?_
  · refine q0 (l_p 1 tbOk rfl ?_)
    refine l_cons (o_ld tbOk (h5.cell 2 _ rfl) rfl rfl rfl rfl rfl ?_)
    refine l_p 2 tbOk rfl ?_
    refine l_splitP 66 _ rfl (fun c14 => ?_) (fun c14 => ?_)
    · refine l_p 1 tbOk rfl ?_
      refine l_cons (o_ld tbOk (h2.cell 9 _ rfl) rfl rfl rfl rfl rfl ?_)
      refine l_cons (o_len tbOk hk rfl rfl rfl rfl rfl ?_)
      refine l_p 1 tbOk rfl ?_
      refine l_cons (o_ld tbOk (h5.cell 2 _ rfl) rfl rfl rfl rfl rfl ?_)
      refine l_p 3 tbOk rfl ?_
      refine l_splitN 74 _ rfl (fun c15 => ?_) (fun c15 => ?_)
      · refine l_p 10 tbOk rfl (q1 (c_ifT rfl (q0 (l_p 1 tbOk rfl (q1 (c_ret (x_seqR (x_ret1 rfl rfl ?_))))))))
        exact ⟨by rw [rightT_eq]; clear ih; unfold headT armsB; simp_all <;> intros <;> omega, hE⟩
      refine l_p 1 tbOk rfl ?_
      refine l_cons (o_ld tbOk (h5.cell 2 _ rfl) rfl rfl rfl rfl rfl ?_)
      refine l_p 2 tbOk rfl ?_
      refine l_splitP 78 _ rfl (fun c16 => ?_) (fun c16 => ?_)
      · refine l_p 1 tbOk rfl ?_
        refine l_cons (o_ld tbOk (h2.cell 9 _ rfl) rfl rfl rfl rfl rfl ?_)
        refine l_cons (o_len tbOk hk rfl rfl rfl rfl rfl ?_)
        refine l_p 3 tbOk rfl (q1 ?_)
        refine c_ifP _ rfl (fun c17 => ?_) (fun c17 => ?_)
        · refine q0 (l_p 1 tbOk rfl (q1 (c_ret (x_seqR (x_ret1 rfl rfl ?_)))))
          exact ⟨by rw [rightT_eq]; clear ih; unfold headT armsB; simp_all <;> intros <;> omega, hE⟩
        refine c_skip ?_
        exact x_cut (b5) (s3 rfl rfl rfl) ⟨by clear ih; simp_all [headT], h2, h5, hk, hlow, hE, hB⟩
      refine l_p 6 tbOk rfl (q1 (c_ifF rfl (c_skip ?_)))
      exact x_cut (b5) (s3 rfl rfl rfl) ⟨by clear ih; simp_all [headT], h2, h5, hk, hlow, hE, hB⟩
    refine l_p 9 tbOk rfl ?_
    refine l_cons (o_ld tbOk (h5.cell 2 _ rfl) rfl rfl rfl rfl rfl ?_)
    refine l_p 2 tbOk rfl ?_
    refine l_splitP 78 _ rfl (fun c18 => ?_) (fun c18 => ?_)
    · refine l_p 1 tbOk rfl ?_
      refine l_cons (o_ld tbOk (h2.cell 9 _ rfl) rfl rfl rfl rfl rfl ?_)
      refine l_cons (o_len tbOk hk rfl rfl rfl rfl rfl ?_)
      refine l_p 3 tbOk rfl (q1 ?_)
      refine c_ifP _ rfl (fun c19 => ?_) (fun c19 => ?_)
      · refine q0 (l_p 1 tbOk rfl (q1 (c_ret (x_seqR (x_ret1 rfl rfl ?_)))))
        exact ⟨by rw [rightT_eq]; clear ih; unfold headT armsB; simp_all <;> intros <;> omega, hE⟩
      refine c_skip ?_
      exact x_cut (b5) (s3 rfl rfl rfl) ⟨by clear ih; simp_all [headT], h2, h5, hk, hlow, hE, hB⟩
    refine l_p 6 tbOk rfl (q1 (c_ifF rfl (c_skip ?_)))
    exact x_cut (b5) (s3 rfl rfl rfl) ⟨by clear ih; simp_all [headT], h2, h5, hk, hlow, hE, hB⟩
  clear h2 h5 hk hlow hE hB
  rintro b5 w110 ⟨HH, h2, h5, hk, hlow, hE, hB⟩
  refine c_seq (q0 (l_p 1 tbOk rfl ?_))
  refine l_cons (o_ld tbOk (h2.cell 9 _ rfl) rfl rfl rfl rfl rfl ?_)
  refine l_cons (o_len tbOk hk rfl rfl rfl rfl rfl ?_)
  refine l_p 1 tbOk rfl (q1 (c_blk ?_))
  refine c_loop (X := Nat) (fun i => [(1, .bool arms), (2, .pointer (some ⟨b2, 0, none⟩)), (86, kv), (87, .int .i64 (t.kids.length : Int)), (88, .int .i64 (i : Nat))]) (fun i w' => i ≤ t.kids.length ∧ rightT t arms = kidsT t.op i (kidL (t.kids.drop i)) ∧ At M w' b2 0 [.int .u8 t.op, .string t.name, .string t.arg, .int .i64 t.n, .bool t.has, .int .u8 t.ann.op, .string t.ann.name, .int .i64 t.ann.n, akv, kv] ∧ Sl M w' kv t.kids ∧ Low M w' ∧ Below w.heap.size w w' ∧ w.heap.size ≤ w'.heap.size) (fun i => t.kids.length - i) (0) (s5 rfl rfl rfl rfl rfl) ?_ ?_
  · exact ⟨Nat.zero_le _, by rw [rightT_eq, HH]; rfl, h2, hk, hlow, hE, hB⟩
  rintro i w12 ⟨hi, hinv, h2, hk, hlow, hE, hB⟩
  refine q0 (l_p 1 tbOk rfl (q1 (c_seq ?_)))
  refine c_ifP _ rfl (fun c20 => ?_) (fun c20 => ?_)
  · refine c_skip (x_seq (c_seq (c_blk (q0 (l_p 1 tbOk rfl ?_)))))
    have hik : i < t.kids.length := by omega
    have hlast : decide ((i : Int) = (t.kids.length : Int) - 1) = decide (i + 1 = t.kids.length) := by rw [decide_eq_decide]; omega
    refine l_cons (o_ixS tbOk hk (List.getElem?_eq_getElem hik) rfl rfl rfl rfl rfl rfl rfl rfl rfl ?_)
    intro ebx eox eux hyx hatx
    obtain ⟨akvx, kvx, rfl, opx, nmx, agx, n64x, hax, hkx⟩ := tm_open hyx
    replace hatx : At M w12 ebx eox [.int .u8 t.kids[i].op, .string t.kids[i].name, .string t.kids[i].arg, .int .i64 t.kids[i].n, .bool t.kids[i].has, .int .u8 t.kids[i].ann.op, .string t.kids[i].ann.name, .int .i64 t.kids[i].ann.n, akvx, kvx] := hatx
    refine l_cons (o_lds tbOk (fun j v hv => hatx.cell j v hv) rfl rfl rfl rfl rfl rfl ?_)
    refine l_cons (o_new tbOk rfl rfl rfl ?_)
    intro b8 w13 qb8 ew13 hb8
    have nb8 := nM_of hlow qb8
    refine l_p 1 tbOk rfl ?_
    refine l_cons (o_st tbOk hb8 rfl rfl rfl rfl (Rep.one hyx) rfl rfl ?_)
    intro w14 h8 uw14 bew14
    have ew14 : Ext w12 w14 := ew13.trans (bew14 _ (Nat.le_of_eq qb8.symm))
    replace hE := hE.trans (Below.mono ew14 hB)
    replace h2 := h2.ext ew14
    replace hk := hk.ext ew14
    replace hyx := Rep.ext hyx ew14
    replace hax := Rep.ext hax ew14
    replace hkx := hkx.ext ew14
    replace hatx := hatx.ext ew14
    replace hlow := hlow.ext ew14
    replace hB := Nat.le_trans hB ew14.size
    replace h8 : Box w14 b8 84 [.int .u8 t.kids[i].op, .string t.kids[i].name, .string t.kids[i].arg, .int .i64 t.kids[i].n, .bool t.kids[i].has, .int .u8 t.kids[i].ann.op, .string t.kids[i].ann.name, .int .i64 t.kids[i].ann.n, akvx, kvx] := h8
    replace h8 := h8.at nb8
    refine q1 (q0 (l_p 1 tbOk rfl ?_))
    refine l_cons (o_ld tbOk (h2.cell 0 _ rfl) rfl rfl rfl rfl rfl ?_)
    refine l_p 2 tbOk rfl ?_
    refine l_splitP 96 _ rfl (fun c21 => ?_) (fun c21 => ?_)
    · refine l_p 4 tbOk rfl (q1 (q0 (l_p 2 tbOk rfl ?_)))
      refine l_splitP 101 _ rfl (fun c22 => ?_) (fun c22 => ?_)
      · refine l_p 1 tbOk rfl ?_
        refine l_cons (o_ld tbOk (h8.cell 0 _ rfl) rfl rfl rfl rfl rfl ?_)
        refine l_p 2 tbOk rfl ?_
        refine l_cons (o_ld tbOk (h2.cell 9 _ rfl) rfl rfl rfl rfl rfl ?_)
        refine l_cons (o_len tbOk hk rfl rfl rfl rfl rfl ?_)
        refine l_cons (o_ar rfl rfl rfl (IntWalk.i64_in _ (by omega)) rfl rfl ?_)
        refine l_p 1 tbOk rfl ?_
        refine l_cons (o_call fo124 rfl rfl rfl (arm_spec _ _ _) ?_)
        rintro _ _ ⟨rfl, rfl⟩
        rw [hlast]
        refine l_p 3 tbOk rfl ?_
        refine l_splitB 113 _ rfl (fun c23 => ?_) (fun c23 => ?_)
        · refine l_p 5 tbOk rfl (q1 (c_ifT rfl (q0 (l_p 1 tbOk rfl (q1 (c_ret (x_blkR (x_seqR (x_seqR (x_blkR (x_seqR (x_ret1 rfl rfl ?_))))))))))))
          exact ⟨by rw [hinv, kidsT_step hik]; clear ih; unfold innerB; simp_all, hE⟩
        refine l_cons (o_lds tbOk (fun j v hv => h8.cell j v hv) rfl rfl rfl rfl rfl rfl ?_)
        refine l_p 1 tbOk rfl ?_
        refine l_cons (o_call fo106 rfl rfl rfl (ih _ (List.getElem_mem hik) _ M _ _ hyx hlow (hz.kid (List.getElem_mem hik))) ?_)
        rintro _ w15 ⟨rfl, ew15⟩
        replace hE := hE.trans (Below.mono ew15 hB)
        replace h2 := h2.ext ew15
        replace hk := hk.ext ew15
        replace hyx := Rep.ext hyx ew15
        replace hax := Rep.ext hax ew15
        replace hkx := hkx.ext ew15
        replace hatx := hatx.ext ew15
        replace h8 := h8.ext ew15
        replace hlow := hlow.ext ew15
        replace hB := Nat.le_trans hB ew15.size
        refine l_p 2 tbOk rfl (q1 ?_)
        refine c_ifB _ rfl (fun c24 => ?_) (fun c24 => ?_)
        · refine q0 (l_p 1 tbOk rfl (q1 (c_ret (x_blkR (x_seqR (x_seqR (x_blkR (x_seqR (x_ret1 rfl rfl ?_)))))))))
          exact ⟨by rw [hinv, kidsT_step hik]; clear ih; unfold innerB; simp_all, hE⟩
        refine c_skip (x_blk (x_seq (c_reg ?_)))
        refine l_cons (o_ar rfl rfl rfl (IntWalk.i64_in _ (by omega)) rfl rfl ?_)
        refine l_p 1 tbOk rfl (l_nil ?_)
        exact x_round (i + 1) (s5 rfl rfl rfl rfl (get_num rfl (by omega))) ⟨by omega, by rw [hinv, kidsT_step hik]; clear ih; unfold innerB; simp_all, h2, hk, hlow, hE, hB⟩ (by omega)
      refine l_p 12 tbOk rfl ?_
      refine l_cons (o_lds tbOk (fun j v hv => h8.cell j v hv) rfl rfl rfl rfl rfl rfl ?_)
      refine l_p 1 tbOk rfl ?_
      refine l_cons (o_call fo106 rfl rfl rfl (ih _ (List.getElem_mem hik) _ M _ _ hyx hlow (hz.kid (List.getElem_mem hik))) ?_)
      rintro _ w16 ⟨rfl, ew16⟩
      replace hE := hE.trans (Below.mono ew16 hB)
      replace h2 := h2.ext ew16
      replace hk := hk.ext ew16
      replace hyx := Rep.ext hyx ew16
      replace hax := Rep.ext hax ew16
      replace hkx := hkx.ext ew16
      replace hatx := hatx.ext ew16
      replace h8 := h8.ext ew16
      replace hlow := hlow.ext ew16
      replace hB := Nat.le_trans hB ew16.size
      refine l_p 2 tbOk rfl (q1 ?_)
      refine c_ifB _ rfl (fun c25 => ?_) (fun c25 => ?_)
      · refine q0 (l_p 1 tbOk rfl (q1 (c_ret (x_blkR (x_seqR (x_seqR (x_blkR (x_seqR (x_ret1 rfl rfl ?_)))))))))
        exact ⟨by rw [hinv, kidsT_step hik]; clear ih; unfold innerB; simp_all, hE⟩
      refine c_skip (x_blk (x_seq (c_reg ?_)))
      refine l_cons (o_ar rfl rfl rfl (IntWalk.i64_in _ (by omega)) rfl rfl ?_)
      refine l_p 1 tbOk rfl (l_nil ?_)
      exact x_round (i + 1) (s5 rfl rfl rfl rfl (get_num rfl (by omega))) ⟨by omega, by rw [hinv, kidsT_step hik]; clear ih; unfold innerB; simp_all, h2, hk, hlow, hE, hB⟩ (by omega)
    refine l_p 4 tbOk rfl (q1 (q0 (l_p 14 tbOk rfl ?_)))
    refine l_cons (o_lds tbOk (fun j v hv => h8.cell j v hv) rfl rfl rfl rfl rfl rfl ?_)
    refine l_p 1 tbOk rfl ?_
    refine l_cons (o_call fo106 rfl rfl rfl (ih _ (List.getElem_mem hik) _ M _ _ hyx hlow (hz.kid (List.getElem_mem hik))) ?_)
    rintro _ w17 ⟨rfl, ew17⟩
    replace hE := hE.trans (Below.mono ew17 hB)
    replace h2 := h2.ext ew17
    replace hk := hk.ext ew17
    replace hyx := Rep.ext hyx ew17
    replace hax := Rep.ext hax ew17
    replace hkx := hkx.ext ew17
    replace hatx := hatx.ext ew17
    replace h8 := h8.ext ew17
    replace hlow := hlow.ext ew17
    replace hB := Nat.le_trans hB ew17.size
    refine l_p 2 tbOk rfl (q1 ?_)
    refine c_ifB _ rfl (fun c26 => ?_) (fun c26 => ?_)
    · refine q0 (l_p 1 tbOk rfl (q1 (c_ret (x_blkR (x_seqR (x_seqR (x_blkR (x_seqR (x_ret1 rfl rfl ?_)))))))))
      exact ⟨by rw [hinv, kidsT_step hik]; clear ih; unfold innerB; simp_all, hE⟩
    refine c_skip (x_blk (x_seq (c_reg ?_)))
    refine l_cons (o_ar rfl rfl rfl (IntWalk.i64_in _ (by omega)) rfl rfl ?_)
    refine l_p 1 tbOk rfl (l_nil ?_)
    exact x_round (i + 1) (s5 rfl rfl rfl rfl (get_num rfl (by omega))) ⟨by omega, by rw [hinv, kidsT_step hik]; clear ih; unfold innerB; simp_all, h2, hk, hlow, hE, hB⟩ (by omega)
  refine c_exit (x_seqE (x_seqE (x_blkE (x_seq (q0 (l_p 1 tbOk rfl (q1 (c_ret (x_ret1 rfl rfl ?_)))))))))
  exact ⟨by rw [hinv, kidsT_end (by omega)], hE⟩

/-- Right: is it an expression? -/
theorem tRight_spec (t : Tm) (M : Nat → Prop) (w : World) (v : Value) (ht : Rep.R M w v t) (hlow : Low M w) (hz : AnnS t) :
    Calls Try.prog 76 #[v] w (Ret fun r w' => r = .bool (rightT t false) ∧ Ext w w') := by
  have hE : Below w.heap.size w w := Below.refl _ _
  have hB : w.heap.size ≤ w.heap.size := Nat.le_refl _
  obtain ⟨akv, kv, rfl, op, nm, ag, n64, ha, hk⟩ := tm_open ht
  refine c_enter (n := 5) Try.func76 rfl rfl rfl ?_
  refine q0 ?_
  refine l_cons (o_box rfl rfl rfl ?_)
  intro b1 w1 hb_b1 ew1 h1
  replace h1 : Box _ b1 84 [.int .u8 t.op, .string t.name, .string t.arg, .int .i64 t.n, .bool t.has, .int .u8 t.ann.op, .string t.ann.name, .int .i64 t.ann.n, akv, kv] := h1
  replace h1 := h1.at (nM_of hlow hb_b1)
  replace hE := hE.trans (Below.mono ew1 hB)
  replace ht := Rep.ext ht ew1
  replace ha := Rep.ext ha ew1
  replace hk := hk.ext ew1
  replace hlow := hlow.ext ew1
  replace hB := Nat.le_trans hB ew1.size
  refine l_p 1 tbOk rfl (q1 (q0 ?_))
  refine l_cons (o_lds tbOk (fun j v hv => h1.cell j v hv) rfl rfl rfl rfl rfl rfl ?_)
  refine l_cons (o_call fo106 rfl rfl rfl (tright_spec _ _ _ _ _ ht hlow hz) ?_)
  rintro _ w2 ⟨rfl, ew2⟩
  replace hE := hE.trans (Below.mono ew2 hB)
  replace ht := Rep.ext ht ew2
  replace ha := Rep.ext ha ew2
  replace hk := hk.ext ew2
  replace h1 := h1.ext ew2
  replace hlow := hlow.ext ew2
  replace hB := Nat.le_trans hB ew2.size
  refine l_p 1 tbOk rfl (q1 (c_ret (x_ret1 rfl rfl ?_)))
  exact ⟨rfl, hE⟩

end Go.Proofs.Ytohfnpmehgpphaa
