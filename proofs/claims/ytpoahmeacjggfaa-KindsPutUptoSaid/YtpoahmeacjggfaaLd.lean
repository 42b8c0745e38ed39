/- Walks: the law KindsPut. Printed by wip/walks/kinds16.py. -/
import Derived.Test.YtpoahmeacjggfaaWm
import Derived.Test.YtpoahmeacjggfaaSlh
import Derived.Test.YtpoahmeacjggfaaMore
namespace Go.Proofs.Ytpoahmeacjggfaa
open Go Rw Go.RowKit
set_option maxRecDepth 100000
set_option maxHeartbeats 2000000

/-- KindsPut: true. -/
theorem kindsPut_spec (t s : Ty) (n : Int) (M : Nat → Prop) (w : World) (v u : Value) (ht : Rep.R M w v t) (hs : Rep.R M w u s) (hn : I64 n) (hz : psz t ≤ 2000000) (hzs : psz s ≤ 2000000) (hlow : Low M w) :
    Calls Try.prog 5 #[v, .int .i64 n, u] w (Ret fun r w' => r = .bool true ∧ Ext w w') := by
  have hlow := hlow
  have hB : w.heap.size ≤ w.heap.size := Nat.le_refl _
  have hE : Below w.heap.size w w := Below.refl _ _
  have hsub : ∀ b, M b → M b := fun _ h => h
  obtain ⟨kv, rfl, op, nm, n64, hk⟩ := ty_open ht
  obtain ⟨kvs, rfl, ops, nms, n64s, hks⟩ := ty_open hs
  refine c_enter (n := 93) Try.func5 rfl rfl rfl ?_
  refine q0 ?_
  refine l_cons (o_box rfl rfl rfl ?_)
  intro b3 w1 hb_b3 ew1 h3
  replace h3 : Box _ b3 25 [.int .u8 t.op, .string t.name, .int .i64 t.n, kv] := h3
  replace h3 := h3.at (nM_of hlow hb_b3)
  replace hE := hE.trans (Below.mono ew1 hB)
  replace ht := Rep.ext ht ew1
  replace hk := hk.ext ew1
  replace hs := Rep.ext hs ew1
  replace hks := hks.ext ew1
  replace hlow := hlow.ext ew1
  replace hB := Nat.le_trans hB ew1.size
  refine l_cons (o_box rfl rfl rfl ?_)
  intro b5 w2 hb_b5 ew2 h5
  replace h5 : Box _ b5 25 [.int .u8 s.op, .string s.name, .int .i64 s.n, kvs] := h5
  replace h5 := h5.at (nM_of hlow hb_b5)
  replace hE := hE.trans (Below.mono ew2 hB)
  replace ht := Rep.ext ht ew2
  replace hk := hk.ext ew2
  replace hs := Rep.ext hs ew2
  replace hks := hks.ext ew2
  replace h3 := h3.ext ew2
  replace hlow := hlow.ext ew2
  replace hB := Nat.le_trans hB ew2.size
  refine l_p 1 tbOk rfl (q1 (c_seq (q0 ?_)))
  refine l_cons (o_call fo14 rfl rfl rfl (alive_spec _ _ hlow) ?_)
  rintro _ w3 ⟨rfl, ew3⟩
  replace hE := hE.trans (Below.mono ew3 hB)
  replace ht := Rep.ext ht ew3
  replace hk := hk.ext ew3
  replace hs := Rep.ext hs ew3
  replace hks := hks.ext ew3
  replace h3 := h3.ext ew3
  replace h5 := h5.ext ew3
  replace hlow := hlow.ext ew3
  replace hB := Nat.le_trans hB ew3.size
  refine l_p 1 tbOk rfl (q1 ?_)
  refine c_ifB _ rfl (fun c1 => ?_) (fun c1 => ?_)
  · exact absurd c1 (by simp)
  refine c_skip (x_seq (c_seq (q0 ?_)))
  refine l_cons (o_lds tbOk (fun j v hv => h3.cell j v hv) rfl rfl rfl rfl rfl rfl ?_)
  refine l_cons (o_call fo15 rfl rfl rfl (many_spec t _ _ _ ht hlow hz) ?_)
  rintro _ w4 ⟨rfl, ew4⟩
  replace hE := hE.trans (Below.mono ew4 hB)
  replace ht := Rep.ext ht ew4
  replace hk := hk.ext ew4
  replace hs := Rep.ext hs ew4
  replace hks := hks.ext ew4
  replace h3 := h3.ext ew4
  replace h5 := h5.ext ew4
  replace hlow := hlow.ext ew4
  replace hB := Nat.le_trans hB ew4.size
  refine l_p 1 tbOk rfl ?_
  refine l_split 15 _ rfl (fun c2 => ?_) (fun c2 => ?_)
  · refine l_p 3 tbOk rfl (q1 (c_ifT rfl (q0 (l_p 1 tbOk rfl (q1 (c_ret (x_seqR (x_ret1 rfl rfl ?_))))))))
    exact ⟨by first | rfl | rw [cl_true rfl] | simp_all, hE⟩
  refine l_cons (o_lds tbOk (fun j v hv => h5.cell j v hv) rfl rfl rfl rfl rfl rfl ?_)
  refine l_cons (o_call fo15 rfl rfl rfl (many_spec s _ _ _ hs hlow hzs) ?_)
  rintro _ w5 ⟨rfl, ew5⟩
  replace hE := hE.trans (Below.mono ew5 hB)
  replace ht := Rep.ext ht ew5
  replace hk := hk.ext ew5
  replace hs := Rep.ext hs ew5
  replace hks := hks.ext ew5
  replace h3 := h3.ext ew5
  replace h5 := h5.ext ew5
  replace hlow := hlow.ext ew5
  replace hB := Nat.le_trans hB ew5.size
  refine l_p 1 tbOk rfl (q1 ?_)
  refine c_if _ rfl (fun c3 => ?_) (fun c3 => ?_)
  · refine q0 (l_p 1 tbOk rfl (q1 (c_ret (x_seqR (x_ret1 rfl rfl ?_)))))
    exact ⟨by first | rfl | rw [cl_true rfl] | simp_all, hE⟩
  refine c_skip (x_seq (q0 ?_))
  refine l_cons (o_lds tbOk (fun j v hv => h3.cell j v hv) rfl rfl rfl rfl rfl rfl ?_)
  refine l_p 1 tbOk rfl ?_
  refine l_cons (o_lds tbOk (fun j v hv => h5.cell j v hv) rfl rfl rfl rfl rfl rfl ?_)
  refine l_cons (o_call fo28 rfl rfl rfl (Put_own t s n _ _ _ _ ht hs hlow hz hzs) ?_)
  rintro vx w6 ⟨hx, ew6⟩
  replace hx := hx.repNew hlow
  replace hE := hE.trans (Below.mono ew6 hB)
  replace ht := Rep.ext ht ew6
  replace hk := hk.ext ew6
  replace hs := Rep.ext hs ew6
  replace hks := hks.ext ew6
  replace h3 := h3.ext ew6
  replace h5 := h5.ext ew6
  replace hlow := hlow.ext ew6
  replace hB := Nat.le_trans hB ew6.size
  obtain ⟨kvx, rfl, opx, nmx, n64x, hkx⟩ := ty_open hx
  refine l_cons (o_new tbOk rfl rfl rfl ?_)
  intro b7 w7 qb7 ew7 hb7
  have nb7 := nM_of hlow qb7
  refine l_cons (o_st tbOk hb7 rfl rfl rfl rfl (Rep.one hx) rfl rfl ?_)
  intro w8 h7 uw8 bew8
  have ew8 : Ext w6 w8 := ew7.trans (bew8 _ (Nat.le_of_eq qb7.symm))
  replace hE := hE.trans (Below.mono ew8 hB)
  replace ht := Rep.ext ht ew8
  replace hk := hk.ext ew8
  replace hs := Rep.ext hs ew8
  replace hks := hks.ext ew8
  replace h3 := h3.ext ew8
  replace h5 := h5.ext ew8
  replace hx := Rep.ext hx ew8
  replace hlow := hlow.ext ew8
  replace hB := Nat.le_trans hB ew8.size
  replace h7 : Box w8 b7 25 [.int .u8 (PutF t n s).op, .string (PutF t n s).name, .int .i64 (PutF t n s).n, kvx] := h7
  replace h7 := h7.at nb7
  refine q1 ?_
  refine c_cut (X := Bool) (fun rt => [(1, .int .i64 n), (3, .pointer (some ⟨b3, 0, none⟩)), (5, .pointer (some ⟨b5, 0, none⟩)), (7, .pointer (some ⟨b7, 0, none⟩)), (8, .bool rt)]) (fun rt w' => rt = (rightB t || rowB t) ∧ At M w' b3 0 [.int .u8 t.op, .string t.name, .int .i64 t.n, kv] ∧ At M w' b5 0 [.int .u8 s.op, .string s.name, .int .i64 s.n, kvs] ∧ Rep.R M w' (.agg #[.int .u8 t.op, .string t.name, .int .i64 t.n, kv]) t ∧ Rep.R M w' (.agg #[.int .u8 s.op, .string s.name, .int .i64 s.n, kvs]) s ∧ At M w' b7 0 [.int .u8 (PutF t n s).op, .string (PutF t n s).name, .int .i64 (PutF t n s).n, kvx] ∧ Rep.R M w' (.agg #[.int .u8 (PutF t n s).op, .string (PutF t n s).name, .int .i64 (PutF t n s).n, kvx]) (PutF t n s) ∧ Low M w' ∧ (∀ b, M b → M b) ∧ Below w.heap.size w w' ∧ w.heap.size ≤ w'.heap.size) ?_ ?_
  · refine c_reg ?_
    refine l_cons (o_lds tbOk (fun j v hv => h3.cell j v hv) rfl rfl rfl rfl rfl rfl ?_)
    refine l_cons (o_call fo17 rfl rfl rfl (refRight_spec t _ _ _ ht hlow hz) ?_)
    rintro _ w9 ⟨rfl, ew9⟩
    replace hE := hE.trans (Below.mono ew9 hB)
    replace ht := Rep.ext ht ew9
    replace hk := hk.ext ew9
    replace hs := Rep.ext hs ew9
    replace hks := hks.ext ew9
    replace h3 := h3.ext ew9
    replace h5 := h5.ext ew9
    replace hx := Rep.ext hx ew9
    replace h7 := h7.ext ew9
    replace hlow := hlow.ext ew9
    replace hB := Nat.le_trans hB ew9.size
    refine l_p 1 tbOk rfl ?_
    refine l_split 25 _ rfl (fun c4 => ?_) (fun c4 => ?_)
    · refine l_p 4 tbOk rfl (l_nil ?_)
      have hrt : true = (rightB t || rowB t) := by simp [*]
      exact x_cut (true) (s5 rfl rfl rfl rfl rfl) ⟨hrt, h3, h5, ht, hs, h7, hx, hlow, hsub, hE, hB⟩
    refine l_cons (o_lds tbOk (fun j v hv => h3.cell j v hv) rfl rfl rfl rfl rfl rfl ?_)
    refine l_cons (o_call fo19 rfl rfl rfl (refRow_spec t _ _ _ ht hlow hz) ?_)
    rintro _ w10 ⟨rfl, ew10⟩
    replace hE := hE.trans (Below.mono ew10 hB)
    replace ht := Rep.ext ht ew10
    replace hk := hk.ext ew10
    replace hs := Rep.ext hs ew10
    replace hks := hks.ext ew10
    replace h3 := h3.ext ew10
    replace h5 := h5.ext ew10
    replace hx := Rep.ext hx ew10
    replace h7 := h7.ext ew10
    replace hlow := hlow.ext ew10
    replace hB := Nat.le_trans hB ew10.size
    refine l_p 2 tbOk rfl (l_nil ?_)
    have hrt : (rowB t) = (rightB t || rowB t) := by simp [*]
    exact x_cut ((rowB t)) (s5 rfl rfl rfl rfl rfl) ⟨hrt, h3, h5, ht, hs, h7, hx, hlow, hsub, hE, hB⟩
  clear h3 h5 ht hs h7 hx hlow hsub hE hB
  rintro rt w7 ⟨hrt, h3, h5, ht, hs, h7, hx, hlow, hsub, hE, hB⟩
  refine q0 ?_
  refine l_cons (o_lds tbOk (fun j v hv => h3.cell j v hv) rfl rfl rfl rfl rfl rfl ?_)
  refine l_cons (o_new tbOk rfl rfl rfl ?_)
  intro b9 w11 qb9 ew11 hb9
  have sw11 := Stp.add ew11 hlow hB (Nat.le_of_eq qb9.symm) hb9.lt
  have h9 : MB w.heap.size (Rw.Add M b9) w11 b9 25 [.int .u8 0, .string ⟨#[]⟩, .int .i64 0, .slice none 0 0] := MB.mk' hb9 qb9 hB
  replace hE := hE.trans sw11.below
  replace h3 := h3.stp sw11
  replace h5 := h5.stp sw11
  replace ht := Rep.stp ht sw11
  replace hs := Rep.stp hs sw11
  replace h7 := h7.stp sw11
  replace hx := Rep.stp hx sw11
  replace hsub := fun b h => sw11.sub b (hsub b h)
  replace hlow := sw11.low
  replace hB := Nat.le_trans hB sw11.upd.1
  refine l_cons (o_st tbOk h9.box rfl rfl rfl rfl (Rep.one ht) rfl rfl ?_)
  intro w12 hw12 qw12 bew12
  have uw12 : UpdB _ _ _ := ⟨qw12, bew12⟩
  have sw12 := uw12.stp h9.inM hlow h9.ge
  have frw12 := qw12.2
  replace hE := hE.trans sw12.below
  replace h3 := h3.stp sw12
  replace h5 := h5.stp sw12
  replace ht := Rep.stp ht sw12
  replace hs := Rep.stp hs sw12
  replace h7 := h7.stp sw12
  replace hx := Rep.stp hx sw12
  replace hsub := fun b h => sw12.sub b (hsub b h)
  replace hlow := sw12.low
  replace hB := Nat.le_trans hB sw12.upd.1
  replace h9 : MB w.heap.size _ w12 b9 _ [.int .u8 t.op, .string t.name, .int .i64 t.n, kv] := ⟨hw12, h9.inM, h9.ge⟩
  refine q1 (c_seq (q0 (l_p 2 tbOk rfl ?_)))
  refine l_split 31 _ rfl (fun c5 => ?_) (fun c5 => ?_)
  · refine l_cons (o_lds tbOk (fun j v hv => h5.cell j v hv) rfl rfl rfl rfl rfl rfl ?_)
    refine l_cons (o_call fo17 rfl rfl rfl (refRight_spec s _ _ _ hs hlow hzs) ?_)
    rintro _ w13 ⟨rfl, ew13⟩
    replace h9 := h9.ext hlow hB ew13
    replace hE := hE.trans (Below.mono ew13 hB)
    replace h3 := h3.ext ew13
    replace h5 := h5.ext ew13
    replace ht := Rep.ext ht ew13
    replace hs := Rep.ext hs ew13
    replace h7 := h7.ext ew13
    replace hx := Rep.ext hx ew13
    replace hlow := hlow.ext ew13
    replace hB := Nat.le_trans hB ew13.size
    refine l_p 1 tbOk rfl (q1 ?_)
    refine c_if _ rfl (fun c6 => ?_) (fun c6 => ?_)
    · refine c_reg ?_
      refine l_cons (o_lds tbOk (fun j v hv => h3.cell j v hv) rfl rfl rfl rfl rfl rfl ?_)
      refine l_p 1 tbOk rfl ?_
      refine l_cons (o_lds tbOk (fun j v hv => h5.cell j v hv) rfl rfl rfl rfl rfl rfl ?_)
      refine l_cons (o_call fo29 rfl rfl rfl (refPut_spec t 7 n s _ _ _ _ ht hs hlow hz) ?_)
      rintro vp w14 ⟨hp, ew14⟩
      replace h9 := h9.ext hlow hB ew14
      replace hE := hE.trans (Below.mono ew14 hB)
      replace h3 := h3.ext ew14
      replace h5 := h5.ext ew14
      replace ht := Rep.ext ht ew14
      replace hs := Rep.ext hs ew14
      replace h7 := h7.ext ew14
      replace hx := Rep.ext hx ew14
      replace hlow := hlow.ext ew14
      replace hB := Nat.le_trans hB ew14.size
      obtain ⟨kvp, rfl, opp, nmp, n64p, hkp⟩ := ty_open hp
      refine l_cons (o_st tbOk h9.box rfl rfl rfl rfl (Rep.one hp) rfl rfl ?_)
      intro w15 hw15 qw15 bew15
      have uw15 : UpdB _ _ _ := ⟨qw15, bew15⟩
      have sw15 := uw15.stp h9.inM hlow h9.ge
      have frw15 := qw15.2
      replace hE := hE.trans sw15.below
      replace h3 := h3.stp sw15
      replace h5 := h5.stp sw15
      replace ht := Rep.stp ht sw15
      replace hs := Rep.stp hs sw15
      replace h7 := h7.stp sw15
      replace hx := Rep.stp hx sw15
      replace hp := Rep.stp hp sw15
      replace hsub := fun b h => sw15.sub b (hsub b h)
      replace hlow := sw15.low
      replace hB := Nat.le_trans hB sw15.upd.1
      replace h9 : MB w.heap.size _ w15 b9 _ [.int .u8 (putF 7 n s t).op, .string (putF 7 n s t).name, .int .i64 (putF 7 n s t).n, kvp] := ⟨hw15, h9.inM, h9.ge⟩
      refine q1 ?_
      refine c_cut2 (X := Ty) (Y := Value) (fun y kvy => [(1, .int .i64 n), (3, .pointer (some ⟨b3, 0, none⟩)), (5, .pointer (some ⟨b5, 0, none⟩)), (7, .pointer (some ⟨b7, 0, none⟩)), (9, .pointer (some ⟨b9, 0, none⟩))]) (fun y kvy w' => y = PutF t n s ∧ MB w.heap.size (Rw.Add M b9) w' b9 25 [.int .u8 y.op, .string y.name, .int .i64 y.n, kvy] ∧ Rep.R (Rw.Add M b9) w' (.agg #[.int .u8 y.op, .string y.name, .int .i64 y.n, kvy]) y ∧ At (Rw.Add M b9) w' b3 0 [.int .u8 t.op, .string t.name, .int .i64 t.n, kv] ∧ At (Rw.Add M b9) w' b5 0 [.int .u8 s.op, .string s.name, .int .i64 s.n, kvs] ∧ Rep.R (Rw.Add M b9) w' (.agg #[.int .u8 t.op, .string t.name, .int .i64 t.n, kv]) t ∧ Rep.R (Rw.Add M b9) w' (.agg #[.int .u8 s.op, .string s.name, .int .i64 s.n, kvs]) s ∧ At (Rw.Add M b9) w' b7 0 [.int .u8 (PutF t n s).op, .string (PutF t n s).name, .int .i64 (PutF t n s).n, kvx] ∧ Rep.R (Rw.Add M b9) w' (.agg #[.int .u8 (PutF t n s).op, .string (PutF t n s).name, .int .i64 (PutF t n s).n, kvx]) (PutF t n s) ∧ Low (Rw.Add M b9) w' ∧ (∀ b, M b → (Rw.Add M b9) b) ∧ Below w.heap.size w w' ∧ w.heap.size ≤ w'.heap.size) ?_ ?_
      · refine q0 (l_p 2 tbOk rfl ?_)
        refine l_split 40 _ rfl (fun c7 => ?_) (fun c7 => ?_)
        · refine l_cons (o_lds tbOk (fun j v hv => h5.cell j v hv) rfl rfl rfl rfl rfl rfl ?_)
          refine l_cons (o_call fo19 rfl rfl rfl (refRow_spec s _ _ _ hs hlow hzs) ?_)
          rintro _ w16 ⟨rfl, ew16⟩
          replace h9 := h9.ext hlow hB ew16
          replace hE := hE.trans (Below.mono ew16 hB)
          replace h3 := h3.ext ew16
          replace h5 := h5.ext ew16
          replace ht := Rep.ext ht ew16
          replace hs := Rep.ext hs ew16
          replace h7 := h7.ext ew16
          replace hx := Rep.ext hx ew16
          replace hp := Rep.ext hp ew16
          replace hlow := hlow.ext ew16
          replace hB := Nat.le_trans hB ew16.size
          refine l_p 1 tbOk rfl (q1 ?_)
          refine c_if _ rfl (fun c8 => ?_) (fun c8 => ?_)
          · refine c_reg ?_
            refine l_cons (o_lds tbOk (fun j v hv => h3.cell j v hv) rfl rfl rfl rfl rfl rfl ?_)
            refine l_p 1 tbOk rfl ?_
            refine l_cons (o_lds tbOk (fun j v hv => h5.cell j v hv) rfl rfl rfl rfl rfl rfl ?_)
            refine l_cons (o_call fo29 rfl rfl rfl (refPut_spec t 10 n s _ _ _ _ ht hs hlow hz) ?_)
            rintro vp w17 ⟨hp, ew17⟩
            replace h9 := h9.ext hlow hB ew17
            replace hE := hE.trans (Below.mono ew17 hB)
            replace h3 := h3.ext ew17
            replace h5 := h5.ext ew17
            replace ht := Rep.ext ht ew17
            replace hs := Rep.ext hs ew17
            replace h7 := h7.ext ew17
            replace hx := Rep.ext hx ew17
            replace hlow := hlow.ext ew17
            replace hB := Nat.le_trans hB ew17.size
            obtain ⟨kvp, rfl, opp, nmp, n64p, hkp⟩ := ty_open hp
            refine l_cons (o_st tbOk h9.box rfl rfl rfl rfl (Rep.one hp) rfl rfl ?_)
            intro w18 hw18 qw18 bew18
            have uw18 : UpdB _ _ _ := ⟨qw18, bew18⟩
            have sw18 := uw18.stp h9.inM hlow h9.ge
            have frw18 := qw18.2
            replace hE := hE.trans sw18.below
            replace h3 := h3.stp sw18
            replace h5 := h5.stp sw18
            replace ht := Rep.stp ht sw18
            replace hs := Rep.stp hs sw18
            replace h7 := h7.stp sw18
            replace hx := Rep.stp hx sw18
            replace hp := Rep.stp hp sw18
            replace hsub := fun b h => sw18.sub b (hsub b h)
            replace hlow := sw18.low
            replace hB := Nat.le_trans hB sw18.upd.1
            replace h9 : MB w.heap.size _ w18 b9 _ [.int .u8 (putF 10 n s t).op, .string (putF 10 n s t).name, .int .i64 (putF 10 n s t).n, kvp] := ⟨hw18, h9.inM, h9.ge⟩
            refine l_nil ?_
            have hy : (putF 10 n s t) = PutF t n s := by unfold PutF; rw [← hrt]; clear hrt; simp [varOp, *]
            exact x_cut2 ((putF 10 n s t)) (kvp) (s5 rfl rfl rfl rfl rfl) ⟨hy, h9, hp, h3, h5, ht, hs, h7, hx, hlow, hsub, hE, hB⟩
          refine c_skip ?_
          have hy : (putF 7 n s t) = PutF t n s := by unfold PutF; rw [← hrt]; clear hrt; simp [varOp, *]
          exact x_cut2 ((putF 7 n s t)) (kvp) (s5 rfl rfl rfl rfl rfl) ⟨hy, h9, hp, h3, h5, ht, hs, h7, hx, hlow, hsub, hE, hB⟩
        exact absurd (c5.symm.trans c7) (by decide)
      clear h3 h5 ht hs h7 hx hlow hsub hE hB h9
      rintro y kvy w12 ⟨hy, h9, hyy, h3, h5, ht, hs, h7, hx, hlow, hsub, hE, hB⟩
      subst hy
      refine q0 ?_
      refine l_cons (o_lds tbOk (fun j v hv => h3.cell j v hv) rfl rfl rfl rfl rfl rfl ?_)
      refine l_cons (o_lds tbOk (fun j v hv => h5.cell j v hv) rfl rfl rfl rfl rfl rfl ?_)
      refine l_cons (o_bs tbOk rfl rfl rfl rfl rfl rfl rfl (sz2 rfl rfl) rfl rfl rfl ?_)
      intro bw19 w19 qbw19 ew19 hbw19
      have nbw19 := nM_of hlow qbw19
      replace h9 := h9.ext hlow hB ew19
      replace hE := hE.trans (Below.mono ew19 hB)
      replace h3 := h3.ext ew19
      replace h5 := h5.ext ew19
      replace ht := Rep.ext ht ew19
      replace hs := Rep.ext hs ew19
      replace h7 := h7.ext ew19
      replace hx := Rep.ext hx ew19
      replace hyy := Rep.ext hyy ew19
      replace hlow := hlow.ext ew19
      replace hB := Nat.le_trans hB ew19.size
      have htwo := lit_sl (l := [t, s]) hbw19 nbw19 (show Rs _ _ [_, _] [t, s] from ⟨ht, hs, trivial⟩) (by simp)
      refine l_p 1 tbOk rfl (q1 (c_seq ?_))
      refine a_beg Ext rfl ?_
      intro w20 ew20
      replace h9 := h9.ext hlow hB ew20
      replace hE := hE.trans (Below.mono ew20 hB)
      replace h3 := h3.ext ew20
      replace h5 := h5.ext ew20
      replace ht := Rep.ext ht ew20
      replace hs := Rep.ext hs ew20
      replace h7 := h7.ext ew20
      replace hx := Rep.ext hx ew20
      replace hyy := Rep.ext hyy ew20
      replace htwo := htwo.ext ew20
      replace hlow := hlow.ext ew20
      replace hB := Nat.le_trans hB ew20.size
      have hS : Ext w20 w20 := ext_refl _
      have D_h3 := h3
      have D_h5 := h5
      have D_h7 := h7
      have D_h9 := h9.box
      have D_htwo := htwo
      refine a_lds 0 tbOk (fun _ hs j v hv => (D_h7.ext hs).cell j v hv) rfl rfl rfl rfl rfl rfl rfl (by kernel_rfl) (fun _ _ _ h => h) hS ?_
      refine a_lds 1 tbOk (fun _ hs j v hv => (D_h9.ext hs).cell j v hv) rfl rfl rfl rfl rfl rfl rfl (by kernel_rfl) (fun _ _ _ h => h) hS ?_
      refine a_bar 2 rfl (by kernel_rfl) (by kernel_rfl) (o_call fo22 rfl rfl rfl (alike_spec _ _ _ _ _ _ hx hyy hlow) ?_)
      rintro _ w21 ⟨rfl, ew21⟩
      replace hS := hS.then ew21
      replace h9 := h9.ext hlow hB ew21
      replace hE := hE.trans (Below.mono ew21 hB)
      replace h3 := h3.ext ew21
      replace h5 := h5.ext ew21
      replace ht := Rep.ext ht ew21
      replace hs := Rep.ext hs ew21
      replace h7 := h7.ext ew21
      replace hx := Rep.ext hx ew21
      replace hyy := Rep.ext hyy ew21
      replace htwo := htwo.ext ew21
      replace hlow := hlow.ext ew21
      replace hB := Nat.le_trans hB ew21.size
      refine a_p 3 tbOk rfl rfl rfl rfl (by kernel_rfl) (fun _ _ _ h => h) hS ?_
      refine a_split 54 _ rfl (fun c9 => ?_) (fun c9 => ?_)
      · refine a_lds 4 tbOk (fun _ hs j v hv => (D_h3.ext hs).cell j v hv) rfl rfl rfl rfl rfl rfl rfl (by kernel_rfl) (fun _ _ _ h => h) hS ?_
        refine a_lds 5 tbOk (fun _ hs j v hv => (D_h5.ext hs).cell j v hv) rfl rfl rfl rfl rfl rfl rfl (by kernel_rfl) (fun _ _ _ h => h) hS ?_
        refine a_p 7 tbOk rfl rfl rfl rfl (by kernel_rfl) (fun _ _ _ h => h) hS ?_
        refine a_build (cells := [.int .u8 4, .string ⟨#[]⟩, .int .i64 0, .slice (some ⟨bw19, 0, none⟩) 2 2]) (css := [[.int .u8 4], [.slice (some ⟨bw19, 0, none⟩) 2 2]]) 8 bd25 rfl rfl rfl rfl rfl rfl (by kernel_rfl) (fun _ _ _ h => h) hS ?_
        have hb4_ : Rep.R (Rw.Add M b9) w21 (.agg #[.int .u8 4, .string ⟨#[]⟩, .int .i64 0, .slice (some ⟨bw19, 0, none⟩) 2 2]) (Ty.mk 4 ⟨#[]⟩ 0 [t, s]) := ty_mk (by decide) (by decide) ⟨by decide, by decide⟩ htwo
        refine a_one 6 rfl (by kernel_rfl) (o_call fo30 rfl rfl rfl (fun_own t s _ _ _ _ ht hs hlow hz hzs) ?_)
        rintro vhm0 w22 ⟨hm0, ew22⟩
        replace hm0 := hm0.repNew hlow
        replace hS := hS.then ew22
        replace h9 := h9.ext hlow hB ew22
        replace hE := hE.trans (Below.mono ew22 hB)
        replace h3 := h3.ext ew22
        replace h5 := h5.ext ew22
        replace ht := Rep.ext ht ew22
        replace hs := Rep.ext hs ew22
        replace h7 := h7.ext ew22
        replace hx := Rep.ext hx ew22
        replace hyy := Rep.ext hyy ew22
        replace htwo := htwo.ext ew22
        replace hb4_ := Rep.ext hb4_ ew22
        replace hlow := hlow.ext ew22
        replace hB := Nat.le_trans hB ew22.size
        refine ⟨hS, ?_⟩
        refine a_bar 9 rfl (by kernel_rfl) (by kernel_rfl) (o_call fo22 rfl rfl rfl (alike_spec _ _ _ _ _ _ hm0 hb4_ hlow) ?_)
        rintro _ w23 ⟨rfl, ew23⟩
        replace hS := hS.then ew23
        replace h9 := h9.ext hlow hB ew23
        replace hE := hE.trans (Below.mono ew23 hB)
        replace h3 := h3.ext ew23
        replace h5 := h5.ext ew23
        replace ht := Rep.ext ht ew23
        replace hs := Rep.ext hs ew23
        replace h7 := h7.ext ew23
        replace hx := Rep.ext hx ew23
        replace hyy := Rep.ext hyy ew23
        replace htwo := htwo.ext ew23
        replace hb4_ := Rep.ext hb4_ ew23
        replace hm0 := Rep.ext hm0 ew23
        replace hlow := hlow.ext ew23
        replace hB := Nat.le_trans hB ew23.size
        refine a_p 10 tbOk rfl rfl rfl rfl (by kernel_rfl) (fun _ _ _ h => h) hS ?_
        refine a_p 11 tbOk rfl rfl rfl rfl (by kernel_rfl) (fun _ _ _ h => h) hS ?_
        refine a_split 62 _ rfl (fun c10 => ?_) (fun c10 => ?_)
        · refine a_lds 12 tbOk (fun _ hs j v hv => (D_h3.ext hs).cell j v hv) rfl rfl rfl rfl rfl rfl rfl (by kernel_rfl) (fun _ _ _ h => h) hS ?_
          refine a_p 14 tbOk rfl rfl rfl rfl (by kernel_rfl) (fun _ _ _ h => h) hS ?_
          refine a_all [13, 15] (by kernel_rfl) rfl (all_cons (i := 13) rfl ?_ (all_cons (i := 15) rfl ?_ all_nil))
          · refine o_call fo31 rfl rfl rfl (rec_own t _ _ _ ht hlow hz) ?_
            rintro vhm1 w24 ⟨hm1, ew24⟩
            replace hm1 := hm1.repNew hlow
            replace hS := hS.then ew24
            replace h9 := h9.ext hlow hB ew24
            replace hE := hE.trans (Below.mono ew24 hB)
            replace h3 := h3.ext ew24
            replace h5 := h5.ext ew24
            replace ht := Rep.ext ht ew24
            replace hs := Rep.ext hs ew24
            replace h7 := h7.ext ew24
            replace hx := Rep.ext hx ew24
            replace hyy := Rep.ext hyy ew24
            replace htwo := htwo.ext ew24
            replace hb4_ := Rep.ext hb4_ ew24
            replace hm0 := Rep.ext hm0 ew24
            replace hlow := hlow.ext ew24
            replace hB := Nat.le_trans hB ew24.size
            refine ⟨hS, ?_⟩
            refine a_one 15 rfl (by kernel_rfl) (o_slh tbOk htwo rfl rfl rfl (j := 1) (by simp) rfl rfl rfl rfl rfl ?_)
            intro vs0 hsl0
            replace hsl0 : Sl _ w24 vs0 [t] := hsl0
            refine ⟨hS, ?_⟩
            refine a_build (cells := [.int .u8 5, .string ⟨#[]⟩, .int .i64 0, vs0]) (css := [[.int .u8 5], [vs0]]) 16 bd25 rfl rfl (by rw [List.map, List.map, List.map, hsl0.cells]; rfl) rfl rfl rfl (by kernel_rfl) (fun _ _ _ h => h) hS ?_
            have hb5_ : Rep.R (Rw.Add M b9) w24 (.agg #[.int .u8 5, .string ⟨#[]⟩, .int .i64 0, vs0]) (Ty.mk 5 ⟨#[]⟩ 0 [t]) := ty_mk (by decide) (by decide) ⟨by decide, by decide⟩ hsl0
            refine a_bar 17 rfl (by kernel_rfl) (by kernel_rfl) (o_call fo22 rfl rfl rfl (alike_spec _ _ _ _ _ _ hm1 hb5_ hlow) ?_)
            rintro _ w25 ⟨rfl, ew25⟩
            replace hS := hS.then ew25
            replace h9 := h9.ext hlow hB ew25
            replace hE := hE.trans (Below.mono ew25 hB)
            replace h3 := h3.ext ew25
            replace h5 := h5.ext ew25
            replace ht := Rep.ext ht ew25
            replace hs := Rep.ext hs ew25
            replace h7 := h7.ext ew25
            replace hx := Rep.ext hx ew25
            replace hyy := Rep.ext hyy ew25
            replace htwo := htwo.ext ew25
            replace hb4_ := Rep.ext hb4_ ew25
            replace hm0 := Rep.ext hm0 ew25
            replace hm1 := Rep.ext hm1 ew25
            replace hsl0 := hsl0.ext ew25
            replace hb5_ := Rep.ext hb5_ ew25
            replace hlow := hlow.ext ew25
            replace hB := Nat.le_trans hB ew25.size
            refine a_p 18 tbOk rfl rfl rfl rfl (by kernel_rfl) (fun _ _ _ h => h) hS ?_
            refine a_p 19 tbOk rfl rfl rfl rfl (by kernel_rfl) (fun _ _ _ h => h) hS ?_
            refine a_split 70 _ rfl (fun c11 => ?_) (fun c11 => ?_)
            · refine a_lds 20 tbOk (fun _ hs j v hv => (D_h3.ext hs).cell j v hv) rfl rfl rfl rfl rfl rfl rfl (by kernel_rfl) (fun _ _ _ h => h) hS ?_
              refine a_p 22 tbOk rfl rfl rfl rfl (by kernel_rfl) (fun _ _ _ h => h) hS ?_
              refine a_all [21, 23] (by kernel_rfl) rfl (all_cons (i := 21) rfl ?_ (all_cons (i := 23) rfl ?_ all_nil))
              · refine o_call fo32 rfl rfl rfl (vnt_own t _ _ _ ht hlow hz) ?_
                rintro vhm2 w26 ⟨hm2, ew26⟩
                replace hm2 := hm2.repNew hlow
                replace hS := hS.then ew26
                replace h9 := h9.ext hlow hB ew26
                replace hE := hE.trans (Below.mono ew26 hB)
                replace h3 := h3.ext ew26
                replace h5 := h5.ext ew26
                replace ht := Rep.ext ht ew26
                replace hs := Rep.ext hs ew26
                replace h7 := h7.ext ew26
                replace hx := Rep.ext hx ew26
                replace hyy := Rep.ext hyy ew26
                replace htwo := htwo.ext ew26
                replace hb4_ := Rep.ext hb4_ ew26
                replace hm0 := Rep.ext hm0 ew26
                replace hm1 := Rep.ext hm1 ew26
                replace hsl0 := hsl0.ext ew26
                replace hb5_ := Rep.ext hb5_ ew26
                replace hlow := hlow.ext ew26
                replace hB := Nat.le_trans hB ew26.size
                refine ⟨hS, ?_⟩
                refine a_one 23 rfl (by kernel_rfl) (o_slh tbOk htwo rfl rfl rfl (j := 1) (by simp) rfl rfl rfl rfl rfl ?_)
                intro vs1 hsl1
                replace hsl1 : Sl _ w26 vs1 [t] := hsl1
                refine ⟨hS, ?_⟩
                refine a_build (cells := [.int .u8 6, .string ⟨#[]⟩, .int .i64 0, vs1]) (css := [[.int .u8 6], [vs1]]) 24 bd25 rfl rfl (by rw [List.map, List.map, List.map, hsl1.cells]; rfl) rfl rfl rfl (by kernel_rfl) (fun _ _ _ h => h) hS ?_
                have hb6_ : Rep.R (Rw.Add M b9) w26 (.agg #[.int .u8 6, .string ⟨#[]⟩, .int .i64 0, vs1]) (Ty.mk 6 ⟨#[]⟩ 0 [t]) := ty_mk (by decide) (by decide) ⟨by decide, by decide⟩ hsl1
                refine a_bar 25 rfl (by kernel_rfl) (by kernel_rfl) (o_call fo22 rfl rfl rfl (alike_spec _ _ _ _ _ _ hm2 hb6_ hlow) ?_)
                rintro _ w27 ⟨rfl, ew27⟩
                replace hS := hS.then ew27
                replace h9 := h9.ext hlow hB ew27
                replace hE := hE.trans (Below.mono ew27 hB)
                replace h3 := h3.ext ew27
                replace h5 := h5.ext ew27
                replace ht := Rep.ext ht ew27
                replace hs := Rep.ext hs ew27
                replace h7 := h7.ext ew27
                replace hx := Rep.ext hx ew27
                replace hyy := Rep.ext hyy ew27
                replace htwo := htwo.ext ew27
                replace hb4_ := Rep.ext hb4_ ew27
                replace hm0 := Rep.ext hm0 ew27
                replace hm1 := Rep.ext hm1 ew27
                replace hsl0 := hsl0.ext ew27
                replace hb5_ := Rep.ext hb5_ ew27
                replace hm2 := Rep.ext hm2 ew27
                replace hsl1 := hsl1.ext ew27
                replace hb6_ := Rep.ext hb6_ ew27
                replace hlow := hlow.ext ew27
                replace hB := Nat.le_trans hB ew27.size
                refine a_p 26 tbOk rfl rfl rfl rfl (by kernel_rfl) (fun _ _ _ h => h) hS ?_
                refine a_p 27 tbOk rfl rfl rfl rfl (by kernel_rfl) (fun _ _ _ h => h) hS ?_
                refine a_split 78 _ rfl (fun c12 => ?_) (fun c12 => ?_)
                · refine a_build (cells := [.int .u8 1, .string ⟨#[]⟩, .int .i64 0, .slice none 0 0]) (css := [[.int .u8 1]]) 29 bd25 rfl rfl rfl rfl rfl rfl (by kernel_rfl) (fun _ _ _ h => h) hS ?_
                  have hb1_ : Rep.R (Rw.Add M b9) w27 (.agg #[.int .u8 1, .string ⟨#[]⟩, .int .i64 0, .slice none 0 0]) (Ty.mk 1 ⟨#[]⟩ 0 []) := ty_mk (by decide) (by decide) ⟨by decide, by decide⟩ sl_nil
                  refine a_one 28 rfl (by kernel_rfl) (o_call fo33 rfl rfl rfl (int_spec _ _ hlow) ?_)
                  rintro vhm3 w28 ⟨hm3, ew28⟩
                  replace hS := hS.then ew28
                  replace h9 := h9.ext hlow hB ew28
                  replace hE := hE.trans (Below.mono ew28 hB)
                  replace h3 := h3.ext ew28
                  replace h5 := h5.ext ew28
                  replace ht := Rep.ext ht ew28
                  replace hs := Rep.ext hs ew28
                  replace h7 := h7.ext ew28
                  replace hx := Rep.ext hx ew28
                  replace hyy := Rep.ext hyy ew28
                  replace htwo := htwo.ext ew28
                  replace hb4_ := Rep.ext hb4_ ew28
                  replace hm0 := Rep.ext hm0 ew28
                  replace hm1 := Rep.ext hm1 ew28
                  replace hsl0 := hsl0.ext ew28
                  replace hb5_ := Rep.ext hb5_ ew28
                  replace hm2 := Rep.ext hm2 ew28
                  replace hsl1 := hsl1.ext ew28
                  replace hb6_ := Rep.ext hb6_ ew28
                  replace hb1_ := Rep.ext hb1_ ew28
                  replace hlow := hlow.ext ew28
                  replace hB := Nat.le_trans hB ew28.size
                  refine ⟨hS, ?_⟩
                  refine a_bar 30 rfl (by kernel_rfl) (by kernel_rfl) (o_call fo22 rfl rfl rfl (alike_spec _ _ _ _ _ _ hm3 hb1_ hlow) ?_)
                  rintro _ w29 ⟨rfl, ew29⟩
                  replace hS := hS.then ew29
                  replace h9 := h9.ext hlow hB ew29
                  replace hE := hE.trans (Below.mono ew29 hB)
                  replace h3 := h3.ext ew29
                  replace h5 := h5.ext ew29
                  replace ht := Rep.ext ht ew29
                  replace hs := Rep.ext hs ew29
                  replace h7 := h7.ext ew29
                  replace hx := Rep.ext hx ew29
                  replace hyy := Rep.ext hyy ew29
                  replace htwo := htwo.ext ew29
                  replace hb4_ := Rep.ext hb4_ ew29
                  replace hm0 := Rep.ext hm0 ew29
                  replace hm1 := Rep.ext hm1 ew29
                  replace hsl0 := hsl0.ext ew29
                  replace hb5_ := Rep.ext hb5_ ew29
                  replace hm2 := Rep.ext hm2 ew29
                  replace hsl1 := hsl1.ext ew29
                  replace hb6_ := Rep.ext hb6_ ew29
                  replace hb1_ := Rep.ext hb1_ ew29
                  replace hm3 := Rep.ext hm3 ew29
                  replace hlow := hlow.ext ew29
                  replace hB := Nat.le_trans hB ew29.size
                  refine a_p 31 tbOk rfl rfl rfl rfl (by kernel_rfl) (fun _ _ _ h => h) hS ?_
                  refine a_p 32 tbOk rfl rfl rfl rfl (by kernel_rfl) (fun _ _ _ h => h) hS ?_
                  refine a_split 83 _ rfl (fun c13 => ?_) (fun c13 => ?_)
                  · refine a_build (cells := [.int .u8 2, .string ⟨#[]⟩, .int .i64 0, .slice none 0 0]) (css := [[.int .u8 2]]) 34 bd25 rfl rfl rfl rfl rfl rfl (by kernel_rfl) (fun _ _ _ h => h) hS ?_
                    have hb2_ : Rep.R (Rw.Add M b9) w29 (.agg #[.int .u8 2, .string ⟨#[]⟩, .int .i64 0, .slice none 0 0]) (Ty.mk 2 ⟨#[]⟩ 0 []) := ty_mk (by decide) (by decide) ⟨by decide, by decide⟩ sl_nil
                    refine a_one 33 rfl (by kernel_rfl) (o_call fo34 rfl rfl rfl (bool_spec _ _ hlow) ?_)
                    rintro vhm4 w30 ⟨hm4, ew30⟩
                    replace hS := hS.then ew30
                    replace h9 := h9.ext hlow hB ew30
                    replace hE := hE.trans (Below.mono ew30 hB)
                    replace h3 := h3.ext ew30
                    replace h5 := h5.ext ew30
                    replace ht := Rep.ext ht ew30
                    replace hs := Rep.ext hs ew30
                    replace h7 := h7.ext ew30
                    replace hx := Rep.ext hx ew30
                    replace hyy := Rep.ext hyy ew30
                    replace htwo := htwo.ext ew30
                    replace hb4_ := Rep.ext hb4_ ew30
                    replace hm0 := Rep.ext hm0 ew30
                    replace hm1 := Rep.ext hm1 ew30
                    replace hsl0 := hsl0.ext ew30
                    replace hb5_ := Rep.ext hb5_ ew30
                    replace hm2 := Rep.ext hm2 ew30
                    replace hsl1 := hsl1.ext ew30
                    replace hb6_ := Rep.ext hb6_ ew30
                    replace hb1_ := Rep.ext hb1_ ew30
                    replace hm3 := Rep.ext hm3 ew30
                    replace hb2_ := Rep.ext hb2_ ew30
                    replace hlow := hlow.ext ew30
                    replace hB := Nat.le_trans hB ew30.size
                    refine ⟨hS, ?_⟩
                    refine a_bar 35 rfl (by kernel_rfl) (by kernel_rfl) (o_call fo22 rfl rfl rfl (alike_spec _ _ _ _ _ _ hm4 hb2_ hlow) ?_)
                    rintro _ w31 ⟨rfl, ew31⟩
                    replace hS := hS.then ew31
                    replace h9 := h9.ext hlow hB ew31
                    replace hE := hE.trans (Below.mono ew31 hB)
                    replace h3 := h3.ext ew31
                    replace h5 := h5.ext ew31
                    replace ht := Rep.ext ht ew31
                    replace hs := Rep.ext hs ew31
                    replace h7 := h7.ext ew31
                    replace hx := Rep.ext hx ew31
                    replace hyy := Rep.ext hyy ew31
                    replace htwo := htwo.ext ew31
                    replace hb4_ := Rep.ext hb4_ ew31
                    replace hm0 := Rep.ext hm0 ew31
                    replace hm1 := Rep.ext hm1 ew31
                    replace hsl0 := hsl0.ext ew31
                    replace hb5_ := Rep.ext hb5_ ew31
                    replace hm2 := Rep.ext hm2 ew31
                    replace hsl1 := hsl1.ext ew31
                    replace hb6_ := Rep.ext hb6_ ew31
                    replace hb1_ := Rep.ext hb1_ ew31
                    replace hm3 := Rep.ext hm3 ew31
                    replace hb2_ := Rep.ext hb2_ ew31
                    replace hm4 := Rep.ext hm4 ew31
                    replace hlow := hlow.ext ew31
                    replace hB := Nat.le_trans hB ew31.size
                    refine a_p 36 tbOk rfl rfl rfl rfl (by kernel_rfl) (fun _ _ _ h => h) hS ?_
                    refine a_p 37 tbOk rfl rfl rfl rfl (by kernel_rfl) (fun _ _ _ h => h) hS ?_
                    refine a_split 88 _ rfl (fun c14 => ?_) (fun c14 => ?_)
                    · refine a_build (cells := [.int .u8 3, .string ⟨#[]⟩, .int .i64 0, .slice none 0 0]) (css := [[.int .u8 3]]) 39 bd25 rfl rfl rfl rfl rfl rfl (by kernel_rfl) (fun _ _ _ h => h) hS ?_
                      have hb3_ : Rep.R (Rw.Add M b9) w31 (.agg #[.int .u8 3, .string ⟨#[]⟩, .int .i64 0, .slice none 0 0]) (Ty.mk 3 ⟨#[]⟩ 0 []) := ty_mk (by decide) (by decide) ⟨by decide, by decide⟩ sl_nil
                      refine a_one 38 rfl (by kernel_rfl) (o_call fo35 rfl rfl rfl (dyn_spec _ _ hlow) ?_)
                      rintro vhm5 w32 ⟨hm5, ew32⟩
                      replace hS := hS.then ew32
                      replace h9 := h9.ext hlow hB ew32
                      replace hE := hE.trans (Below.mono ew32 hB)
                      replace h3 := h3.ext ew32
                      replace h5 := h5.ext ew32
                      replace ht := Rep.ext ht ew32
                      replace hs := Rep.ext hs ew32
                      replace h7 := h7.ext ew32
                      replace hx := Rep.ext hx ew32
                      replace hyy := Rep.ext hyy ew32
                      replace htwo := htwo.ext ew32
                      replace hb4_ := Rep.ext hb4_ ew32
                      replace hm0 := Rep.ext hm0 ew32
                      replace hm1 := Rep.ext hm1 ew32
                      replace hsl0 := hsl0.ext ew32
                      replace hb5_ := Rep.ext hb5_ ew32
                      replace hm2 := Rep.ext hm2 ew32
                      replace hsl1 := hsl1.ext ew32
                      replace hb6_ := Rep.ext hb6_ ew32
                      replace hb1_ := Rep.ext hb1_ ew32
                      replace hm3 := Rep.ext hm3 ew32
                      replace hb2_ := Rep.ext hb2_ ew32
                      replace hm4 := Rep.ext hm4 ew32
                      replace hb3_ := Rep.ext hb3_ ew32
                      replace hlow := hlow.ext ew32
                      replace hB := Nat.le_trans hB ew32.size
                      refine ⟨hS, ?_⟩
                      refine a_bar 40 rfl (by kernel_rfl) (by kernel_rfl) (o_call fo22 rfl rfl rfl (alike_spec _ _ _ _ _ _ hm5 hb3_ hlow) ?_)
                      rintro _ w33 ⟨rfl, ew33⟩
                      replace hS := hS.then ew33
                      replace h9 := h9.ext hlow hB ew33
                      replace hE := hE.trans (Below.mono ew33 hB)
                      replace h3 := h3.ext ew33
                      replace h5 := h5.ext ew33
                      replace ht := Rep.ext ht ew33
                      replace hs := Rep.ext hs ew33
                      replace h7 := h7.ext ew33
                      replace hx := Rep.ext hx ew33
                      replace hyy := Rep.ext hyy ew33
                      replace htwo := htwo.ext ew33
                      replace hb4_ := Rep.ext hb4_ ew33
                      replace hm0 := Rep.ext hm0 ew33
                      replace hm1 := Rep.ext hm1 ew33
                      replace hsl0 := hsl0.ext ew33
                      replace hb5_ := Rep.ext hb5_ ew33
                      replace hm2 := Rep.ext hm2 ew33
                      replace hsl1 := hsl1.ext ew33
                      replace hb6_ := Rep.ext hb6_ ew33
                      replace hb1_ := Rep.ext hb1_ ew33
                      replace hm3 := Rep.ext hm3 ew33
                      replace hb2_ := Rep.ext hb2_ ew33
                      replace hm4 := Rep.ext hm4 ew33
                      replace hb3_ := Rep.ext hb3_ ew33
                      replace hm5 := Rep.ext hm5 ew33
                      replace hlow := hlow.ext ew33
                      replace hB := Nat.le_trans hB ew33.size
                      refine a_p 41 tbOk rfl rfl rfl rfl (by kernel_rfl) (fun _ _ _ h => h) hS ?_
                      refine a_p 42 tbOk rfl rfl rfl rfl (by kernel_rfl) (fun _ _ _ h => h) hS ?_
                      refine a_end (by kernel_rfl) ?_
                      refine x_seq (c_ret (x_ret1 rfl rfl ?_))
                      exact ⟨by first | rfl | rw [cl_true rfl] | simp_all, hE⟩
                    exact absurd rfl (cl_not c14)
                  exact absurd rfl (cl_not c13)
                exact absurd rfl (cl_not c12)
              refine o_slh tbOk htwo rfl rfl rfl (j := 1) (by simp) rfl rfl rfl rfl rfl ?_
              intro vs1 hsl1
              replace hsl1 : Sl _ w25 vs1 [t] := hsl1
              refine ⟨hS, ?_⟩
              refine a_build (cells := [.int .u8 6, .string ⟨#[]⟩, .int .i64 0, vs1]) (css := [[.int .u8 6], [vs1]]) 24 bd25 rfl rfl (by rw [List.map, List.map, List.map, hsl1.cells]; rfl) rfl rfl rfl (by kernel_rfl) (fun _ _ _ h => h) hS ?_
              have hb6_ : Rep.R (Rw.Add M b9) w25 (.agg #[.int .u8 6, .string ⟨#[]⟩, .int .i64 0, vs1]) (Ty.mk 6 ⟨#[]⟩ 0 [t]) := ty_mk (by decide) (by decide) ⟨by decide, by decide⟩ hsl1
              refine a_one 21 rfl (by kernel_rfl) (o_call fo32 rfl rfl rfl (vnt_own t _ _ _ ht hlow hz) ?_)
              rintro vhm2 w34 ⟨hm2, ew34⟩
              replace hm2 := hm2.repNew hlow
              replace hS := hS.then ew34
              replace h9 := h9.ext hlow hB ew34
              replace hE := hE.trans (Below.mono ew34 hB)
              replace h3 := h3.ext ew34
              replace h5 := h5.ext ew34
              replace ht := Rep.ext ht ew34
              replace hs := Rep.ext hs ew34
              replace h7 := h7.ext ew34
              replace hx := Rep.ext hx ew34
              replace hyy := Rep.ext hyy ew34
              replace htwo := htwo.ext ew34
              replace hb4_ := Rep.ext hb4_ ew34
              replace hm0 := Rep.ext hm0 ew34
              replace hm1 := Rep.ext hm1 ew34
              replace hsl0 := hsl0.ext ew34
              replace hb5_ := Rep.ext hb5_ ew34
              replace hsl1 := hsl1.ext ew34
              replace hb6_ := Rep.ext hb6_ ew34
              replace hlow := hlow.ext ew34
              replace hB := Nat.le_trans hB ew34.size
              refine ⟨hS, ?_⟩
              refine a_bar 25 rfl (by kernel_rfl) (by kernel_rfl) (o_call fo22 rfl rfl rfl (alike_spec _ _ _ _ _ _ hm2 hb6_ hlow) ?_)
              rintro _ w35 ⟨rfl, ew35⟩
              replace hS := hS.then ew35
              replace h9 := h9.ext hlow hB ew35
              replace hE := hE.trans (Below.mono ew35 hB)
              replace h3 := h3.ext ew35
              replace h5 := h5.ext ew35
              replace ht := Rep.ext ht ew35
              replace hs := Rep.ext hs ew35
              replace h7 := h7.ext ew35
              replace hx := Rep.ext hx ew35
              replace hyy := Rep.ext hyy ew35
              replace htwo := htwo.ext ew35
              replace hb4_ := Rep.ext hb4_ ew35
              replace hm0 := Rep.ext hm0 ew35
              replace hm1 := Rep.ext hm1 ew35
              replace hsl0 := hsl0.ext ew35
              replace hb5_ := Rep.ext hb5_ ew35
              replace hsl1 := hsl1.ext ew35
              replace hb6_ := Rep.ext hb6_ ew35
              replace hm2 := Rep.ext hm2 ew35
              replace hlow := hlow.ext ew35
              replace hB := Nat.le_trans hB ew35.size
              refine a_p 26 tbOk rfl rfl rfl rfl (by kernel_rfl) (fun _ _ _ h => h) hS ?_
              refine a_p 27 tbOk rfl rfl rfl rfl (by kernel_rfl) (fun _ _ _ h => h) hS ?_
              refine a_split 78 _ rfl (fun c15 => ?_) (fun c15 => ?_)
              · refine a_build (cells := [.int .u8 1, .string ⟨#[]⟩, .int .i64 0, .slice none 0 0]) (css := [[.int .u8 1]]) 29 bd25 rfl rfl rfl rfl rfl rfl (by kernel_rfl) (fun _ _ _ h => h) hS ?_
                have hb1_ : Rep.R (Rw.Add M b9) w35 (.agg #[.int .u8 1, .string ⟨#[]⟩, .int .i64 0, .slice none 0 0]) (Ty.mk 1 ⟨#[]⟩ 0 []) := ty_mk (by decide) (by decide) ⟨by decide, by decide⟩ sl_nil
                refine a_one 28 rfl (by kernel_rfl) (o_call fo33 rfl rfl rfl (int_spec _ _ hlow) ?_)
                rintro vhm3 w36 ⟨hm3, ew36⟩
                replace hS := hS.then ew36
                replace h9 := h9.ext hlow hB ew36
                replace hE := hE.trans (Below.mono ew36 hB)
                replace h3 := h3.ext ew36
                replace h5 := h5.ext ew36
                replace ht := Rep.ext ht ew36
                replace hs := Rep.ext hs ew36
                replace h7 := h7.ext ew36
                replace hx := Rep.ext hx ew36
                replace hyy := Rep.ext hyy ew36
                replace htwo := htwo.ext ew36
                replace hb4_ := Rep.ext hb4_ ew36
                replace hm0 := Rep.ext hm0 ew36
                replace hm1 := Rep.ext hm1 ew36
                replace hsl0 := hsl0.ext ew36
                replace hb5_ := Rep.ext hb5_ ew36
                replace hsl1 := hsl1.ext ew36
                replace hb6_ := Rep.ext hb6_ ew36
                replace hm2 := Rep.ext hm2 ew36
                replace hb1_ := Rep.ext hb1_ ew36
                replace hlow := hlow.ext ew36
                replace hB := Nat.le_trans hB ew36.size
                refine ⟨hS, ?_⟩
                refine a_bar 30 rfl (by kernel_rfl) (by kernel_rfl) (o_call fo22 rfl rfl rfl (alike_spec _ _ _ _ _ _ hm3 hb1_ hlow) ?_)
                rintro _ w37 ⟨rfl, ew37⟩
                replace hS := hS.then ew37
                replace h9 := h9.ext hlow hB ew37
                replace hE := hE.trans (Below.mono ew37 hB)
                replace h3 := h3.ext ew37
                replace h5 := h5.ext ew37
                replace ht := Rep.ext ht ew37
                replace hs := Rep.ext hs ew37
                replace h7 := h7.ext ew37
                replace hx := Rep.ext hx ew37
                replace hyy := Rep.ext hyy ew37
                replace htwo := htwo.ext ew37
                replace hb4_ := Rep.ext hb4_ ew37
                replace hm0 := Rep.ext hm0 ew37
                replace hm1 := Rep.ext hm1 ew37
                replace hsl0 := hsl0.ext ew37
                replace hb5_ := Rep.ext hb5_ ew37
                replace hsl1 := hsl1.ext ew37
                replace hb6_ := Rep.ext hb6_ ew37
                replace hm2 := Rep.ext hm2 ew37
                replace hb1_ := Rep.ext hb1_ ew37
                replace hm3 := Rep.ext hm3 ew37
                replace hlow := hlow.ext ew37
                replace hB := Nat.le_trans hB ew37.size
                refine a_p 31 tbOk rfl rfl rfl rfl (by kernel_rfl) (fun _ _ _ h => h) hS ?_
                refine a_p 32 tbOk rfl rfl rfl rfl (by kernel_rfl) (fun _ _ _ h => h) hS ?_
                refine a_split 83 _ rfl (fun c16 => ?_) (fun c16 => ?_)
                · refine a_build (cells := [.int .u8 2, .string ⟨#[]⟩, .int .i64 0, .slice none 0 0]) (css := [[.int .u8 2]]) 34 bd25 rfl rfl rfl rfl rfl rfl (by kernel_rfl) (fun _ _ _ h => h) hS ?_
                  have hb2_ : Rep.R (Rw.Add M b9) w37 (.agg #[.int .u8 2, .string ⟨#[]⟩, .int .i64 0, .slice none 0 0]) (Ty.mk 2 ⟨#[]⟩ 0 []) := ty_mk (by decide) (by decide) ⟨by decide, by decide⟩ sl_nil
                  refine a_one 33 rfl (by kernel_rfl) (o_call fo34 rfl rfl rfl (bool_spec _ _ hlow) ?_)
                  rintro vhm4 w38 ⟨hm4, ew38⟩
                  replace hS := hS.then ew38
                  replace h9 := h9.ext hlow hB ew38
                  replace hE := hE.trans (Below.mono ew38 hB)
                  replace h3 := h3.ext ew38
                  replace h5 := h5.ext ew38
                  replace ht := Rep.ext ht ew38
                  replace hs := Rep.ext hs ew38
                  replace h7 := h7.ext ew38
                  replace hx := Rep.ext hx ew38
                  replace hyy := Rep.ext hyy ew38
                  replace htwo := htwo.ext ew38
                  replace hb4_ := Rep.ext hb4_ ew38
                  replace hm0 := Rep.ext hm0 ew38
                  replace hm1 := Rep.ext hm1 ew38
                  replace hsl0 := hsl0.ext ew38
                  replace hb5_ := Rep.ext hb5_ ew38
                  replace hsl1 := hsl1.ext ew38
                  replace hb6_ := Rep.ext hb6_ ew38
                  replace hm2 := Rep.ext hm2 ew38
                  replace hb1_ := Rep.ext hb1_ ew38
                  replace hm3 := Rep.ext hm3 ew38
                  replace hb2_ := Rep.ext hb2_ ew38
                  replace hlow := hlow.ext ew38
                  replace hB := Nat.le_trans hB ew38.size
                  refine ⟨hS, ?_⟩
                  refine a_bar 35 rfl (by kernel_rfl) (by kernel_rfl) (o_call fo22 rfl rfl rfl (alike_spec _ _ _ _ _ _ hm4 hb2_ hlow) ?_)
                  rintro _ w39 ⟨rfl, ew39⟩
                  replace hS := hS.then ew39
                  replace h9 := h9.ext hlow hB ew39
                  replace hE := hE.trans (Below.mono ew39 hB)
                  replace h3 := h3.ext ew39
                  replace h5 := h5.ext ew39
                  replace ht := Rep.ext ht ew39
                  replace hs := Rep.ext hs ew39
                  replace h7 := h7.ext ew39
                  replace hx := Rep.ext hx ew39
                  replace hyy := Rep.ext hyy ew39
                  replace htwo := htwo.ext ew39
                  replace hb4_ := Rep.ext hb4_ ew39
                  replace hm0 := Rep.ext hm0 ew39
                  replace hm1 := Rep.ext hm1 ew39
                  replace hsl0 := hsl0.ext ew39
                  replace hb5_ := Rep.ext hb5_ ew39
                  replace hsl1 := hsl1.ext ew39
                  replace hb6_ := Rep.ext hb6_ ew39
                  replace hm2 := Rep.ext hm2 ew39
                  replace hb1_ := Rep.ext hb1_ ew39
                  replace hm3 := Rep.ext hm3 ew39
                  replace hb2_ := Rep.ext hb2_ ew39
                  replace hm4 := Rep.ext hm4 ew39
                  replace hlow := hlow.ext ew39
                  replace hB := Nat.le_trans hB ew39.size
                  refine a_p 36 tbOk rfl rfl rfl rfl (by kernel_rfl) (fun _ _ _ h => h) hS ?_
                  refine a_p 37 tbOk rfl rfl rfl rfl (by kernel_rfl) (fun _ _ _ h => h) hS ?_
                  refine a_split 88 _ rfl (fun c17 => ?_) (fun c17 => ?_)
                  · refine a_build (cells := [.int .u8 3, .string ⟨#[]⟩, .int .i64 0, .slice none 0 0]) (css := [[.int .u8 3]]) 39 bd25 rfl rfl rfl rfl rfl rfl (by kernel_rfl) (fun _ _ _ h => h) hS ?_
                    have hb3_ : Rep.R (Rw.Add M b9) w39 (.agg #[.int .u8 3, .string ⟨#[]⟩, .int .i64 0, .slice none 0 0]) (Ty.mk 3 ⟨#[]⟩ 0 []) := ty_mk (by decide) (by decide) ⟨by decide, by decide⟩ sl_nil
                    refine a_one 38 rfl (by kernel_rfl) (o_call fo35 rfl rfl rfl (dyn_spec _ _ hlow) ?_)
                    rintro vhm5 w40 ⟨hm5, ew40⟩
                    replace hS := hS.then ew40
                    replace h9 := h9.ext hlow hB ew40
                    replace hE := hE.trans (Below.mono ew40 hB)
                    replace h3 := h3.ext ew40
                    replace h5 := h5.ext ew40
                    replace ht := Rep.ext ht ew40
                    replace hs := Rep.ext hs ew40
                    replace h7 := h7.ext ew40
                    replace hx := Rep.ext hx ew40
                    replace hyy := Rep.ext hyy ew40
                    replace htwo := htwo.ext ew40
                    replace hb4_ := Rep.ext hb4_ ew40
                    replace hm0 := Rep.ext hm0 ew40
                    replace hm1 := Rep.ext hm1 ew40
                    replace hsl0 := hsl0.ext ew40
                    replace hb5_ := Rep.ext hb5_ ew40
                    replace hsl1 := hsl1.ext ew40
                    replace hb6_ := Rep.ext hb6_ ew40
                    replace hm2 := Rep.ext hm2 ew40
                    replace hb1_ := Rep.ext hb1_ ew40
                    replace hm3 := Rep.ext hm3 ew40
                    replace hb2_ := Rep.ext hb2_ ew40
                    replace hm4 := Rep.ext hm4 ew40
                    replace hb3_ := Rep.ext hb3_ ew40
                    replace hlow := hlow.ext ew40
                    replace hB := Nat.le_trans hB ew40.size
                    refine ⟨hS, ?_⟩
                    refine a_bar 40 rfl (by kernel_rfl) (by kernel_rfl) (o_call fo22 rfl rfl rfl (alike_spec _ _ _ _ _ _ hm5 hb3_ hlow) ?_)
                    rintro _ w41 ⟨rfl, ew41⟩
                    replace hS := hS.then ew41
                    replace h9 := h9.ext hlow hB ew41
                    replace hE := hE.trans (Below.mono ew41 hB)
                    replace h3 := h3.ext ew41
                    replace h5 := h5.ext ew41
                    replace ht := Rep.ext ht ew41
                    replace hs := Rep.ext hs ew41
                    replace h7 := h7.ext ew41
                    replace hx := Rep.ext hx ew41
                    replace hyy := Rep.ext hyy ew41
                    replace htwo := htwo.ext ew41
                    replace hb4_ := Rep.ext hb4_ ew41
                    replace hm0 := Rep.ext hm0 ew41
                    replace hm1 := Rep.ext hm1 ew41
                    replace hsl0 := hsl0.ext ew41
                    replace hb5_ := Rep.ext hb5_ ew41
                    replace hsl1 := hsl1.ext ew41
                    replace hb6_ := Rep.ext hb6_ ew41
                    replace hm2 := Rep.ext hm2 ew41
                    replace hb1_ := Rep.ext hb1_ ew41
                    replace hm3 := Rep.ext hm3 ew41
                    replace hb2_ := Rep.ext hb2_ ew41
                    replace hm4 := Rep.ext hm4 ew41
                    replace hb3_ := Rep.ext hb3_ ew41
                    replace hm5 := Rep.ext hm5 ew41
                    replace hlow := hlow.ext ew41
                    replace hB := Nat.le_trans hB ew41.size
                    refine a_p 41 tbOk rfl rfl rfl rfl (by kernel_rfl) (fun _ _ _ h => h) hS ?_
                    refine a_p 42 tbOk rfl rfl rfl rfl (by kernel_rfl) (fun _ _ _ h => h) hS ?_
                    refine a_end (by kernel_rfl) ?_
                    refine x_seq (c_ret (x_ret1 rfl rfl ?_))
                    exact ⟨by first | rfl | rw [cl_true rfl] | simp_all, hE⟩
                  exact absurd rfl (cl_not c17)
                exact absurd rfl (cl_not c16)
              exact absurd rfl (cl_not c15)
            exact absurd rfl (cl_not c11)
          refine o_slh tbOk htwo rfl rfl rfl (j := 1) (by simp) rfl rfl rfl rfl rfl ?_
          intro vs0 hsl0
          replace hsl0 : Sl _ w23 vs0 [t] := hsl0
          refine ⟨hS, ?_⟩
          refine a_build (cells := [.int .u8 5, .string ⟨#[]⟩, .int .i64 0, vs0]) (css := [[.int .u8 5], [vs0]]) 16 bd25 rfl rfl (by rw [List.map, List.map, List.map, hsl0.cells]; rfl) rfl rfl rfl (by kernel_rfl) (fun _ _ _ h => h) hS ?_
          have hb5_ : Rep.R (Rw.Add M b9) w23 (.agg #[.int .u8 5, .string ⟨#[]⟩, .int .i64 0, vs0]) (Ty.mk 5 ⟨#[]⟩ 0 [t]) := ty_mk (by decide) (by decide) ⟨by decide, by decide⟩ hsl0
          refine a_one 13 rfl (by kernel_rfl) (o_call fo31 rfl rfl rfl (rec_own t _ _ _ ht hlow hz) ?_)
          rintro vhm1 w42 ⟨hm1, ew42⟩
          replace hm1 := hm1.repNew hlow
          replace hS := hS.then ew42
          replace h9 := h9.ext hlow hB ew42
          replace hE := hE.trans (Below.mono ew42 hB)
          replace h3 := h3.ext ew42
          replace h5 := h5.ext ew42
          replace ht := Rep.ext ht ew42
          replace hs := Rep.ext hs ew42
          replace h7 := h7.ext ew42
          replace hx := Rep.ext hx ew42
          replace hyy := Rep.ext hyy ew42
          replace htwo := htwo.ext ew42
          replace hb4_ := Rep.ext hb4_ ew42
          replace hm0 := Rep.ext hm0 ew42
          replace hsl0 := hsl0.ext ew42
          replace hb5_ := Rep.ext hb5_ ew42
          replace hlow := hlow.ext ew42
          replace hB := Nat.le_trans hB ew42.size
          refine ⟨hS, ?_⟩
          refine a_bar 17 rfl (by kernel_rfl) (by kernel_rfl) (o_call fo22 rfl rfl rfl (alike_spec _ _ _ _ _ _ hm1 hb5_ hlow) ?_)
          rintro _ w43 ⟨rfl, ew43⟩
          replace hS := hS.then ew43
          replace h9 := h9.ext hlow hB ew43
          replace hE := hE.trans (Below.mono ew43 hB)
          replace h3 := h3.ext ew43
          replace h5 := h5.ext ew43
          replace ht := Rep.ext ht ew43
          replace hs := Rep.ext hs ew43
          replace h7 := h7.ext ew43
          replace hx := Rep.ext hx ew43
          replace hyy := Rep.ext hyy ew43
          replace htwo := htwo.ext ew43
          replace hb4_ := Rep.ext hb4_ ew43
          replace hm0 := Rep.ext hm0 ew43
          replace hsl0 := hsl0.ext ew43
          replace hb5_ := Rep.ext hb5_ ew43
          replace hm1 := Rep.ext hm1 ew43
          replace hlow := hlow.ext ew43
          replace hB := Nat.le_trans hB ew43.size
          refine a_p 18 tbOk rfl rfl rfl rfl (by kernel_rfl) (fun _ _ _ h => h) hS ?_
          refine a_p 19 tbOk rfl rfl rfl rfl (by kernel_rfl) (fun _ _ _ h => h) hS ?_
          refine a_split 70 _ rfl (fun c18 => ?_) (fun c18 => ?_)
          · refine a_lds 20 tbOk (fun _ hs j v hv => (D_h3.ext hs).cell j v hv) rfl rfl rfl rfl rfl rfl rfl (by kernel_rfl) (fun _ _ _ h => h) hS ?_
            refine a_p 22 tbOk rfl rfl rfl rfl (by kernel_rfl) (fun _ _ _ h => h) hS ?_
            refine a_all [21, 23] (by kernel_rfl) rfl (all_cons (i := 21) rfl ?_ (all_cons (i := 23) rfl ?_ all_nil))
            · refine o_call fo32 rfl rfl rfl (vnt_own t _ _ _ ht hlow hz) ?_
              rintro vhm2 w44 ⟨hm2, ew44⟩
              replace hm2 := hm2.repNew hlow
              replace hS := hS.then ew44
              replace h9 := h9.ext hlow hB ew44
              replace hE := hE.trans (Below.mono ew44 hB)
              replace h3 := h3.ext ew44
              replace h5 := h5.ext ew44
              replace ht := Rep.ext ht ew44
              replace hs := Rep.ext hs ew44
              replace h7 := h7.ext ew44
              replace hx := Rep.ext hx ew44
              replace hyy := Rep.ext hyy ew44
              replace htwo := htwo.ext ew44
              replace hb4_ := Rep.ext hb4_ ew44
              replace hm0 := Rep.ext hm0 ew44
              replace hsl0 := hsl0.ext ew44
              replace hb5_ := Rep.ext hb5_ ew44
              replace hm1 := Rep.ext hm1 ew44
              replace hlow := hlow.ext ew44
              replace hB := Nat.le_trans hB ew44.size
              refine ⟨hS, ?_⟩
              refine a_one 23 rfl (by kernel_rfl) (o_slh tbOk htwo rfl rfl rfl (j := 1) (by simp) rfl rfl rfl rfl rfl ?_)
              intro vs1 hsl1
              replace hsl1 : Sl _ w44 vs1 [t] := hsl1
              refine ⟨hS, ?_⟩
              refine a_build (cells := [.int .u8 6, .string ⟨#[]⟩, .int .i64 0, vs1]) (css := [[.int .u8 6], [vs1]]) 24 bd25 rfl rfl (by rw [List.map, List.map, List.map, hsl1.cells]; rfl) rfl rfl rfl (by kernel_rfl) (fun _ _ _ h => h) hS ?_
              have hb6_ : Rep.R (Rw.Add M b9) w44 (.agg #[.int .u8 6, .string ⟨#[]⟩, .int .i64 0, vs1]) (Ty.mk 6 ⟨#[]⟩ 0 [t]) := ty_mk (by decide) (by decide) ⟨by decide, by decide⟩ hsl1
              refine a_bar 25 rfl (by kernel_rfl) (by kernel_rfl) (o_call fo22 rfl rfl rfl (alike_spec _ _ _ _ _ _ hm2 hb6_ hlow) ?_)
              rintro _ w45 ⟨rfl, ew45⟩
              replace hS := hS.then ew45
              replace h9 := h9.ext hlow hB ew45
              replace hE := hE.trans (Below.mono ew45 hB)
              replace h3 := h3.ext ew45
              replace h5 := h5.ext ew45
              replace ht := Rep.ext ht ew45
              replace hs := Rep.ext hs ew45
              replace h7 := h7.ext ew45
              replace hx := Rep.ext hx ew45
              replace hyy := Rep.ext hyy ew45
              replace htwo := htwo.ext ew45
              replace hb4_ := Rep.ext hb4_ ew45
              replace hm0 := Rep.ext hm0 ew45
              replace hsl0 := hsl0.ext ew45
              replace hb5_ := Rep.ext hb5_ ew45
              replace hm1 := Rep.ext hm1 ew45
              replace hm2 := Rep.ext hm2 ew45
              replace hsl1 := hsl1.ext ew45
              replace hb6_ := Rep.ext hb6_ ew45
              replace hlow := hlow.ext ew45
              replace hB := Nat.le_trans hB ew45.size
              refine a_p 26 tbOk rfl rfl rfl rfl (by kernel_rfl) (fun _ _ _ h => h) hS ?_
              refine a_p 27 tbOk rfl rfl rfl rfl (by kernel_rfl) (fun _ _ _ h => h) hS ?_
              refine a_split 78 _ rfl (fun c19 => ?_) (fun c19 => ?_)
              · refine a_build (cells := [.int .u8 1, .string ⟨#[]⟩, .int .i64 0, .slice none 0 0]) (css := [[.int .u8 1]]) 29 bd25 rfl rfl rfl rfl rfl rfl (by kernel_rfl) (fun _ _ _ h => h) hS ?_
                have hb1_ : Rep.R (Rw.Add M b9) w45 (.agg #[.int .u8 1, .string ⟨#[]⟩, .int .i64 0, .slice none 0 0]) (Ty.mk 1 ⟨#[]⟩ 0 []) := ty_mk (by decide) (by decide) ⟨by decide, by decide⟩ sl_nil
                refine a_one 28 rfl (by kernel_rfl) (o_call fo33 rfl rfl rfl (int_spec _ _ hlow) ?_)
                rintro vhm3 w46 ⟨hm3, ew46⟩
                replace hS := hS.then ew46
                replace h9 := h9.ext hlow hB ew46
                replace hE := hE.trans (Below.mono ew46 hB)
                replace h3 := h3.ext ew46
                replace h5 := h5.ext ew46
                replace ht := Rep.ext ht ew46
                replace hs := Rep.ext hs ew46
                replace h7 := h7.ext ew46
                replace hx := Rep.ext hx ew46
                replace hyy := Rep.ext hyy ew46
                replace htwo := htwo.ext ew46
                replace hb4_ := Rep.ext hb4_ ew46
                replace hm0 := Rep.ext hm0 ew46
                replace hsl0 := hsl0.ext ew46
                replace hb5_ := Rep.ext hb5_ ew46
                replace hm1 := Rep.ext hm1 ew46
                replace hm2 := Rep.ext hm2 ew46
                replace hsl1 := hsl1.ext ew46
                replace hb6_ := Rep.ext hb6_ ew46
                replace hb1_ := Rep.ext hb1_ ew46
                replace hlow := hlow.ext ew46
                replace hB := Nat.le_trans hB ew46.size
                refine ⟨hS, ?_⟩
                refine a_bar 30 rfl (by kernel_rfl) (by kernel_rfl) (o_call fo22 rfl rfl rfl (alike_spec _ _ _ _ _ _ hm3 hb1_ hlow) ?_)
                rintro _ w47 ⟨rfl, ew47⟩
                replace hS := hS.then ew47
                replace h9 := h9.ext hlow hB ew47
                replace hE := hE.trans (Below.mono ew47 hB)
                replace h3 := h3.ext ew47
                replace h5 := h5.ext ew47
                replace ht := Rep.ext ht ew47
                replace hs := Rep.ext hs ew47
                replace h7 := h7.ext ew47
                replace hx := Rep.ext hx ew47
                replace hyy := Rep.ext hyy ew47
                replace htwo := htwo.ext ew47
                replace hb4_ := Rep.ext hb4_ ew47
                replace hm0 := Rep.ext hm0 ew47
                replace hsl0 := hsl0.ext ew47
                replace hb5_ := Rep.ext hb5_ ew47
                replace hm1 := Rep.ext hm1 ew47
                replace hm2 := Rep.ext hm2 ew47
                replace hsl1 := hsl1.ext ew47
                replace hb6_ := Rep.ext hb6_ ew47
                replace hb1_ := Rep.ext hb1_ ew47
                replace hm3 := Rep.ext hm3 ew47
                replace hlow := hlow.ext ew47
                replace hB := Nat.le_trans hB ew47.size
                refine a_p 31 tbOk rfl rfl rfl rfl (by kernel_rfl) (fun _ _ _ h => h) hS ?_
                refine a_p 32 tbOk rfl rfl rfl rfl (by kernel_rfl) (fun _ _ _ h => h) hS ?_
                refine a_split 83 _ rfl (fun c20 => ?_) (fun c20 => ?_)
                · refine a_build (cells := [.int .u8 2, .string ⟨#[]⟩, .int .i64 0, .slice none 0 0]) (css := [[.int .u8 2]]) 34 bd25 rfl rfl rfl rfl rfl rfl (by kernel_rfl) (fun _ _ _ h => h) hS ?_
                  have hb2_ : Rep.R (Rw.Add M b9) w47 (.agg #[.int .u8 2, .string ⟨#[]⟩, .int .i64 0, .slice none 0 0]) (Ty.mk 2 ⟨#[]⟩ 0 []) := ty_mk (by decide) (by decide) ⟨by decide, by decide⟩ sl_nil
                  refine a_one 33 rfl (by kernel_rfl) (o_call fo34 rfl rfl rfl (bool_spec _ _ hlow) ?_)
                  rintro vhm4 w48 ⟨hm4, ew48⟩
                  replace hS := hS.then ew48
                  replace h9 := h9.ext hlow hB ew48
                  replace hE := hE.trans (Below.mono ew48 hB)
                  replace h3 := h3.ext ew48
                  replace h5 := h5.ext ew48
                  replace ht := Rep.ext ht ew48
                  replace hs := Rep.ext hs ew48
                  replace h7 := h7.ext ew48
                  replace hx := Rep.ext hx ew48
                  replace hyy := Rep.ext hyy ew48
                  replace htwo := htwo.ext ew48
                  replace hb4_ := Rep.ext hb4_ ew48
                  replace hm0 := Rep.ext hm0 ew48
                  replace hsl0 := hsl0.ext ew48
                  replace hb5_ := Rep.ext hb5_ ew48
                  replace hm1 := Rep.ext hm1 ew48
                  replace hm2 := Rep.ext hm2 ew48
                  replace hsl1 := hsl1.ext ew48
                  replace hb6_ := Rep.ext hb6_ ew48
                  replace hb1_ := Rep.ext hb1_ ew48
                  replace hm3 := Rep.ext hm3 ew48
                  replace hb2_ := Rep.ext hb2_ ew48
                  replace hlow := hlow.ext ew48
                  replace hB := Nat.le_trans hB ew48.size
                  refine ⟨hS, ?_⟩
                  refine a_bar 35 rfl (by kernel_rfl) (by kernel_rfl) (o_call fo22 rfl rfl rfl (alike_spec _ _ _ _ _ _ hm4 hb2_ hlow) ?_)
                  rintro _ w49 ⟨rfl, ew49⟩
                  replace hS := hS.then ew49
                  replace h9 := h9.ext hlow hB ew49
                  replace hE := hE.trans (Below.mono ew49 hB)
                  replace h3 := h3.ext ew49
                  replace h5 := h5.ext ew49
                  replace ht := Rep.ext ht ew49
                  replace hs := Rep.ext hs ew49
                  replace h7 := h7.ext ew49
                  replace hx := Rep.ext hx ew49
                  replace hyy := Rep.ext hyy ew49
                  replace htwo := htwo.ext ew49
                  replace hb4_ := Rep.ext hb4_ ew49
                  replace hm0 := Rep.ext hm0 ew49
                  replace hsl0 := hsl0.ext ew49
                  replace hb5_ := Rep.ext hb5_ ew49
                  replace hm1 := Rep.ext hm1 ew49
                  replace hm2 := Rep.ext hm2 ew49
                  replace hsl1 := hsl1.ext ew49
                  replace hb6_ := Rep.ext hb6_ ew49
                  replace hb1_ := Rep.ext hb1_ ew49
                  replace hm3 := Rep.ext hm3 ew49
                  replace hb2_ := Rep.ext hb2_ ew49
                  replace hm4 := Rep.ext hm4 ew49
                  replace hlow := hlow.ext ew49
                  replace hB := Nat.le_trans hB ew49.size
                  refine a_p 36 tbOk rfl rfl rfl rfl (by kernel_rfl) (fun _ _ _ h => h) hS ?_
                  refine a_p 37 tbOk rfl rfl rfl rfl (by kernel_rfl) (fun _ _ _ h => h) hS ?_
                  refine a_split 88 _ rfl (fun c21 => ?_) (fun c21 => ?_)
                  · refine a_build (cells := [.int .u8 3, .string ⟨#[]⟩, .int .i64 0, .slice none 0 0]) (css := [[.int .u8 3]]) 39 bd25 rfl rfl rfl rfl rfl rfl (by kernel_rfl) (fun _ _ _ h => h) hS ?_
                    have hb3_ : Rep.R (Rw.Add M b9) w49 (.agg #[.int .u8 3, .string ⟨#[]⟩, .int .i64 0, .slice none 0 0]) (Ty.mk 3 ⟨#[]⟩ 0 []) := ty_mk (by decide) (by decide) ⟨by decide, by decide⟩ sl_nil
                    refine a_one 38 rfl (by kernel_rfl) (o_call fo35 rfl rfl rfl (dyn_spec _ _ hlow) ?_)
                    rintro vhm5 w50 ⟨hm5, ew50⟩
                    replace hS := hS.then ew50
                    replace h9 := h9.ext hlow hB ew50
                    replace hE := hE.trans (Below.mono ew50 hB)
                    replace h3 := h3.ext ew50
                    replace h5 := h5.ext ew50
                    replace ht := Rep.ext ht ew50
                    replace hs := Rep.ext hs ew50
                    replace h7 := h7.ext ew50
                    replace hx := Rep.ext hx ew50
                    replace hyy := Rep.ext hyy ew50
                    replace htwo := htwo.ext ew50
                    replace hb4_ := Rep.ext hb4_ ew50
                    replace hm0 := Rep.ext hm0 ew50
                    replace hsl0 := hsl0.ext ew50
                    replace hb5_ := Rep.ext hb5_ ew50
                    replace hm1 := Rep.ext hm1 ew50
                    replace hm2 := Rep.ext hm2 ew50
                    replace hsl1 := hsl1.ext ew50
                    replace hb6_ := Rep.ext hb6_ ew50
                    replace hb1_ := Rep.ext hb1_ ew50
                    replace hm3 := Rep.ext hm3 ew50
                    replace hb2_ := Rep.ext hb2_ ew50
                    replace hm4 := Rep.ext hm4 ew50
                    replace hb3_ := Rep.ext hb3_ ew50
                    replace hlow := hlow.ext ew50
                    replace hB := Nat.le_trans hB ew50.size
                    refine ⟨hS, ?_⟩
                    refine a_bar 40 rfl (by kernel_rfl) (by kernel_rfl) (o_call fo22 rfl rfl rfl (alike_spec _ _ _ _ _ _ hm5 hb3_ hlow) ?_)
                    rintro _ w51 ⟨rfl, ew51⟩
                    replace hS := hS.then ew51
                    replace h9 := h9.ext hlow hB ew51
                    replace hE := hE.trans (Below.mono ew51 hB)
                    replace h3 := h3.ext ew51
                    replace h5 := h5.ext ew51
                    replace ht := Rep.ext ht ew51
                    replace hs := Rep.ext hs ew51
                    replace h7 := h7.ext ew51
                    replace hx := Rep.ext hx ew51
                    replace hyy := Rep.ext hyy ew51
                    replace htwo := htwo.ext ew51
                    replace hb4_ := Rep.ext hb4_ ew51
                    replace hm0 := Rep.ext hm0 ew51
                    replace hsl0 := hsl0.ext ew51
                    replace hb5_ := Rep.ext hb5_ ew51
                    replace hm1 := Rep.ext hm1 ew51
                    replace hm2 := Rep.ext hm2 ew51
                    replace hsl1 := hsl1.ext ew51
                    replace hb6_ := Rep.ext hb6_ ew51
                    replace hb1_ := Rep.ext hb1_ ew51
                    replace hm3 := Rep.ext hm3 ew51
                    replace hb2_ := Rep.ext hb2_ ew51
                    replace hm4 := Rep.ext hm4 ew51
                    replace hb3_ := Rep.ext hb3_ ew51
                    replace hm5 := Rep.ext hm5 ew51
                    replace hlow := hlow.ext ew51
                    replace hB := Nat.le_trans hB ew51.size
                    refine a_p 41 tbOk rfl rfl rfl rfl (by kernel_rfl) (fun _ _ _ h => h) hS ?_
                    refine a_p 42 tbOk rfl rfl rfl rfl (by kernel_rfl) (fun _ _ _ h => h) hS ?_
                    refine a_end (by kernel_rfl) ?_
                    refine x_seq (c_ret (x_ret1 rfl rfl ?_))
                    exact ⟨by first | rfl | rw [cl_true rfl] | simp_all, hE⟩
                  exact absurd rfl (cl_not c21)
                exact absurd rfl (cl_not c20)
              exact absurd rfl (cl_not c19)
            refine o_slh tbOk htwo rfl rfl rfl (j := 1) (by simp) rfl rfl rfl rfl rfl ?_
            intro vs1 hsl1
            replace hsl1 : Sl _ w43 vs1 [t] := hsl1
            refine ⟨hS, ?_⟩
            refine a_build (cells := [.int .u8 6, .string ⟨#[]⟩, .int .i64 0, vs1]) (css := [[.int .u8 6], [vs1]]) 24 bd25 rfl rfl (by rw [List.map, List.map, List.map, hsl1.cells]; rfl) rfl rfl rfl (by kernel_rfl) (fun _ _ _ h => h) hS ?_
            have hb6_ : Rep.R (Rw.Add M b9) w43 (.agg #[.int .u8 6, .string ⟨#[]⟩, .int .i64 0, vs1]) (Ty.mk 6 ⟨#[]⟩ 0 [t]) := ty_mk (by decide) (by decide) ⟨by decide, by decide⟩ hsl1
            refine a_one 21 rfl (by kernel_rfl) (o_call fo32 rfl rfl rfl (vnt_own t _ _ _ ht hlow hz) ?_)
            rintro vhm2 w52 ⟨hm2, ew52⟩
            replace hm2 := hm2.repNew hlow
            replace hS := hS.then ew52
            replace h9 := h9.ext hlow hB ew52
            replace hE := hE.trans (Below.mono ew52 hB)
            replace h3 := h3.ext ew52
            replace h5 := h5.ext ew52
            replace ht := Rep.ext ht ew52
            replace hs := Rep.ext hs ew52
            replace h7 := h7.ext ew52
            replace hx := Rep.ext hx ew52
            replace hyy := Rep.ext hyy ew52
            replace htwo := htwo.ext ew52
            replace hb4_ := Rep.ext hb4_ ew52
            replace hm0 := Rep.ext hm0 ew52
            replace hsl0 := hsl0.ext ew52
            replace hb5_ := Rep.ext hb5_ ew52
            replace hm1 := Rep.ext hm1 ew52
            replace hsl1 := hsl1.ext ew52
            replace hb6_ := Rep.ext hb6_ ew52
            replace hlow := hlow.ext ew52
            replace hB := Nat.le_trans hB ew52.size
            refine ⟨hS, ?_⟩
            refine a_bar 25 rfl (by kernel_rfl) (by kernel_rfl) (o_call fo22 rfl rfl rfl (alike_spec _ _ _ _ _ _ hm2 hb6_ hlow) ?_)
            rintro _ w53 ⟨rfl, ew53⟩
            replace hS := hS.then ew53
            replace h9 := h9.ext hlow hB ew53
            replace hE := hE.trans (Below.mono ew53 hB)
            replace h3 := h3.ext ew53
            replace h5 := h5.ext ew53
            replace ht := Rep.ext ht ew53
            replace hs := Rep.ext hs ew53
            replace h7 := h7.ext ew53
            replace hx := Rep.ext hx ew53
            replace hyy := Rep.ext hyy ew53
            replace htwo := htwo.ext ew53
            replace hb4_ := Rep.ext hb4_ ew53
            replace hm0 := Rep.ext hm0 ew53
            replace hsl0 := hsl0.ext ew53
            replace hb5_ := Rep.ext hb5_ ew53
            replace hm1 := Rep.ext hm1 ew53
            replace hsl1 := hsl1.ext ew53
            replace hb6_ := Rep.ext hb6_ ew53
            replace hm2 := Rep.ext hm2 ew53
            replace hlow := hlow.ext ew53
            replace hB := Nat.le_trans hB ew53.size
            refine a_p 26 tbOk rfl rfl rfl rfl (by kernel_rfl) (fun _ _ _ h => h) hS ?_
            refine a_p 27 tbOk rfl rfl rfl rfl (by kernel_rfl) (fun _ _ _ h => h) hS ?_
            refine a_split 78 _ rfl (fun c22 => ?_) (fun c22 => ?_)
            · refine a_build (cells := [.int .u8 1, .string ⟨#[]⟩, .int .i64 0, .slice none 0 0]) (css := [[.int .u8 1]]) 29 bd25 rfl rfl rfl rfl rfl rfl (by kernel_rfl) (fun _ _ _ h => h) hS ?_
              have hb1_ : Rep.R (Rw.Add M b9) w53 (.agg #[.int .u8 1, .string ⟨#[]⟩, .int .i64 0, .slice none 0 0]) (Ty.mk 1 ⟨#[]⟩ 0 []) := ty_mk (by decide) (by decide) ⟨by decide, by decide⟩ sl_nil
              refine a_one 28 rfl (by kernel_rfl) (o_call fo33 rfl rfl rfl (int_spec _ _ hlow) ?_)
              rintro vhm3 w54 ⟨hm3, ew54⟩
              replace hS := hS.then ew54
              replace h9 := h9.ext hlow hB ew54
              replace hE := hE.trans (Below.mono ew54 hB)
              replace h3 := h3.ext ew54
              replace h5 := h5.ext ew54
              replace ht := Rep.ext ht ew54
              replace hs := Rep.ext hs ew54
              replace h7 := h7.ext ew54
              replace hx := Rep.ext hx ew54
              replace hyy := Rep.ext hyy ew54
              replace htwo := htwo.ext ew54
              replace hb4_ := Rep.ext hb4_ ew54
              replace hm0 := Rep.ext hm0 ew54
              replace hsl0 := hsl0.ext ew54
              replace hb5_ := Rep.ext hb5_ ew54
              replace hm1 := Rep.ext hm1 ew54
              replace hsl1 := hsl1.ext ew54
              replace hb6_ := Rep.ext hb6_ ew54
              replace hm2 := Rep.ext hm2 ew54
              replace hb1_ := Rep.ext hb1_ ew54
              replace hlow := hlow.ext ew54
              replace hB := Nat.le_trans hB ew54.size
              refine ⟨hS, ?_⟩
              refine a_bar 30 rfl (by kernel_rfl) (by kernel_rfl) (o_call fo22 rfl rfl rfl (alike_spec _ _ _ _ _ _ hm3 hb1_ hlow) ?_)
              rintro _ w55 ⟨rfl, ew55⟩
              replace hS := hS.then ew55
              replace h9 := h9.ext hlow hB ew55
              replace hE := hE.trans (Below.mono ew55 hB)
              replace h3 := h3.ext ew55
              replace h5 := h5.ext ew55
              replace ht := Rep.ext ht ew55
              replace hs := Rep.ext hs ew55
              replace h7 := h7.ext ew55
              replace hx := Rep.ext hx ew55
              replace hyy := Rep.ext hyy ew55
              replace htwo := htwo.ext ew55
              replace hb4_ := Rep.ext hb4_ ew55
              replace hm0 := Rep.ext hm0 ew55
              replace hsl0 := hsl0.ext ew55
              replace hb5_ := Rep.ext hb5_ ew55
              replace hm1 := Rep.ext hm1 ew55
              replace hsl1 := hsl1.ext ew55
              replace hb6_ := Rep.ext hb6_ ew55
              replace hm2 := Rep.ext hm2 ew55
              replace hb1_ := Rep.ext hb1_ ew55
              replace hm3 := Rep.ext hm3 ew55
              replace hlow := hlow.ext ew55
              replace hB := Nat.le_trans hB ew55.size
              refine a_p 31 tbOk rfl rfl rfl rfl (by kernel_rfl) (fun _ _ _ h => h) hS ?_
              refine a_p 32 tbOk rfl rfl rfl rfl (by kernel_rfl) (fun _ _ _ h => h) hS ?_
              refine a_split 83 _ rfl (fun c23 => ?_) (fun c23 => ?_)
              · refine a_build (cells := [.int .u8 2, .string ⟨#[]⟩, .int .i64 0, .slice none 0 0]) (css := [[.int .u8 2]]) 34 bd25 rfl rfl rfl rfl rfl rfl (by kernel_rfl) (fun _ _ _ h => h) hS ?_
                have hb2_ : Rep.R (Rw.Add M b9) w55 (.agg #[.int .u8 2, .string ⟨#[]⟩, .int .i64 0, .slice none 0 0]) (Ty.mk 2 ⟨#[]⟩ 0 []) := ty_mk (by decide) (by decide) ⟨by decide, by decide⟩ sl_nil
                refine a_one 33 rfl (by kernel_rfl) (o_call fo34 rfl rfl rfl (bool_spec _ _ hlow) ?_)
                rintro vhm4 w56 ⟨hm4, ew56⟩
                replace hS := hS.then ew56
                replace h9 := h9.ext hlow hB ew56
                replace hE := hE.trans (Below.mono ew56 hB)
                replace h3 := h3.ext ew56
                replace h5 := h5.ext ew56
                replace ht := Rep.ext ht ew56
                replace hs := Rep.ext hs ew56
                replace h7 := h7.ext ew56
                replace hx := Rep.ext hx ew56
                replace hyy := Rep.ext hyy ew56
                replace htwo := htwo.ext ew56
                replace hb4_ := Rep.ext hb4_ ew56
                replace hm0 := Rep.ext hm0 ew56
                replace hsl0 := hsl0.ext ew56
                replace hb5_ := Rep.ext hb5_ ew56
                replace hm1 := Rep.ext hm1 ew56
                replace hsl1 := hsl1.ext ew56
                replace hb6_ := Rep.ext hb6_ ew56
                replace hm2 := Rep.ext hm2 ew56
                replace hb1_ := Rep.ext hb1_ ew56
                replace hm3 := Rep.ext hm3 ew56
                replace hb2_ := Rep.ext hb2_ ew56
                replace hlow := hlow.ext ew56
                replace hB := Nat.le_trans hB ew56.size
                refine ⟨hS, ?_⟩
                refine a_bar 35 rfl (by kernel_rfl) (by kernel_rfl) (o_call fo22 rfl rfl rfl (alike_spec _ _ _ _ _ _ hm4 hb2_ hlow) ?_)
                rintro _ w57 ⟨rfl, ew57⟩
                replace hS := hS.then ew57
                replace h9 := h9.ext hlow hB ew57
                replace hE := hE.trans (Below.mono ew57 hB)
                replace h3 := h3.ext ew57
                replace h5 := h5.ext ew57
                replace ht := Rep.ext ht ew57
                replace hs := Rep.ext hs ew57
                replace h7 := h7.ext ew57
                replace hx := Rep.ext hx ew57
                replace hyy := Rep.ext hyy ew57
                replace htwo := htwo.ext ew57
                replace hb4_ := Rep.ext hb4_ ew57
                replace hm0 := Rep.ext hm0 ew57
                replace hsl0 := hsl0.ext ew57
                replace hb5_ := Rep.ext hb5_ ew57
                replace hm1 := Rep.ext hm1 ew57
                replace hsl1 := hsl1.ext ew57
                replace hb6_ := Rep.ext hb6_ ew57
                replace hm2 := Rep.ext hm2 ew57
                replace hb1_ := Rep.ext hb1_ ew57
                replace hm3 := Rep.ext hm3 ew57
                replace hb2_ := Rep.ext hb2_ ew57
                replace hm4 := Rep.ext hm4 ew57
                replace hlow := hlow.ext ew57
                replace hB := Nat.le_trans hB ew57.size
                refine a_p 36 tbOk rfl rfl rfl rfl (by kernel_rfl) (fun _ _ _ h => h) hS ?_
                refine a_p 37 tbOk rfl rfl rfl rfl (by kernel_rfl) (fun _ _ _ h => h) hS ?_
                refine a_split 88 _ rfl (fun c24 => ?_) (fun c24 => ?_)
                · refine a_build (cells := [.int .u8 3, .string ⟨#[]⟩, .int .i64 0, .slice none 0 0]) (css := [[.int .u8 3]]) 39 bd25 rfl rfl rfl rfl rfl rfl (by kernel_rfl) (fun _ _ _ h => h) hS ?_
                  have hb3_ : Rep.R (Rw.Add M b9) w57 (.agg #[.int .u8 3, .string ⟨#[]⟩, .int .i64 0, .slice none 0 0]) (Ty.mk 3 ⟨#[]⟩ 0 []) := ty_mk (by decide) (by decide) ⟨by decide, by decide⟩ sl_nil
                  refine a_one 38 rfl (by kernel_rfl) (o_call fo35 rfl rfl rfl (dyn_spec _ _ hlow) ?_)
                  rintro vhm5 w58 ⟨hm5, ew58⟩
                  replace hS := hS.then ew58
                  replace h9 := h9.ext hlow hB ew58
                  replace hE := hE.trans (Below.mono ew58 hB)
                  replace h3 := h3.ext ew58
                  replace h5 := h5.ext ew58
                  replace ht := Rep.ext ht ew58
                  replace hs := Rep.ext hs ew58
                  replace h7 := h7.ext ew58
                  replace hx := Rep.ext hx ew58
                  replace hyy := Rep.ext hyy ew58
                  replace htwo := htwo.ext ew58
                  replace hb4_ := Rep.ext hb4_ ew58
                  replace hm0 := Rep.ext hm0 ew58
                  replace hsl0 := hsl0.ext ew58
                  replace hb5_ := Rep.ext hb5_ ew58
                  replace hm1 := Rep.ext hm1 ew58
                  replace hsl1 := hsl1.ext ew58
                  replace hb6_ := Rep.ext hb6_ ew58
                  replace hm2 := Rep.ext hm2 ew58
                  replace hb1_ := Rep.ext hb1_ ew58
                  replace hm3 := Rep.ext hm3 ew58
                  replace hb2_ := Rep.ext hb2_ ew58
                  replace hm4 := Rep.ext hm4 ew58
                  replace hb3_ := Rep.ext hb3_ ew58
                  replace hlow := hlow.ext ew58
                  replace hB := Nat.le_trans hB ew58.size
                  refine ⟨hS, ?_⟩
                  refine a_bar 40 rfl (by kernel_rfl) (by kernel_rfl) (o_call fo22 rfl rfl rfl (alike_spec _ _ _ _ _ _ hm5 hb3_ hlow) ?_)
                  rintro _ w59 ⟨rfl, ew59⟩
                  replace hS := hS.then ew59
                  replace h9 := h9.ext hlow hB ew59
                  replace hE := hE.trans (Below.mono ew59 hB)
                  replace h3 := h3.ext ew59
                  replace h5 := h5.ext ew59
                  replace ht := Rep.ext ht ew59
                  replace hs := Rep.ext hs ew59
                  replace h7 := h7.ext ew59
                  replace hx := Rep.ext hx ew59
                  replace hyy := Rep.ext hyy ew59
                  replace htwo := htwo.ext ew59
                  replace hb4_ := Rep.ext hb4_ ew59
                  replace hm0 := Rep.ext hm0 ew59
                  replace hsl0 := hsl0.ext ew59
                  replace hb5_ := Rep.ext hb5_ ew59
                  replace hm1 := Rep.ext hm1 ew59
                  replace hsl1 := hsl1.ext ew59
                  replace hb6_ := Rep.ext hb6_ ew59
                  replace hm2 := Rep.ext hm2 ew59
                  replace hb1_ := Rep.ext hb1_ ew59
                  replace hm3 := Rep.ext hm3 ew59
                  replace hb2_ := Rep.ext hb2_ ew59
                  replace hm4 := Rep.ext hm4 ew59
                  replace hb3_ := Rep.ext hb3_ ew59
                  replace hm5 := Rep.ext hm5 ew59
                  replace hlow := hlow.ext ew59
                  replace hB := Nat.le_trans hB ew59.size
                  refine a_p 41 tbOk rfl rfl rfl rfl (by kernel_rfl) (fun _ _ _ h => h) hS ?_
                  refine a_p 42 tbOk rfl rfl rfl rfl (by kernel_rfl) (fun _ _ _ h => h) hS ?_
                  refine a_end (by kernel_rfl) ?_
                  refine x_seq (c_ret (x_ret1 rfl rfl ?_))
                  exact ⟨by first | rfl | rw [cl_true rfl] | simp_all, hE⟩
                exact absurd rfl (cl_not c24)
              exact absurd rfl (cl_not c23)
            exact absurd rfl (cl_not c22)
          exact absurd rfl (cl_not c18)
        exact absurd rfl (cl_not c10)
      exact absurd rfl (cl_not c9)
    refine c_skip (x_seq ?_)
    refine c_cut2 (X := Ty) (Y := Value) (fun y kvy => [(1, .int .i64 n), (3, .pointer (some ⟨b3, 0, none⟩)), (5, .pointer (some ⟨b5, 0, none⟩)), (7, .pointer (some ⟨b7, 0, none⟩)), (9, .pointer (some ⟨b9, 0, none⟩))]) (fun y kvy w' => y = PutF t n s ∧ MB w.heap.size (Rw.Add M b9) w' b9 25 [.int .u8 y.op, .string y.name, .int .i64 y.n, kvy] ∧ Rep.R (Rw.Add M b9) w' (.agg #[.int .u8 y.op, .string y.name, .int .i64 y.n, kvy]) y ∧ At (Rw.Add M b9) w' b3 0 [.int .u8 t.op, .string t.name, .int .i64 t.n, kv] ∧ At (Rw.Add M b9) w' b5 0 [.int .u8 s.op, .string s.name, .int .i64 s.n, kvs] ∧ Rep.R (Rw.Add M b9) w' (.agg #[.int .u8 t.op, .string t.name, .int .i64 t.n, kv]) t ∧ Rep.R (Rw.Add M b9) w' (.agg #[.int .u8 s.op, .string s.name, .int .i64 s.n, kvs]) s ∧ At (Rw.Add M b9) w' b7 0 [.int .u8 (PutF t n s).op, .string (PutF t n s).name, .int .i64 (PutF t n s).n, kvx] ∧ Rep.R (Rw.Add M b9) w' (.agg #[.int .u8 (PutF t n s).op, .string (PutF t n s).name, .int .i64 (PutF t n s).n, kvx]) (PutF t n s) ∧ Low (Rw.Add M b9) w' ∧ (∀ b, M b → (Rw.Add M b9) b) ∧ Below w.heap.size w w' ∧ w.heap.size ≤ w'.heap.size) ?_ ?_
    · refine q0 (l_p 2 tbOk rfl ?_)
      refine l_split 40 _ rfl (fun c25 => ?_) (fun c25 => ?_)
      · refine l_cons (o_lds tbOk (fun j v hv => h5.cell j v hv) rfl rfl rfl rfl rfl rfl ?_)
        refine l_cons (o_call fo19 rfl rfl rfl (refRow_spec s _ _ _ hs hlow hzs) ?_)
        rintro _ w60 ⟨rfl, ew60⟩
        replace h9 := h9.ext hlow hB ew60
        replace hE := hE.trans (Below.mono ew60 hB)
        replace h3 := h3.ext ew60
        replace h5 := h5.ext ew60
        replace ht := Rep.ext ht ew60
        replace hs := Rep.ext hs ew60
        replace h7 := h7.ext ew60
        replace hx := Rep.ext hx ew60
        replace hlow := hlow.ext ew60
        replace hB := Nat.le_trans hB ew60.size
        refine l_p 1 tbOk rfl (q1 ?_)
        refine c_if _ rfl (fun c26 => ?_) (fun c26 => ?_)
        · refine c_reg ?_
          refine l_cons (o_lds tbOk (fun j v hv => h3.cell j v hv) rfl rfl rfl rfl rfl rfl ?_)
          refine l_p 1 tbOk rfl ?_
          refine l_cons (o_lds tbOk (fun j v hv => h5.cell j v hv) rfl rfl rfl rfl rfl rfl ?_)
          refine l_cons (o_call fo29 rfl rfl rfl (refPut_spec t 10 n s _ _ _ _ ht hs hlow hz) ?_)
          rintro vp w61 ⟨hp, ew61⟩
          replace h9 := h9.ext hlow hB ew61
          replace hE := hE.trans (Below.mono ew61 hB)
          replace h3 := h3.ext ew61
          replace h5 := h5.ext ew61
          replace ht := Rep.ext ht ew61
          replace hs := Rep.ext hs ew61
          replace h7 := h7.ext ew61
          replace hx := Rep.ext hx ew61
          replace hlow := hlow.ext ew61
          replace hB := Nat.le_trans hB ew61.size
          obtain ⟨kvp, rfl, opp, nmp, n64p, hkp⟩ := ty_open hp
          refine l_cons (o_st tbOk h9.box rfl rfl rfl rfl (Rep.one hp) rfl rfl ?_)
          intro w62 hw62 qw62 bew62
          have uw62 : UpdB _ _ _ := ⟨qw62, bew62⟩
          have sw62 := uw62.stp h9.inM hlow h9.ge
          have frw62 := qw62.2
          replace hE := hE.trans sw62.below
          replace h3 := h3.stp sw62
          replace h5 := h5.stp sw62
          replace ht := Rep.stp ht sw62
          replace hs := Rep.stp hs sw62
          replace h7 := h7.stp sw62
          replace hx := Rep.stp hx sw62
          replace hp := Rep.stp hp sw62
          replace hsub := fun b h => sw62.sub b (hsub b h)
          replace hlow := sw62.low
          replace hB := Nat.le_trans hB sw62.upd.1
          replace h9 : MB w.heap.size _ w62 b9 _ [.int .u8 (putF 10 n s t).op, .string (putF 10 n s t).name, .int .i64 (putF 10 n s t).n, kvp] := ⟨hw62, h9.inM, h9.ge⟩
          refine l_nil ?_
          have hy : (putF 10 n s t) = PutF t n s := by unfold PutF; rw [← hrt]; clear hrt; simp [varOp, *]
          exact x_cut2 ((putF 10 n s t)) (kvp) (s5 rfl rfl rfl rfl rfl) ⟨hy, h9, hp, h3, h5, ht, hs, h7, hx, hlow, hsub, hE, hB⟩
        refine c_skip ?_
        have hy : t = PutF t n s := by unfold PutF; rw [← hrt]; clear hrt; simp [varOp, *]
        exact x_cut2 (t) (kv) (s5 rfl rfl rfl rfl rfl) ⟨hy, h9, ht, h3, h5, ht, hs, h7, hx, hlow, hsub, hE, hB⟩
      exact absurd (c5.symm.trans c25) (by decide)
    clear h3 h5 ht hs h7 hx hlow hsub hE hB h9
    rintro y kvy w12 ⟨hy, h9, hyy, h3, h5, ht, hs, h7, hx, hlow, hsub, hE, hB⟩
    subst hy
    refine q0 ?_
    refine l_cons (o_lds tbOk (fun j v hv => h3.cell j v hv) rfl rfl rfl rfl rfl rfl ?_)
    refine l_cons (o_lds tbOk (fun j v hv => h5.cell j v hv) rfl rfl rfl rfl rfl rfl ?_)
    refine l_cons (o_bs tbOk rfl rfl rfl rfl rfl rfl rfl (sz2 rfl rfl) rfl rfl rfl ?_)
    intro bw63 w63 qbw63 ew63 hbw63
    have nbw63 := nM_of hlow qbw63
    replace h9 := h9.ext hlow hB ew63
    replace hE := hE.trans (Below.mono ew63 hB)
    replace h3 := h3.ext ew63
    replace h5 := h5.ext ew63
    replace ht := Rep.ext ht ew63
    replace hs := Rep.ext hs ew63
    replace h7 := h7.ext ew63
    replace hx := Rep.ext hx ew63
    replace hyy := Rep.ext hyy ew63
    replace hlow := hlow.ext ew63
    replace hB := Nat.le_trans hB ew63.size
    have htwo := lit_sl (l := [t, s]) hbw63 nbw63 (show Rs _ _ [_, _] [t, s] from ⟨ht, hs, trivial⟩) (by simp)
    refine l_p 1 tbOk rfl (q1 (c_seq ?_))
    refine a_beg Ext rfl ?_
    intro w64 ew64
    replace h9 := h9.ext hlow hB ew64
    replace hE := hE.trans (Below.mono ew64 hB)
    replace h3 := h3.ext ew64
    replace h5 := h5.ext ew64
    replace ht := Rep.ext ht ew64
    replace hs := Rep.ext hs ew64
    replace h7 := h7.ext ew64
    replace hx := Rep.ext hx ew64
    replace hyy := Rep.ext hyy ew64
    replace htwo := htwo.ext ew64
    replace hlow := hlow.ext ew64
    replace hB := Nat.le_trans hB ew64.size
    have hS : Ext w64 w64 := ext_refl _
    have D_h3 := h3
    have D_h5 := h5
    have D_h7 := h7
    have D_h9 := h9.box
    have D_htwo := htwo
    refine a_lds 0 tbOk (fun _ hs j v hv => (D_h7.ext hs).cell j v hv) rfl rfl rfl rfl rfl rfl rfl (by kernel_rfl) (fun _ _ _ h => h) hS ?_
    refine a_lds 1 tbOk (fun _ hs j v hv => (D_h9.ext hs).cell j v hv) rfl rfl rfl rfl rfl rfl rfl (by kernel_rfl) (fun _ _ _ h => h) hS ?_
    refine a_bar 2 rfl (by kernel_rfl) (by kernel_rfl) (o_call fo22 rfl rfl rfl (alike_spec _ _ _ _ _ _ hx hyy hlow) ?_)
    rintro _ w65 ⟨rfl, ew65⟩
    replace hS := hS.then ew65
    replace h9 := h9.ext hlow hB ew65
    replace hE := hE.trans (Below.mono ew65 hB)
    replace h3 := h3.ext ew65
    replace h5 := h5.ext ew65
    replace ht := Rep.ext ht ew65
    replace hs := Rep.ext hs ew65
    replace h7 := h7.ext ew65
    replace hx := Rep.ext hx ew65
    replace hyy := Rep.ext hyy ew65
    replace htwo := htwo.ext ew65
    replace hlow := hlow.ext ew65
    replace hB := Nat.le_trans hB ew65.size
    refine a_p 3 tbOk rfl rfl rfl rfl (by kernel_rfl) (fun _ _ _ h => h) hS ?_
    refine a_split 54 _ rfl (fun c27 => ?_) (fun c27 => ?_)
    · refine a_lds 4 tbOk (fun _ hs j v hv => (D_h3.ext hs).cell j v hv) rfl rfl rfl rfl rfl rfl rfl (by kernel_rfl) (fun _ _ _ h => h) hS ?_
      refine a_lds 5 tbOk (fun _ hs j v hv => (D_h5.ext hs).cell j v hv) rfl rfl rfl rfl rfl rfl rfl (by kernel_rfl) (fun _ _ _ h => h) hS ?_
      refine a_p 7 tbOk rfl rfl rfl rfl (by kernel_rfl) (fun _ _ _ h => h) hS ?_
      refine a_build (cells := [.int .u8 4, .string ⟨#[]⟩, .int .i64 0, .slice (some ⟨bw63, 0, none⟩) 2 2]) (css := [[.int .u8 4], [.slice (some ⟨bw63, 0, none⟩) 2 2]]) 8 bd25 rfl rfl rfl rfl rfl rfl (by kernel_rfl) (fun _ _ _ h => h) hS ?_
      have hb4_ : Rep.R (Rw.Add M b9) w65 (.agg #[.int .u8 4, .string ⟨#[]⟩, .int .i64 0, .slice (some ⟨bw63, 0, none⟩) 2 2]) (Ty.mk 4 ⟨#[]⟩ 0 [t, s]) := ty_mk (by decide) (by decide) ⟨by decide, by decide⟩ htwo
      refine a_one 6 rfl (by kernel_rfl) (o_call fo30 rfl rfl rfl (fun_own t s _ _ _ _ ht hs hlow hz hzs) ?_)
      rintro vhm0 w66 ⟨hm0, ew66⟩
      replace hm0 := hm0.repNew hlow
      replace hS := hS.then ew66
      replace h9 := h9.ext hlow hB ew66
      replace hE := hE.trans (Below.mono ew66 hB)
      replace h3 := h3.ext ew66
      replace h5 := h5.ext ew66
      replace ht := Rep.ext ht ew66
      replace hs := Rep.ext hs ew66
      replace h7 := h7.ext ew66
      replace hx := Rep.ext hx ew66
      replace hyy := Rep.ext hyy ew66
      replace htwo := htwo.ext ew66
      replace hb4_ := Rep.ext hb4_ ew66
      replace hlow := hlow.ext ew66
      replace hB := Nat.le_trans hB ew66.size
      refine ⟨hS, ?_⟩
      refine a_bar 9 rfl (by kernel_rfl) (by kernel_rfl) (o_call fo22 rfl rfl rfl (alike_spec _ _ _ _ _ _ hm0 hb4_ hlow) ?_)
      rintro _ w67 ⟨rfl, ew67⟩
      replace hS := hS.then ew67
      replace h9 := h9.ext hlow hB ew67
      replace hE := hE.trans (Below.mono ew67 hB)
      replace h3 := h3.ext ew67
      replace h5 := h5.ext ew67
      replace ht := Rep.ext ht ew67
      replace hs := Rep.ext hs ew67
      replace h7 := h7.ext ew67
      replace hx := Rep.ext hx ew67
      replace hyy := Rep.ext hyy ew67
      replace htwo := htwo.ext ew67
      replace hb4_ := Rep.ext hb4_ ew67
      replace hm0 := Rep.ext hm0 ew67
      replace hlow := hlow.ext ew67
      replace hB := Nat.le_trans hB ew67.size
      refine a_p 10 tbOk rfl rfl rfl rfl (by kernel_rfl) (fun _ _ _ h => h) hS ?_
      refine a_p 11 tbOk rfl rfl rfl rfl (by kernel_rfl) (fun _ _ _ h => h) hS ?_
      refine a_split 62 _ rfl (fun c28 => ?_) (fun c28 => ?_)
      · refine a_lds 12 tbOk (fun _ hs j v hv => (D_h3.ext hs).cell j v hv) rfl rfl rfl rfl rfl rfl rfl (by kernel_rfl) (fun _ _ _ h => h) hS ?_
        refine a_p 14 tbOk rfl rfl rfl rfl (by kernel_rfl) (fun _ _ _ h => h) hS ?_
        refine a_all [13, 15] (by kernel_rfl) rfl (all_cons (i := 13) rfl ?_ (all_cons (i := 15) rfl ?_ all_nil))
        · refine o_call fo31 rfl rfl rfl (rec_own t _ _ _ ht hlow hz) ?_
          rintro vhm1 w68 ⟨hm1, ew68⟩
          replace hm1 := hm1.repNew hlow
          replace hS := hS.then ew68
          replace h9 := h9.ext hlow hB ew68
          replace hE := hE.trans (Below.mono ew68 hB)
          replace h3 := h3.ext ew68
          replace h5 := h5.ext ew68
          replace ht := Rep.ext ht ew68
          replace hs := Rep.ext hs ew68
          replace h7 := h7.ext ew68
          replace hx := Rep.ext hx ew68
          replace hyy := Rep.ext hyy ew68
          replace htwo := htwo.ext ew68
          replace hb4_ := Rep.ext hb4_ ew68
          replace hm0 := Rep.ext hm0 ew68
          replace hlow := hlow.ext ew68
          replace hB := Nat.le_trans hB ew68.size
          refine ⟨hS, ?_⟩
          refine a_one 15 rfl (by kernel_rfl) (o_slh tbOk htwo rfl rfl rfl (j := 1) (by simp) rfl rfl rfl rfl rfl ?_)
          intro vs0 hsl0
          replace hsl0 : Sl _ w68 vs0 [t] := hsl0
          refine ⟨hS, ?_⟩
          refine a_build (cells := [.int .u8 5, .string ⟨#[]⟩, .int .i64 0, vs0]) (css := [[.int .u8 5], [vs0]]) 16 bd25 rfl rfl (by rw [List.map, List.map, List.map, hsl0.cells]; rfl) rfl rfl rfl (by kernel_rfl) (fun _ _ _ h => h) hS ?_
          have hb5_ : Rep.R (Rw.Add M b9) w68 (.agg #[.int .u8 5, .string ⟨#[]⟩, .int .i64 0, vs0]) (Ty.mk 5 ⟨#[]⟩ 0 [t]) := ty_mk (by decide) (by decide) ⟨by decide, by decide⟩ hsl0
          refine a_bar 17 rfl (by kernel_rfl) (by kernel_rfl) (o_call fo22 rfl rfl rfl (alike_spec _ _ _ _ _ _ hm1 hb5_ hlow) ?_)
          rintro _ w69 ⟨rfl, ew69⟩
          replace hS := hS.then ew69
          replace h9 := h9.ext hlow hB ew69
          replace hE := hE.trans (Below.mono ew69 hB)
          replace h3 := h3.ext ew69
          replace h5 := h5.ext ew69
          replace ht := Rep.ext ht ew69
          replace hs := Rep.ext hs ew69
          replace h7 := h7.ext ew69
          replace hx := Rep.ext hx ew69
          replace hyy := Rep.ext hyy ew69
          replace htwo := htwo.ext ew69
          replace hb4_ := Rep.ext hb4_ ew69
          replace hm0 := Rep.ext hm0 ew69
          replace hm1 := Rep.ext hm1 ew69
          replace hsl0 := hsl0.ext ew69
          replace hb5_ := Rep.ext hb5_ ew69
          replace hlow := hlow.ext ew69
          replace hB := Nat.le_trans hB ew69.size
          refine a_p 18 tbOk rfl rfl rfl rfl (by kernel_rfl) (fun _ _ _ h => h) hS ?_
          refine a_p 19 tbOk rfl rfl rfl rfl (by kernel_rfl) (fun _ _ _ h => h) hS ?_
          refine a_split 70 _ rfl (fun c29 => ?_) (fun c29 => ?_)
          · refine a_lds 20 tbOk (fun _ hs j v hv => (D_h3.ext hs).cell j v hv) rfl rfl rfl rfl rfl rfl rfl (by kernel_rfl) (fun _ _ _ h => h) hS ?_
            refine a_p 22 tbOk rfl rfl rfl rfl (by kernel_rfl) (fun _ _ _ h => h) hS ?_
            refine a_all [21, 23] (by kernel_rfl) rfl (all_cons (i := 21) rfl ?_ (all_cons (i := 23) rfl ?_ all_nil))
            · refine o_call fo32 rfl rfl rfl (vnt_own t _ _ _ ht hlow hz) ?_
              rintro vhm2 w70 ⟨hm2, ew70⟩
              replace hm2 := hm2.repNew hlow
              replace hS := hS.then ew70
              replace h9 := h9.ext hlow hB ew70
              replace hE := hE.trans (Below.mono ew70 hB)
              replace h3 := h3.ext ew70
              replace h5 := h5.ext ew70
              replace ht := Rep.ext ht ew70
              replace hs := Rep.ext hs ew70
              replace h7 := h7.ext ew70
              replace hx := Rep.ext hx ew70
              replace hyy := Rep.ext hyy ew70
              replace htwo := htwo.ext ew70
              replace hb4_ := Rep.ext hb4_ ew70
              replace hm0 := Rep.ext hm0 ew70
              replace hm1 := Rep.ext hm1 ew70
              replace hsl0 := hsl0.ext ew70
              replace hb5_ := Rep.ext hb5_ ew70
              replace hlow := hlow.ext ew70
              replace hB := Nat.le_trans hB ew70.size
              refine ⟨hS, ?_⟩
              refine a_one 23 rfl (by kernel_rfl) (o_slh tbOk htwo rfl rfl rfl (j := 1) (by simp) rfl rfl rfl rfl rfl ?_)
              intro vs1 hsl1
              replace hsl1 : Sl _ w70 vs1 [t] := hsl1
              refine ⟨hS, ?_⟩
              refine a_build (cells := [.int .u8 6, .string ⟨#[]⟩, .int .i64 0, vs1]) (css := [[.int .u8 6], [vs1]]) 24 bd25 rfl rfl (by rw [List.map, List.map, List.map, hsl1.cells]; rfl) rfl rfl rfl (by kernel_rfl) (fun _ _ _ h => h) hS ?_
              have hb6_ : Rep.R (Rw.Add M b9) w70 (.agg #[.int .u8 6, .string ⟨#[]⟩, .int .i64 0, vs1]) (Ty.mk 6 ⟨#[]⟩ 0 [t]) := ty_mk (by decide) (by decide) ⟨by decide, by decide⟩ hsl1
              refine a_bar 25 rfl (by kernel_rfl) (by kernel_rfl) (o_call fo22 rfl rfl rfl (alike_spec _ _ _ _ _ _ hm2 hb6_ hlow) ?_)
              rintro _ w71 ⟨rfl, ew71⟩
              replace hS := hS.then ew71
              replace h9 := h9.ext hlow hB ew71
              replace hE := hE.trans (Below.mono ew71 hB)
              replace h3 := h3.ext ew71
              replace h5 := h5.ext ew71
              replace ht := Rep.ext ht ew71
              replace hs := Rep.ext hs ew71
              replace h7 := h7.ext ew71
              replace hx := Rep.ext hx ew71
              replace hyy := Rep.ext hyy ew71
              replace htwo := htwo.ext ew71
              replace hb4_ := Rep.ext hb4_ ew71
              replace hm0 := Rep.ext hm0 ew71
              replace hm1 := Rep.ext hm1 ew71
              replace hsl0 := hsl0.ext ew71
              replace hb5_ := Rep.ext hb5_ ew71
              replace hm2 := Rep.ext hm2 ew71
              replace hsl1 := hsl1.ext ew71
              replace hb6_ := Rep.ext hb6_ ew71
              replace hlow := hlow.ext ew71
              replace hB := Nat.le_trans hB ew71.size
              refine a_p 26 tbOk rfl rfl rfl rfl (by kernel_rfl) (fun _ _ _ h => h) hS ?_
              refine a_p 27 tbOk rfl rfl rfl rfl (by kernel_rfl) (fun _ _ _ h => h) hS ?_
              refine a_split 78 _ rfl (fun c30 => ?_) (fun c30 => ?_)
              · refine a_build (cells := [.int .u8 1, .string ⟨#[]⟩, .int .i64 0, .slice none 0 0]) (css := [[.int .u8 1]]) 29 bd25 rfl rfl rfl rfl rfl rfl (by kernel_rfl) (fun _ _ _ h => h) hS ?_
                have hb1_ : Rep.R (Rw.Add M b9) w71 (.agg #[.int .u8 1, .string ⟨#[]⟩, .int .i64 0, .slice none 0 0]) (Ty.mk 1 ⟨#[]⟩ 0 []) := ty_mk (by decide) (by decide) ⟨by decide, by decide⟩ sl_nil
                refine a_one 28 rfl (by kernel_rfl) (o_call fo33 rfl rfl rfl (int_spec _ _ hlow) ?_)
                rintro vhm3 w72 ⟨hm3, ew72⟩
                replace hS := hS.then ew72
                replace h9 := h9.ext hlow hB ew72
                replace hE := hE.trans (Below.mono ew72 hB)
                replace h3 := h3.ext ew72
                replace h5 := h5.ext ew72
                replace ht := Rep.ext ht ew72
                replace hs := Rep.ext hs ew72
                replace h7 := h7.ext ew72
                replace hx := Rep.ext hx ew72
                replace hyy := Rep.ext hyy ew72
                replace htwo := htwo.ext ew72
                replace hb4_ := Rep.ext hb4_ ew72
                replace hm0 := Rep.ext hm0 ew72
                replace hm1 := Rep.ext hm1 ew72
                replace hsl0 := hsl0.ext ew72
                replace hb5_ := Rep.ext hb5_ ew72
                replace hm2 := Rep.ext hm2 ew72
                replace hsl1 := hsl1.ext ew72
                replace hb6_ := Rep.ext hb6_ ew72
                replace hb1_ := Rep.ext hb1_ ew72
                replace hlow := hlow.ext ew72
                replace hB := Nat.le_trans hB ew72.size
                refine ⟨hS, ?_⟩
                refine a_bar 30 rfl (by kernel_rfl) (by kernel_rfl) (o_call fo22 rfl rfl rfl (alike_spec _ _ _ _ _ _ hm3 hb1_ hlow) ?_)
                rintro _ w73 ⟨rfl, ew73⟩
                replace hS := hS.then ew73
                replace h9 := h9.ext hlow hB ew73
                replace hE := hE.trans (Below.mono ew73 hB)
                replace h3 := h3.ext ew73
                replace h5 := h5.ext ew73
                replace ht := Rep.ext ht ew73
                replace hs := Rep.ext hs ew73
                replace h7 := h7.ext ew73
                replace hx := Rep.ext hx ew73
                replace hyy := Rep.ext hyy ew73
                replace htwo := htwo.ext ew73
                replace hb4_ := Rep.ext hb4_ ew73
                replace hm0 := Rep.ext hm0 ew73
                replace hm1 := Rep.ext hm1 ew73
                replace hsl0 := hsl0.ext ew73
                replace hb5_ := Rep.ext hb5_ ew73
                replace hm2 := Rep.ext hm2 ew73
                replace hsl1 := hsl1.ext ew73
                replace hb6_ := Rep.ext hb6_ ew73
                replace hb1_ := Rep.ext hb1_ ew73
                replace hm3 := Rep.ext hm3 ew73
                replace hlow := hlow.ext ew73
                replace hB := Nat.le_trans hB ew73.size
                refine a_p 31 tbOk rfl rfl rfl rfl (by kernel_rfl) (fun _ _ _ h => h) hS ?_
                refine a_p 32 tbOk rfl rfl rfl rfl (by kernel_rfl) (fun _ _ _ h => h) hS ?_
                refine a_split 83 _ rfl (fun c31 => ?_) (fun c31 => ?_)
                · refine a_build (cells := [.int .u8 2, .string ⟨#[]⟩, .int .i64 0, .slice none 0 0]) (css := [[.int .u8 2]]) 34 bd25 rfl rfl rfl rfl rfl rfl (by kernel_rfl) (fun _ _ _ h => h) hS ?_
                  have hb2_ : Rep.R (Rw.Add M b9) w73 (.agg #[.int .u8 2, .string ⟨#[]⟩, .int .i64 0, .slice none 0 0]) (Ty.mk 2 ⟨#[]⟩ 0 []) := ty_mk (by decide) (by decide) ⟨by decide, by decide⟩ sl_nil
                  refine a_one 33 rfl (by kernel_rfl) (o_call fo34 rfl rfl rfl (bool_spec _ _ hlow) ?_)
                  rintro vhm4 w74 ⟨hm4, ew74⟩
                  replace hS := hS.then ew74
                  replace h9 := h9.ext hlow hB ew74
                  replace hE := hE.trans (Below.mono ew74 hB)
                  replace h3 := h3.ext ew74
                  replace h5 := h5.ext ew74
                  replace ht := Rep.ext ht ew74
                  replace hs := Rep.ext hs ew74
                  replace h7 := h7.ext ew74
                  replace hx := Rep.ext hx ew74
                  replace hyy := Rep.ext hyy ew74
                  replace htwo := htwo.ext ew74
                  replace hb4_ := Rep.ext hb4_ ew74
                  replace hm0 := Rep.ext hm0 ew74
                  replace hm1 := Rep.ext hm1 ew74
                  replace hsl0 := hsl0.ext ew74
                  replace hb5_ := Rep.ext hb5_ ew74
                  replace hm2 := Rep.ext hm2 ew74
                  replace hsl1 := hsl1.ext ew74
                  replace hb6_ := Rep.ext hb6_ ew74
                  replace hb1_ := Rep.ext hb1_ ew74
                  replace hm3 := Rep.ext hm3 ew74
                  replace hb2_ := Rep.ext hb2_ ew74
                  replace hlow := hlow.ext ew74
                  replace hB := Nat.le_trans hB ew74.size
                  refine ⟨hS, ?_⟩
                  refine a_bar 35 rfl (by kernel_rfl) (by kernel_rfl) (o_call fo22 rfl rfl rfl (alike_spec _ _ _ _ _ _ hm4 hb2_ hlow) ?_)
                  rintro _ w75 ⟨rfl, ew75⟩
                  replace hS := hS.then ew75
                  replace h9 := h9.ext hlow hB ew75
                  replace hE := hE.trans (Below.mono ew75 hB)
                  replace h3 := h3.ext ew75
                  replace h5 := h5.ext ew75
                  replace ht := Rep.ext ht ew75
                  replace hs := Rep.ext hs ew75
                  replace h7 := h7.ext ew75
                  replace hx := Rep.ext hx ew75
                  replace hyy := Rep.ext hyy ew75
                  replace htwo := htwo.ext ew75
                  replace hb4_ := Rep.ext hb4_ ew75
                  replace hm0 := Rep.ext hm0 ew75
                  replace hm1 := Rep.ext hm1 ew75
                  replace hsl0 := hsl0.ext ew75
                  replace hb5_ := Rep.ext hb5_ ew75
                  replace hm2 := Rep.ext hm2 ew75
                  replace hsl1 := hsl1.ext ew75
                  replace hb6_ := Rep.ext hb6_ ew75
                  replace hb1_ := Rep.ext hb1_ ew75
                  replace hm3 := Rep.ext hm3 ew75
                  replace hb2_ := Rep.ext hb2_ ew75
                  replace hm4 := Rep.ext hm4 ew75
                  replace hlow := hlow.ext ew75
                  replace hB := Nat.le_trans hB ew75.size
                  refine a_p 36 tbOk rfl rfl rfl rfl (by kernel_rfl) (fun _ _ _ h => h) hS ?_
                  refine a_p 37 tbOk rfl rfl rfl rfl (by kernel_rfl) (fun _ _ _ h => h) hS ?_
                  refine a_split 88 _ rfl (fun c32 => ?_) (fun c32 => ?_)
                  · refine a_build (cells := [.int .u8 3, .string ⟨#[]⟩, .int .i64 0, .slice none 0 0]) (css := [[.int .u8 3]]) 39 bd25 rfl rfl rfl rfl rfl rfl (by kernel_rfl) (fun _ _ _ h => h) hS ?_
                    have hb3_ : Rep.R (Rw.Add M b9) w75 (.agg #[.int .u8 3, .string ⟨#[]⟩, .int .i64 0, .slice none 0 0]) (Ty.mk 3 ⟨#[]⟩ 0 []) := ty_mk (by decide) (by decide) ⟨by decide, by decide⟩ sl_nil
                    refine a_one 38 rfl (by kernel_rfl) (o_call fo35 rfl rfl rfl (dyn_spec _ _ hlow) ?_)
                    rintro vhm5 w76 ⟨hm5, ew76⟩
                    replace hS := hS.then ew76
                    replace h9 := h9.ext hlow hB ew76
                    replace hE := hE.trans (Below.mono ew76 hB)
                    replace h3 := h3.ext ew76
                    replace h5 := h5.ext ew76
                    replace ht := Rep.ext ht ew76
                    replace hs := Rep.ext hs ew76
                    replace h7 := h7.ext ew76
                    replace hx := Rep.ext hx ew76
                    replace hyy := Rep.ext hyy ew76
                    replace htwo := htwo.ext ew76
                    replace hb4_ := Rep.ext hb4_ ew76
                    replace hm0 := Rep.ext hm0 ew76
                    replace hm1 := Rep.ext hm1 ew76
                    replace hsl0 := hsl0.ext ew76
                    replace hb5_ := Rep.ext hb5_ ew76
                    replace hm2 := Rep.ext hm2 ew76
                    replace hsl1 := hsl1.ext ew76
                    replace hb6_ := Rep.ext hb6_ ew76
                    replace hb1_ := Rep.ext hb1_ ew76
                    replace hm3 := Rep.ext hm3 ew76
                    replace hb2_ := Rep.ext hb2_ ew76
                    replace hm4 := Rep.ext hm4 ew76
                    replace hb3_ := Rep.ext hb3_ ew76
                    replace hlow := hlow.ext ew76
                    replace hB := Nat.le_trans hB ew76.size
                    refine ⟨hS, ?_⟩
                    refine a_bar 40 rfl (by kernel_rfl) (by kernel_rfl) (o_call fo22 rfl rfl rfl (alike_spec _ _ _ _ _ _ hm5 hb3_ hlow) ?_)
                    rintro _ w77 ⟨rfl, ew77⟩
                    replace hS := hS.then ew77
                    replace h9 := h9.ext hlow hB ew77
                    replace hE := hE.trans (Below.mono ew77 hB)
                    replace h3 := h3.ext ew77
                    replace h5 := h5.ext ew77
                    replace ht := Rep.ext ht ew77
                    replace hs := Rep.ext hs ew77
                    replace h7 := h7.ext ew77
                    replace hx := Rep.ext hx ew77
                    replace hyy := Rep.ext hyy ew77
                    replace htwo := htwo.ext ew77
                    replace hb4_ := Rep.ext hb4_ ew77
                    replace hm0 := Rep.ext hm0 ew77
                    replace hm1 := Rep.ext hm1 ew77
                    replace hsl0 := hsl0.ext ew77
                    replace hb5_ := Rep.ext hb5_ ew77
                    replace hm2 := Rep.ext hm2 ew77
                    replace hsl1 := hsl1.ext ew77
                    replace hb6_ := Rep.ext hb6_ ew77
                    replace hb1_ := Rep.ext hb1_ ew77
                    replace hm3 := Rep.ext hm3 ew77
                    replace hb2_ := Rep.ext hb2_ ew77
                    replace hm4 := Rep.ext hm4 ew77
                    replace hb3_ := Rep.ext hb3_ ew77
                    replace hm5 := Rep.ext hm5 ew77
                    replace hlow := hlow.ext ew77
                    replace hB := Nat.le_trans hB ew77.size
                    refine a_p 41 tbOk rfl rfl rfl rfl (by kernel_rfl) (fun _ _ _ h => h) hS ?_
                    refine a_p 42 tbOk rfl rfl rfl rfl (by kernel_rfl) (fun _ _ _ h => h) hS ?_
                    refine a_end (by kernel_rfl) ?_
                    refine x_seq (c_ret (x_ret1 rfl rfl ?_))
                    exact ⟨by first | rfl | rw [cl_true rfl] | simp_all, hE⟩
                  exact absurd rfl (cl_not c32)
                exact absurd rfl (cl_not c31)
              exact absurd rfl (cl_not c30)
            refine o_slh tbOk htwo rfl rfl rfl (j := 1) (by simp) rfl rfl rfl rfl rfl ?_
            intro vs1 hsl1
            replace hsl1 : Sl _ w69 vs1 [t] := hsl1
            refine ⟨hS, ?_⟩
            refine a_build (cells := [.int .u8 6, .string ⟨#[]⟩, .int .i64 0, vs1]) (css := [[.int .u8 6], [vs1]]) 24 bd25 rfl rfl (by rw [List.map, List.map, List.map, hsl1.cells]; rfl) rfl rfl rfl (by kernel_rfl) (fun _ _ _ h => h) hS ?_
            have hb6_ : Rep.R (Rw.Add M b9) w69 (.agg #[.int .u8 6, .string ⟨#[]⟩, .int .i64 0, vs1]) (Ty.mk 6 ⟨#[]⟩ 0 [t]) := ty_mk (by decide) (by decide) ⟨by decide, by decide⟩ hsl1
            refine a_one 21 rfl (by kernel_rfl) (o_call fo32 rfl rfl rfl (vnt_own t _ _ _ ht hlow hz) ?_)
            rintro vhm2 w78 ⟨hm2, ew78⟩
            replace hm2 := hm2.repNew hlow
            replace hS := hS.then ew78
            replace h9 := h9.ext hlow hB ew78
            replace hE := hE.trans (Below.mono ew78 hB)
            replace h3 := h3.ext ew78
            replace h5 := h5.ext ew78
            replace ht := Rep.ext ht ew78
            replace hs := Rep.ext hs ew78
            replace h7 := h7.ext ew78
            replace hx := Rep.ext hx ew78
            replace hyy := Rep.ext hyy ew78
            replace htwo := htwo.ext ew78
            replace hb4_ := Rep.ext hb4_ ew78
            replace hm0 := Rep.ext hm0 ew78
            replace hm1 := Rep.ext hm1 ew78
            replace hsl0 := hsl0.ext ew78
            replace hb5_ := Rep.ext hb5_ ew78
            replace hsl1 := hsl1.ext ew78
            replace hb6_ := Rep.ext hb6_ ew78
            replace hlow := hlow.ext ew78
            replace hB := Nat.le_trans hB ew78.size
            refine ⟨hS, ?_⟩
            refine a_bar 25 rfl (by kernel_rfl) (by kernel_rfl) (o_call fo22 rfl rfl rfl (alike_spec _ _ _ _ _ _ hm2 hb6_ hlow) ?_)
            rintro _ w79 ⟨rfl, ew79⟩
            replace hS := hS.then ew79
            replace h9 := h9.ext hlow hB ew79
            replace hE := hE.trans (Below.mono ew79 hB)
            replace h3 := h3.ext ew79
            replace h5 := h5.ext ew79
            replace ht := Rep.ext ht ew79
            replace hs := Rep.ext hs ew79
            replace h7 := h7.ext ew79
            replace hx := Rep.ext hx ew79
            replace hyy := Rep.ext hyy ew79
            replace htwo := htwo.ext ew79
            replace hb4_ := Rep.ext hb4_ ew79
            replace hm0 := Rep.ext hm0 ew79
            replace hm1 := Rep.ext hm1 ew79
            replace hsl0 := hsl0.ext ew79
            replace hb5_ := Rep.ext hb5_ ew79
            replace hsl1 := hsl1.ext ew79
            replace hb6_ := Rep.ext hb6_ ew79
            replace hm2 := Rep.ext hm2 ew79
            replace hlow := hlow.ext ew79
            replace hB := Nat.le_trans hB ew79.size
            refine a_p 26 tbOk rfl rfl rfl rfl (by kernel_rfl) (fun _ _ _ h => h) hS ?_
            refine a_p 27 tbOk rfl rfl rfl rfl (by kernel_rfl) (fun _ _ _ h => h) hS ?_
            refine a_split 78 _ rfl (fun c33 => ?_) (fun c33 => ?_)
            · refine a_build (cells := [.int .u8 1, .string ⟨#[]⟩, .int .i64 0, .slice none 0 0]) (css := [[.int .u8 1]]) 29 bd25 rfl rfl rfl rfl rfl rfl (by kernel_rfl) (fun _ _ _ h => h) hS ?_
              have hb1_ : Rep.R (Rw.Add M b9) w79 (.agg #[.int .u8 1, .string ⟨#[]⟩, .int .i64 0, .slice none 0 0]) (Ty.mk 1 ⟨#[]⟩ 0 []) := ty_mk (by decide) (by decide) ⟨by decide, by decide⟩ sl_nil
              refine a_one 28 rfl (by kernel_rfl) (o_call fo33 rfl rfl rfl (int_spec _ _ hlow) ?_)
              rintro vhm3 w80 ⟨hm3, ew80⟩
              replace hS := hS.then ew80
              replace h9 := h9.ext hlow hB ew80
              replace hE := hE.trans (Below.mono ew80 hB)
              replace h3 := h3.ext ew80
              replace h5 := h5.ext ew80
              replace ht := Rep.ext ht ew80
              replace hs := Rep.ext hs ew80
              replace h7 := h7.ext ew80
              replace hx := Rep.ext hx ew80
              replace hyy := Rep.ext hyy ew80
              replace htwo := htwo.ext ew80
              replace hb4_ := Rep.ext hb4_ ew80
              replace hm0 := Rep.ext hm0 ew80
              replace hm1 := Rep.ext hm1 ew80
              replace hsl0 := hsl0.ext ew80
              replace hb5_ := Rep.ext hb5_ ew80
              replace hsl1 := hsl1.ext ew80
              replace hb6_ := Rep.ext hb6_ ew80
              replace hm2 := Rep.ext hm2 ew80
              replace hb1_ := Rep.ext hb1_ ew80
              replace hlow := hlow.ext ew80
              replace hB := Nat.le_trans hB ew80.size
              refine ⟨hS, ?_⟩
              refine a_bar 30 rfl (by kernel_rfl) (by kernel_rfl) (o_call fo22 rfl rfl rfl (alike_spec _ _ _ _ _ _ hm3 hb1_ hlow) ?_)
              rintro _ w81 ⟨rfl, ew81⟩
              replace hS := hS.then ew81
              replace h9 := h9.ext hlow hB ew81
              replace hE := hE.trans (Below.mono ew81 hB)
              replace h3 := h3.ext ew81
              replace h5 := h5.ext ew81
              replace ht := Rep.ext ht ew81
              replace hs := Rep.ext hs ew81
              replace h7 := h7.ext ew81
              replace hx := Rep.ext hx ew81
              replace hyy := Rep.ext hyy ew81
              replace htwo := htwo.ext ew81
              replace hb4_ := Rep.ext hb4_ ew81
              replace hm0 := Rep.ext hm0 ew81
              replace hm1 := Rep.ext hm1 ew81
              replace hsl0 := hsl0.ext ew81
              replace hb5_ := Rep.ext hb5_ ew81
              replace hsl1 := hsl1.ext ew81
              replace hb6_ := Rep.ext hb6_ ew81
              replace hm2 := Rep.ext hm2 ew81
              replace hb1_ := Rep.ext hb1_ ew81
              replace hm3 := Rep.ext hm3 ew81
              replace hlow := hlow.ext ew81
              replace hB := Nat.le_trans hB ew81.size
              refine a_p 31 tbOk rfl rfl rfl rfl (by kernel_rfl) (fun _ _ _ h => h) hS ?_
              refine a_p 32 tbOk rfl rfl rfl rfl (by kernel_rfl) (fun _ _ _ h => h) hS ?_
              refine a_split 83 _ rfl (fun c34 => ?_) (fun c34 => ?_)
              · refine a_build (cells := [.int .u8 2, .string ⟨#[]⟩, .int .i64 0, .slice none 0 0]) (css := [[.int .u8 2]]) 34 bd25 rfl rfl rfl rfl rfl rfl (by kernel_rfl) (fun _ _ _ h => h) hS ?_
                have hb2_ : Rep.R (Rw.Add M b9) w81 (.agg #[.int .u8 2, .string ⟨#[]⟩, .int .i64 0, .slice none 0 0]) (Ty.mk 2 ⟨#[]⟩ 0 []) := ty_mk (by decide) (by decide) ⟨by decide, by decide⟩ sl_nil
                refine a_one 33 rfl (by kernel_rfl) (o_call fo34 rfl rfl rfl (bool_spec _ _ hlow) ?_)
                rintro vhm4 w82 ⟨hm4, ew82⟩
                replace hS := hS.then ew82
                replace h9 := h9.ext hlow hB ew82
                replace hE := hE.trans (Below.mono ew82 hB)
                replace h3 := h3.ext ew82
                replace h5 := h5.ext ew82
                replace ht := Rep.ext ht ew82
                replace hs := Rep.ext hs ew82
                replace h7 := h7.ext ew82
                replace hx := Rep.ext hx ew82
                replace hyy := Rep.ext hyy ew82
                replace htwo := htwo.ext ew82
                replace hb4_ := Rep.ext hb4_ ew82
                replace hm0 := Rep.ext hm0 ew82
                replace hm1 := Rep.ext hm1 ew82
                replace hsl0 := hsl0.ext ew82
                replace hb5_ := Rep.ext hb5_ ew82
                replace hsl1 := hsl1.ext ew82
                replace hb6_ := Rep.ext hb6_ ew82
                replace hm2 := Rep.ext hm2 ew82
                replace hb1_ := Rep.ext hb1_ ew82
                replace hm3 := Rep.ext hm3 ew82
                replace hb2_ := Rep.ext hb2_ ew82
                replace hlow := hlow.ext ew82
                replace hB := Nat.le_trans hB ew82.size
                refine ⟨hS, ?_⟩
                refine a_bar 35 rfl (by kernel_rfl) (by kernel_rfl) (o_call fo22 rfl rfl rfl (alike_spec _ _ _ _ _ _ hm4 hb2_ hlow) ?_)
                rintro _ w83 ⟨rfl, ew83⟩
                replace hS := hS.then ew83
                replace h9 := h9.ext hlow hB ew83
                replace hE := hE.trans (Below.mono ew83 hB)
                replace h3 := h3.ext ew83
                replace h5 := h5.ext ew83
                replace ht := Rep.ext ht ew83
                replace hs := Rep.ext hs ew83
                replace h7 := h7.ext ew83
                replace hx := Rep.ext hx ew83
                replace hyy := Rep.ext hyy ew83
                replace htwo := htwo.ext ew83
                replace hb4_ := Rep.ext hb4_ ew83
                replace hm0 := Rep.ext hm0 ew83
                replace hm1 := Rep.ext hm1 ew83
                replace hsl0 := hsl0.ext ew83
                replace hb5_ := Rep.ext hb5_ ew83
                replace hsl1 := hsl1.ext ew83
                replace hb6_ := Rep.ext hb6_ ew83
                replace hm2 := Rep.ext hm2 ew83
                replace hb1_ := Rep.ext hb1_ ew83
                replace hm3 := Rep.ext hm3 ew83
                replace hb2_ := Rep.ext hb2_ ew83
                replace hm4 := Rep.ext hm4 ew83
                replace hlow := hlow.ext ew83
                replace hB := Nat.le_trans hB ew83.size
                refine a_p 36 tbOk rfl rfl rfl rfl (by kernel_rfl) (fun _ _ _ h => h) hS ?_
                refine a_p 37 tbOk rfl rfl rfl rfl (by kernel_rfl) (fun _ _ _ h => h) hS ?_
                refine a_split 88 _ rfl (fun c35 => ?_) (fun c35 => ?_)
                · refine a_build (cells := [.int .u8 3, .string ⟨#[]⟩, .int .i64 0, .slice none 0 0]) (css := [[.int .u8 3]]) 39 bd25 rfl rfl rfl rfl rfl rfl (by kernel_rfl) (fun _ _ _ h => h) hS ?_
                  have hb3_ : Rep.R (Rw.Add M b9) w83 (.agg #[.int .u8 3, .string ⟨#[]⟩, .int .i64 0, .slice none 0 0]) (Ty.mk 3 ⟨#[]⟩ 0 []) := ty_mk (by decide) (by decide) ⟨by decide, by decide⟩ sl_nil
                  refine a_one 38 rfl (by kernel_rfl) (o_call fo35 rfl rfl rfl (dyn_spec _ _ hlow) ?_)
                  rintro vhm5 w84 ⟨hm5, ew84⟩
                  replace hS := hS.then ew84
                  replace h9 := h9.ext hlow hB ew84
                  replace hE := hE.trans (Below.mono ew84 hB)
                  replace h3 := h3.ext ew84
                  replace h5 := h5.ext ew84
                  replace ht := Rep.ext ht ew84
                  replace hs := Rep.ext hs ew84
                  replace h7 := h7.ext ew84
                  replace hx := Rep.ext hx ew84
                  replace hyy := Rep.ext hyy ew84
                  replace htwo := htwo.ext ew84
                  replace hb4_ := Rep.ext hb4_ ew84
                  replace hm0 := Rep.ext hm0 ew84
                  replace hm1 := Rep.ext hm1 ew84
                  replace hsl0 := hsl0.ext ew84
                  replace hb5_ := Rep.ext hb5_ ew84
                  replace hsl1 := hsl1.ext ew84
                  replace hb6_ := Rep.ext hb6_ ew84
                  replace hm2 := Rep.ext hm2 ew84
                  replace hb1_ := Rep.ext hb1_ ew84
                  replace hm3 := Rep.ext hm3 ew84
                  replace hb2_ := Rep.ext hb2_ ew84
                  replace hm4 := Rep.ext hm4 ew84
                  replace hb3_ := Rep.ext hb3_ ew84
                  replace hlow := hlow.ext ew84
                  replace hB := Nat.le_trans hB ew84.size
                  refine ⟨hS, ?_⟩
                  refine a_bar 40 rfl (by kernel_rfl) (by kernel_rfl) (o_call fo22 rfl rfl rfl (alike_spec _ _ _ _ _ _ hm5 hb3_ hlow) ?_)
                  rintro _ w85 ⟨rfl, ew85⟩
                  replace hS := hS.then ew85
                  replace h9 := h9.ext hlow hB ew85
                  replace hE := hE.trans (Below.mono ew85 hB)
                  replace h3 := h3.ext ew85
                  replace h5 := h5.ext ew85
                  replace ht := Rep.ext ht ew85
                  replace hs := Rep.ext hs ew85
                  replace h7 := h7.ext ew85
                  replace hx := Rep.ext hx ew85
                  replace hyy := Rep.ext hyy ew85
                  replace htwo := htwo.ext ew85
                  replace hb4_ := Rep.ext hb4_ ew85
                  replace hm0 := Rep.ext hm0 ew85
                  replace hm1 := Rep.ext hm1 ew85
                  replace hsl0 := hsl0.ext ew85
                  replace hb5_ := Rep.ext hb5_ ew85
                  replace hsl1 := hsl1.ext ew85
                  replace hb6_ := Rep.ext hb6_ ew85
                  replace hm2 := Rep.ext hm2 ew85
                  replace hb1_ := Rep.ext hb1_ ew85
                  replace hm3 := Rep.ext hm3 ew85
                  replace hb2_ := Rep.ext hb2_ ew85
                  replace hm4 := Rep.ext hm4 ew85
                  replace hb3_ := Rep.ext hb3_ ew85
                  replace hm5 := Rep.ext hm5 ew85
                  replace hlow := hlow.ext ew85
                  replace hB := Nat.le_trans hB ew85.size
                  refine a_p 41 tbOk rfl rfl rfl rfl (by kernel_rfl) (fun _ _ _ h => h) hS ?_
                  refine a_p 42 tbOk rfl rfl rfl rfl (by kernel_rfl) (fun _ _ _ h => h) hS ?_
                  refine a_end (by kernel_rfl) ?_
                  refine x_seq (c_ret (x_ret1 rfl rfl ?_))
                  exact ⟨by first | rfl | rw [cl_true rfl] | simp_all, hE⟩
                exact absurd rfl (cl_not c35)
              exact absurd rfl (cl_not c34)
            exact absurd rfl (cl_not c33)
          exact absurd rfl (cl_not c29)
        refine o_slh tbOk htwo rfl rfl rfl (j := 1) (by simp) rfl rfl rfl rfl rfl ?_
        intro vs0 hsl0
        replace hsl0 : Sl _ w67 vs0 [t] := hsl0
        refine ⟨hS, ?_⟩
        refine a_build (cells := [.int .u8 5, .string ⟨#[]⟩, .int .i64 0, vs0]) (css := [[.int .u8 5], [vs0]]) 16 bd25 rfl rfl (by rw [List.map, List.map, List.map, hsl0.cells]; rfl) rfl rfl rfl (by kernel_rfl) (fun _ _ _ h => h) hS ?_
        have hb5_ : Rep.R (Rw.Add M b9) w67 (.agg #[.int .u8 5, .string ⟨#[]⟩, .int .i64 0, vs0]) (Ty.mk 5 ⟨#[]⟩ 0 [t]) := ty_mk (by decide) (by decide) ⟨by decide, by decide⟩ hsl0
        refine a_one 13 rfl (by kernel_rfl) (o_call fo31 rfl rfl rfl (rec_own t _ _ _ ht hlow hz) ?_)
        rintro vhm1 w86 ⟨hm1, ew86⟩
        replace hm1 := hm1.repNew hlow
        replace hS := hS.then ew86
        replace h9 := h9.ext hlow hB ew86
        replace hE := hE.trans (Below.mono ew86 hB)
        replace h3 := h3.ext ew86
        replace h5 := h5.ext ew86
        replace ht := Rep.ext ht ew86
        replace hs := Rep.ext hs ew86
        replace h7 := h7.ext ew86
        replace hx := Rep.ext hx ew86
        replace hyy := Rep.ext hyy ew86
        replace htwo := htwo.ext ew86
        replace hb4_ := Rep.ext hb4_ ew86
        replace hm0 := Rep.ext hm0 ew86
        replace hsl0 := hsl0.ext ew86
        replace hb5_ := Rep.ext hb5_ ew86
        replace hlow := hlow.ext ew86
        replace hB := Nat.le_trans hB ew86.size
        refine ⟨hS, ?_⟩
        refine a_bar 17 rfl (by kernel_rfl) (by kernel_rfl) (o_call fo22 rfl rfl rfl (alike_spec _ _ _ _ _ _ hm1 hb5_ hlow) ?_)
        rintro _ w87 ⟨rfl, ew87⟩
        replace hS := hS.then ew87
        replace h9 := h9.ext hlow hB ew87
        replace hE := hE.trans (Below.mono ew87 hB)
        replace h3 := h3.ext ew87
        replace h5 := h5.ext ew87
        replace ht := Rep.ext ht ew87
        replace hs := Rep.ext hs ew87
        replace h7 := h7.ext ew87
        replace hx := Rep.ext hx ew87
        replace hyy := Rep.ext hyy ew87
        replace htwo := htwo.ext ew87
        replace hb4_ := Rep.ext hb4_ ew87
        replace hm0 := Rep.ext hm0 ew87
        replace hsl0 := hsl0.ext ew87
        replace hb5_ := Rep.ext hb5_ ew87
        replace hm1 := Rep.ext hm1 ew87
        replace hlow := hlow.ext ew87
        replace hB := Nat.le_trans hB ew87.size
        refine a_p 18 tbOk rfl rfl rfl rfl (by kernel_rfl) (fun _ _ _ h => h) hS ?_
        refine a_p 19 tbOk rfl rfl rfl rfl (by kernel_rfl) (fun _ _ _ h => h) hS ?_
        refine a_split 70 _ rfl (fun c36 => ?_) (fun c36 => ?_)
        · refine a_lds 20 tbOk (fun _ hs j v hv => (D_h3.ext hs).cell j v hv) rfl rfl rfl rfl rfl rfl rfl (by kernel_rfl) (fun _ _ _ h => h) hS ?_
          refine a_p 22 tbOk rfl rfl rfl rfl (by kernel_rfl) (fun _ _ _ h => h) hS ?_
          refine a_all [21, 23] (by kernel_rfl) rfl (all_cons (i := 21) rfl ?_ (all_cons (i := 23) rfl ?_ all_nil))
          · refine o_call fo32 rfl rfl rfl (vnt_own t _ _ _ ht hlow hz) ?_
            rintro vhm2 w88 ⟨hm2, ew88⟩
            replace hm2 := hm2.repNew hlow
            replace hS := hS.then ew88
            replace h9 := h9.ext hlow hB ew88
            replace hE := hE.trans (Below.mono ew88 hB)
            replace h3 := h3.ext ew88
            replace h5 := h5.ext ew88
            replace ht := Rep.ext ht ew88
            replace hs := Rep.ext hs ew88
            replace h7 := h7.ext ew88
            replace hx := Rep.ext hx ew88
            replace hyy := Rep.ext hyy ew88
            replace htwo := htwo.ext ew88
            replace hb4_ := Rep.ext hb4_ ew88
            replace hm0 := Rep.ext hm0 ew88
            replace hsl0 := hsl0.ext ew88
            replace hb5_ := Rep.ext hb5_ ew88
            replace hm1 := Rep.ext hm1 ew88
            replace hlow := hlow.ext ew88
            replace hB := Nat.le_trans hB ew88.size
            refine ⟨hS, ?_⟩
            refine a_one 23 rfl (by kernel_rfl) (o_slh tbOk htwo rfl rfl rfl (j := 1) (by simp) rfl rfl rfl rfl rfl ?_)
            intro vs1 hsl1
            replace hsl1 : Sl _ w88 vs1 [t] := hsl1
            refine ⟨hS, ?_⟩
            refine a_build (cells := [.int .u8 6, .string ⟨#[]⟩, .int .i64 0, vs1]) (css := [[.int .u8 6], [vs1]]) 24 bd25 rfl rfl (by rw [List.map, List.map, List.map, hsl1.cells]; rfl) rfl rfl rfl (by kernel_rfl) (fun _ _ _ h => h) hS ?_
            have hb6_ : Rep.R (Rw.Add M b9) w88 (.agg #[.int .u8 6, .string ⟨#[]⟩, .int .i64 0, vs1]) (Ty.mk 6 ⟨#[]⟩ 0 [t]) := ty_mk (by decide) (by decide) ⟨by decide, by decide⟩ hsl1
            refine a_bar 25 rfl (by kernel_rfl) (by kernel_rfl) (o_call fo22 rfl rfl rfl (alike_spec _ _ _ _ _ _ hm2 hb6_ hlow) ?_)
            rintro _ w89 ⟨rfl, ew89⟩
            replace hS := hS.then ew89
            replace h9 := h9.ext hlow hB ew89
            replace hE := hE.trans (Below.mono ew89 hB)
            replace h3 := h3.ext ew89
            replace h5 := h5.ext ew89
            replace ht := Rep.ext ht ew89
            replace hs := Rep.ext hs ew89
            replace h7 := h7.ext ew89
            replace hx := Rep.ext hx ew89
            replace hyy := Rep.ext hyy ew89
            replace htwo := htwo.ext ew89
            replace hb4_ := Rep.ext hb4_ ew89
            replace hm0 := Rep.ext hm0 ew89
            replace hsl0 := hsl0.ext ew89
            replace hb5_ := Rep.ext hb5_ ew89
            replace hm1 := Rep.ext hm1 ew89
            replace hm2 := Rep.ext hm2 ew89
            replace hsl1 := hsl1.ext ew89
            replace hb6_ := Rep.ext hb6_ ew89
            replace hlow := hlow.ext ew89
            replace hB := Nat.le_trans hB ew89.size
            refine a_p 26 tbOk rfl rfl rfl rfl (by kernel_rfl) (fun _ _ _ h => h) hS ?_
            refine a_p 27 tbOk rfl rfl rfl rfl (by kernel_rfl) (fun _ _ _ h => h) hS ?_
            refine a_split 78 _ rfl (fun c37 => ?_) (fun c37 => ?_)
            · refine a_build (cells := [.int .u8 1, .string ⟨#[]⟩, .int .i64 0, .slice none 0 0]) (css := [[.int .u8 1]]) 29 bd25 rfl rfl rfl rfl rfl rfl (by kernel_rfl) (fun _ _ _ h => h) hS ?_
              have hb1_ : Rep.R (Rw.Add M b9) w89 (.agg #[.int .u8 1, .string ⟨#[]⟩, .int .i64 0, .slice none 0 0]) (Ty.mk 1 ⟨#[]⟩ 0 []) := ty_mk (by decide) (by decide) ⟨by decide, by decide⟩ sl_nil
              refine a_one 28 rfl (by kernel_rfl) (o_call fo33 rfl rfl rfl (int_spec _ _ hlow) ?_)
              rintro vhm3 w90 ⟨hm3, ew90⟩
              replace hS := hS.then ew90
              replace h9 := h9.ext hlow hB ew90
              replace hE := hE.trans (Below.mono ew90 hB)
              replace h3 := h3.ext ew90
              replace h5 := h5.ext ew90
              replace ht := Rep.ext ht ew90
              replace hs := Rep.ext hs ew90
              replace h7 := h7.ext ew90
              replace hx := Rep.ext hx ew90
              replace hyy := Rep.ext hyy ew90
              replace htwo := htwo.ext ew90
              replace hb4_ := Rep.ext hb4_ ew90
              replace hm0 := Rep.ext hm0 ew90
              replace hsl0 := hsl0.ext ew90
              replace hb5_ := Rep.ext hb5_ ew90
              replace hm1 := Rep.ext hm1 ew90
              replace hm2 := Rep.ext hm2 ew90
              replace hsl1 := hsl1.ext ew90
              replace hb6_ := Rep.ext hb6_ ew90
              replace hb1_ := Rep.ext hb1_ ew90
              replace hlow := hlow.ext ew90
              replace hB := Nat.le_trans hB ew90.size
              refine ⟨hS, ?_⟩
              refine a_bar 30 rfl (by kernel_rfl) (by kernel_rfl) (o_call fo22 rfl rfl rfl (alike_spec _ _ _ _ _ _ hm3 hb1_ hlow) ?_)
              rintro _ w91 ⟨rfl, ew91⟩
              replace hS := hS.then ew91
              replace h9 := h9.ext hlow hB ew91
              replace hE := hE.trans (Below.mono ew91 hB)
              replace h3 := h3.ext ew91
              replace h5 := h5.ext ew91
              replace ht := Rep.ext ht ew91
              replace hs := Rep.ext hs ew91
              replace h7 := h7.ext ew91
              replace hx := Rep.ext hx ew91
              replace hyy := Rep.ext hyy ew91
              replace htwo := htwo.ext ew91
              replace hb4_ := Rep.ext hb4_ ew91
              replace hm0 := Rep.ext hm0 ew91
              replace hsl0 := hsl0.ext ew91
              replace hb5_ := Rep.ext hb5_ ew91
              replace hm1 := Rep.ext hm1 ew91
              replace hm2 := Rep.ext hm2 ew91
              replace hsl1 := hsl1.ext ew91
              replace hb6_ := Rep.ext hb6_ ew91
              replace hb1_ := Rep.ext hb1_ ew91
              replace hm3 := Rep.ext hm3 ew91
              replace hlow := hlow.ext ew91
              replace hB := Nat.le_trans hB ew91.size
              refine a_p 31 tbOk rfl rfl rfl rfl (by kernel_rfl) (fun _ _ _ h => h) hS ?_
              refine a_p 32 tbOk rfl rfl rfl rfl (by kernel_rfl) (fun _ _ _ h => h) hS ?_
              refine a_split 83 _ rfl (fun c38 => ?_) (fun c38 => ?_)
              · refine a_build (cells := [.int .u8 2, .string ⟨#[]⟩, .int .i64 0, .slice none 0 0]) (css := [[.int .u8 2]]) 34 bd25 rfl rfl rfl rfl rfl rfl (by kernel_rfl) (fun _ _ _ h => h) hS ?_
                have hb2_ : Rep.R (Rw.Add M b9) w91 (.agg #[.int .u8 2, .string ⟨#[]⟩, .int .i64 0, .slice none 0 0]) (Ty.mk 2 ⟨#[]⟩ 0 []) := ty_mk (by decide) (by decide) ⟨by decide, by decide⟩ sl_nil
                refine a_one 33 rfl (by kernel_rfl) (o_call fo34 rfl rfl rfl (bool_spec _ _ hlow) ?_)
                rintro vhm4 w92 ⟨hm4, ew92⟩
                replace hS := hS.then ew92
                replace h9 := h9.ext hlow hB ew92
                replace hE := hE.trans (Below.mono ew92 hB)
                replace h3 := h3.ext ew92
                replace h5 := h5.ext ew92
                replace ht := Rep.ext ht ew92
                replace hs := Rep.ext hs ew92
                replace h7 := h7.ext ew92
                replace hx := Rep.ext hx ew92
                replace hyy := Rep.ext hyy ew92
                replace htwo := htwo.ext ew92
                replace hb4_ := Rep.ext hb4_ ew92
                replace hm0 := Rep.ext hm0 ew92
                replace hsl0 := hsl0.ext ew92
                replace hb5_ := Rep.ext hb5_ ew92
                replace hm1 := Rep.ext hm1 ew92
                replace hm2 := Rep.ext hm2 ew92
                replace hsl1 := hsl1.ext ew92
                replace hb6_ := Rep.ext hb6_ ew92
                replace hb1_ := Rep.ext hb1_ ew92
                replace hm3 := Rep.ext hm3 ew92
                replace hb2_ := Rep.ext hb2_ ew92
                replace hlow := hlow.ext ew92
                replace hB := Nat.le_trans hB ew92.size
                refine ⟨hS, ?_⟩
                refine a_bar 35 rfl (by kernel_rfl) (by kernel_rfl) (o_call fo22 rfl rfl rfl (alike_spec _ _ _ _ _ _ hm4 hb2_ hlow) ?_)
                rintro _ w93 ⟨rfl, ew93⟩
                replace hS := hS.then ew93
                replace h9 := h9.ext hlow hB ew93
                replace hE := hE.trans (Below.mono ew93 hB)
                replace h3 := h3.ext ew93
                replace h5 := h5.ext ew93
                replace ht := Rep.ext ht ew93
                replace hs := Rep.ext hs ew93
                replace h7 := h7.ext ew93
                replace hx := Rep.ext hx ew93
                replace hyy := Rep.ext hyy ew93
                replace htwo := htwo.ext ew93
                replace hb4_ := Rep.ext hb4_ ew93
                replace hm0 := Rep.ext hm0 ew93
                replace hsl0 := hsl0.ext ew93
                replace hb5_ := Rep.ext hb5_ ew93
                replace hm1 := Rep.ext hm1 ew93
                replace hm2 := Rep.ext hm2 ew93
                replace hsl1 := hsl1.ext ew93
                replace hb6_ := Rep.ext hb6_ ew93
                replace hb1_ := Rep.ext hb1_ ew93
                replace hm3 := Rep.ext hm3 ew93
                replace hb2_ := Rep.ext hb2_ ew93
                replace hm4 := Rep.ext hm4 ew93
                replace hlow := hlow.ext ew93
                replace hB := Nat.le_trans hB ew93.size
                refine a_p 36 tbOk rfl rfl rfl rfl (by kernel_rfl) (fun _ _ _ h => h) hS ?_
                refine a_p 37 tbOk rfl rfl rfl rfl (by kernel_rfl) (fun _ _ _ h => h) hS ?_
                refine a_split 88 _ rfl (fun c39 => ?_) (fun c39 => ?_)
                · refine a_build (cells := [.int .u8 3, .string ⟨#[]⟩, .int .i64 0, .slice none 0 0]) (css := [[.int .u8 3]]) 39 bd25 rfl rfl rfl rfl rfl rfl (by kernel_rfl) (fun _ _ _ h => h) hS ?_
                  have hb3_ : Rep.R (Rw.Add M b9) w93 (.agg #[.int .u8 3, .string ⟨#[]⟩, .int .i64 0, .slice none 0 0]) (Ty.mk 3 ⟨#[]⟩ 0 []) := ty_mk (by decide) (by decide) ⟨by decide, by decide⟩ sl_nil
                  refine a_one 38 rfl (by kernel_rfl) (o_call fo35 rfl rfl rfl (dyn_spec _ _ hlow) ?_)
                  rintro vhm5 w94 ⟨hm5, ew94⟩
                  replace hS := hS.then ew94
                  replace h9 := h9.ext hlow hB ew94
                  replace hE := hE.trans (Below.mono ew94 hB)
                  replace h3 := h3.ext ew94
                  replace h5 := h5.ext ew94
                  replace ht := Rep.ext ht ew94
                  replace hs := Rep.ext hs ew94
                  replace h7 := h7.ext ew94
                  replace hx := Rep.ext hx ew94
                  replace hyy := Rep.ext hyy ew94
                  replace htwo := htwo.ext ew94
                  replace hb4_ := Rep.ext hb4_ ew94
                  replace hm0 := Rep.ext hm0 ew94
                  replace hsl0 := hsl0.ext ew94
                  replace hb5_ := Rep.ext hb5_ ew94
                  replace hm1 := Rep.ext hm1 ew94
                  replace hm2 := Rep.ext hm2 ew94
                  replace hsl1 := hsl1.ext ew94
                  replace hb6_ := Rep.ext hb6_ ew94
                  replace hb1_ := Rep.ext hb1_ ew94
                  replace hm3 := Rep.ext hm3 ew94
                  replace hb2_ := Rep.ext hb2_ ew94
                  replace hm4 := Rep.ext hm4 ew94
                  replace hb3_ := Rep.ext hb3_ ew94
                  replace hlow := hlow.ext ew94
                  replace hB := Nat.le_trans hB ew94.size
                  refine ⟨hS, ?_⟩
                  refine a_bar 40 rfl (by kernel_rfl) (by kernel_rfl) (o_call fo22 rfl rfl rfl (alike_spec _ _ _ _ _ _ hm5 hb3_ hlow) ?_)
                  rintro _ w95 ⟨rfl, ew95⟩
                  replace hS := hS.then ew95
                  replace h9 := h9.ext hlow hB ew95
                  replace hE := hE.trans (Below.mono ew95 hB)
                  replace h3 := h3.ext ew95
                  replace h5 := h5.ext ew95
                  replace ht := Rep.ext ht ew95
                  replace hs := Rep.ext hs ew95
                  replace h7 := h7.ext ew95
                  replace hx := Rep.ext hx ew95
                  replace hyy := Rep.ext hyy ew95
                  replace htwo := htwo.ext ew95
                  replace hb4_ := Rep.ext hb4_ ew95
                  replace hm0 := Rep.ext hm0 ew95
                  replace hsl0 := hsl0.ext ew95
                  replace hb5_ := Rep.ext hb5_ ew95
                  replace hm1 := Rep.ext hm1 ew95
                  replace hm2 := Rep.ext hm2 ew95
                  replace hsl1 := hsl1.ext ew95
                  replace hb6_ := Rep.ext hb6_ ew95
                  replace hb1_ := Rep.ext hb1_ ew95
                  replace hm3 := Rep.ext hm3 ew95
                  replace hb2_ := Rep.ext hb2_ ew95
                  replace hm4 := Rep.ext hm4 ew95
                  replace hb3_ := Rep.ext hb3_ ew95
                  replace hm5 := Rep.ext hm5 ew95
                  replace hlow := hlow.ext ew95
                  replace hB := Nat.le_trans hB ew95.size
                  refine a_p 41 tbOk rfl rfl rfl rfl (by kernel_rfl) (fun _ _ _ h => h) hS ?_
                  refine a_p 42 tbOk rfl rfl rfl rfl (by kernel_rfl) (fun _ _ _ h => h) hS ?_
                  refine a_end (by kernel_rfl) ?_
                  refine x_seq (c_ret (x_ret1 rfl rfl ?_))
                  exact ⟨by first | rfl | rw [cl_true rfl] | simp_all, hE⟩
                exact absurd rfl (cl_not c39)
              exact absurd rfl (cl_not c38)
            exact absurd rfl (cl_not c37)
          refine o_slh tbOk htwo rfl rfl rfl (j := 1) (by simp) rfl rfl rfl rfl rfl ?_
          intro vs1 hsl1
          replace hsl1 : Sl _ w87 vs1 [t] := hsl1
          refine ⟨hS, ?_⟩
          refine a_build (cells := [.int .u8 6, .string ⟨#[]⟩, .int .i64 0, vs1]) (css := [[.int .u8 6], [vs1]]) 24 bd25 rfl rfl (by rw [List.map, List.map, List.map, hsl1.cells]; rfl) rfl rfl rfl (by kernel_rfl) (fun _ _ _ h => h) hS ?_
          have hb6_ : Rep.R (Rw.Add M b9) w87 (.agg #[.int .u8 6, .string ⟨#[]⟩, .int .i64 0, vs1]) (Ty.mk 6 ⟨#[]⟩ 0 [t]) := ty_mk (by decide) (by decide) ⟨by decide, by decide⟩ hsl1
          refine a_one 21 rfl (by kernel_rfl) (o_call fo32 rfl rfl rfl (vnt_own t _ _ _ ht hlow hz) ?_)
          rintro vhm2 w96 ⟨hm2, ew96⟩
          replace hm2 := hm2.repNew hlow
          replace hS := hS.then ew96
          replace h9 := h9.ext hlow hB ew96
          replace hE := hE.trans (Below.mono ew96 hB)
          replace h3 := h3.ext ew96
          replace h5 := h5.ext ew96
          replace ht := Rep.ext ht ew96
          replace hs := Rep.ext hs ew96
          replace h7 := h7.ext ew96
          replace hx := Rep.ext hx ew96
          replace hyy := Rep.ext hyy ew96
          replace htwo := htwo.ext ew96
          replace hb4_ := Rep.ext hb4_ ew96
          replace hm0 := Rep.ext hm0 ew96
          replace hsl0 := hsl0.ext ew96
          replace hb5_ := Rep.ext hb5_ ew96
          replace hm1 := Rep.ext hm1 ew96
          replace hsl1 := hsl1.ext ew96
          replace hb6_ := Rep.ext hb6_ ew96
          replace hlow := hlow.ext ew96
          replace hB := Nat.le_trans hB ew96.size
          refine ⟨hS, ?_⟩
          refine a_bar 25 rfl (by kernel_rfl) (by kernel_rfl) (o_call fo22 rfl rfl rfl (alike_spec _ _ _ _ _ _ hm2 hb6_ hlow) ?_)
          rintro _ w97 ⟨rfl, ew97⟩
          replace hS := hS.then ew97
          replace h9 := h9.ext hlow hB ew97
          replace hE := hE.trans (Below.mono ew97 hB)
          replace h3 := h3.ext ew97
          replace h5 := h5.ext ew97
          replace ht := Rep.ext ht ew97
          replace hs := Rep.ext hs ew97
          replace h7 := h7.ext ew97
          replace hx := Rep.ext hx ew97
          replace hyy := Rep.ext hyy ew97
          replace htwo := htwo.ext ew97
          replace hb4_ := Rep.ext hb4_ ew97
          replace hm0 := Rep.ext hm0 ew97
          replace hsl0 := hsl0.ext ew97
          replace hb5_ := Rep.ext hb5_ ew97
          replace hm1 := Rep.ext hm1 ew97
          replace hsl1 := hsl1.ext ew97
          replace hb6_ := Rep.ext hb6_ ew97
          replace hm2 := Rep.ext hm2 ew97
          replace hlow := hlow.ext ew97
          replace hB := Nat.le_trans hB ew97.size
          refine a_p 26 tbOk rfl rfl rfl rfl (by kernel_rfl) (fun _ _ _ h => h) hS ?_
          refine a_p 27 tbOk rfl rfl rfl rfl (by kernel_rfl) (fun _ _ _ h => h) hS ?_
          refine a_split 78 _ rfl (fun c40 => ?_) (fun c40 => ?_)
          · refine a_build (cells := [.int .u8 1, .string ⟨#[]⟩, .int .i64 0, .slice none 0 0]) (css := [[.int .u8 1]]) 29 bd25 rfl rfl rfl rfl rfl rfl (by kernel_rfl) (fun _ _ _ h => h) hS ?_
            have hb1_ : Rep.R (Rw.Add M b9) w97 (.agg #[.int .u8 1, .string ⟨#[]⟩, .int .i64 0, .slice none 0 0]) (Ty.mk 1 ⟨#[]⟩ 0 []) := ty_mk (by decide) (by decide) ⟨by decide, by decide⟩ sl_nil
            refine a_one 28 rfl (by kernel_rfl) (o_call fo33 rfl rfl rfl (int_spec _ _ hlow) ?_)
            rintro vhm3 w98 ⟨hm3, ew98⟩
            replace hS := hS.then ew98
            replace h9 := h9.ext hlow hB ew98
            replace hE := hE.trans (Below.mono ew98 hB)
            replace h3 := h3.ext ew98
            replace h5 := h5.ext ew98
            replace ht := Rep.ext ht ew98
            replace hs := Rep.ext hs ew98
            replace h7 := h7.ext ew98
            replace hx := Rep.ext hx ew98
            replace hyy := Rep.ext hyy ew98
            replace htwo := htwo.ext ew98
            replace hb4_ := Rep.ext hb4_ ew98
            replace hm0 := Rep.ext hm0 ew98
            replace hsl0 := hsl0.ext ew98
            replace hb5_ := Rep.ext hb5_ ew98
            replace hm1 := Rep.ext hm1 ew98
            replace hsl1 := hsl1.ext ew98
            replace hb6_ := Rep.ext hb6_ ew98
            replace hm2 := Rep.ext hm2 ew98
            replace hb1_ := Rep.ext hb1_ ew98
            replace hlow := hlow.ext ew98
            replace hB := Nat.le_trans hB ew98.size
            refine ⟨hS, ?_⟩
            refine a_bar 30 rfl (by kernel_rfl) (by kernel_rfl) (o_call fo22 rfl rfl rfl (alike_spec _ _ _ _ _ _ hm3 hb1_ hlow) ?_)
            rintro _ w99 ⟨rfl, ew99⟩
            replace hS := hS.then ew99
            replace h9 := h9.ext hlow hB ew99
            replace hE := hE.trans (Below.mono ew99 hB)
            replace h3 := h3.ext ew99
            replace h5 := h5.ext ew99
            replace ht := Rep.ext ht ew99
            replace hs := Rep.ext hs ew99
            replace h7 := h7.ext ew99
            replace hx := Rep.ext hx ew99
            replace hyy := Rep.ext hyy ew99
            replace htwo := htwo.ext ew99
            replace hb4_ := Rep.ext hb4_ ew99
            replace hm0 := Rep.ext hm0 ew99
            replace hsl0 := hsl0.ext ew99
            replace hb5_ := Rep.ext hb5_ ew99
            replace hm1 := Rep.ext hm1 ew99
            replace hsl1 := hsl1.ext ew99
            replace hb6_ := Rep.ext hb6_ ew99
            replace hm2 := Rep.ext hm2 ew99
            replace hb1_ := Rep.ext hb1_ ew99
            replace hm3 := Rep.ext hm3 ew99
            replace hlow := hlow.ext ew99
            replace hB := Nat.le_trans hB ew99.size
            refine a_p 31 tbOk rfl rfl rfl rfl (by kernel_rfl) (fun _ _ _ h => h) hS ?_
            refine a_p 32 tbOk rfl rfl rfl rfl (by kernel_rfl) (fun _ _ _ h => h) hS ?_
            refine a_split 83 _ rfl (fun c41 => ?_) (fun c41 => ?_)
            · refine a_build (cells := [.int .u8 2, .string ⟨#[]⟩, .int .i64 0, .slice none 0 0]) (css := [[.int .u8 2]]) 34 bd25 rfl rfl rfl rfl rfl rfl (by kernel_rfl) (fun _ _ _ h => h) hS ?_
              have hb2_ : Rep.R (Rw.Add M b9) w99 (.agg #[.int .u8 2, .string ⟨#[]⟩, .int .i64 0, .slice none 0 0]) (Ty.mk 2 ⟨#[]⟩ 0 []) := ty_mk (by decide) (by decide) ⟨by decide, by decide⟩ sl_nil
              refine a_one 33 rfl (by kernel_rfl) (o_call fo34 rfl rfl rfl (bool_spec _ _ hlow) ?_)
              rintro vhm4 w100 ⟨hm4, ew100⟩
              replace hS := hS.then ew100
              replace h9 := h9.ext hlow hB ew100
              replace hE := hE.trans (Below.mono ew100 hB)
              replace h3 := h3.ext ew100
              replace h5 := h5.ext ew100
              replace ht := Rep.ext ht ew100
              replace hs := Rep.ext hs ew100
              replace h7 := h7.ext ew100
              replace hx := Rep.ext hx ew100
              replace hyy := Rep.ext hyy ew100
              replace htwo := htwo.ext ew100
              replace hb4_ := Rep.ext hb4_ ew100
              replace hm0 := Rep.ext hm0 ew100
              replace hsl0 := hsl0.ext ew100
              replace hb5_ := Rep.ext hb5_ ew100
              replace hm1 := Rep.ext hm1 ew100
              replace hsl1 := hsl1.ext ew100
              replace hb6_ := Rep.ext hb6_ ew100
              replace hm2 := Rep.ext hm2 ew100
              replace hb1_ := Rep.ext hb1_ ew100
              replace hm3 := Rep.ext hm3 ew100
              replace hb2_ := Rep.ext hb2_ ew100
              replace hlow := hlow.ext ew100
              replace hB := Nat.le_trans hB ew100.size
              refine ⟨hS, ?_⟩
              refine a_bar 35 rfl (by kernel_rfl) (by kernel_rfl) (o_call fo22 rfl rfl rfl (alike_spec _ _ _ _ _ _ hm4 hb2_ hlow) ?_)
              rintro _ w101 ⟨rfl, ew101⟩
              replace hS := hS.then ew101
              replace h9 := h9.ext hlow hB ew101
              replace hE := hE.trans (Below.mono ew101 hB)
              replace h3 := h3.ext ew101
              replace h5 := h5.ext ew101
              replace ht := Rep.ext ht ew101
              replace hs := Rep.ext hs ew101
              replace h7 := h7.ext ew101
              replace hx := Rep.ext hx ew101
              replace hyy := Rep.ext hyy ew101
              replace htwo := htwo.ext ew101
              replace hb4_ := Rep.ext hb4_ ew101
              replace hm0 := Rep.ext hm0 ew101
              replace hsl0 := hsl0.ext ew101
              replace hb5_ := Rep.ext hb5_ ew101
              replace hm1 := Rep.ext hm1 ew101
              replace hsl1 := hsl1.ext ew101
              replace hb6_ := Rep.ext hb6_ ew101
              replace hm2 := Rep.ext hm2 ew101
              replace hb1_ := Rep.ext hb1_ ew101
              replace hm3 := Rep.ext hm3 ew101
              replace hb2_ := Rep.ext hb2_ ew101
              replace hm4 := Rep.ext hm4 ew101
              replace hlow := hlow.ext ew101
              replace hB := Nat.le_trans hB ew101.size
              refine a_p 36 tbOk rfl rfl rfl rfl (by kernel_rfl) (fun _ _ _ h => h) hS ?_
              refine a_p 37 tbOk rfl rfl rfl rfl (by kernel_rfl) (fun _ _ _ h => h) hS ?_
              refine a_split 88 _ rfl (fun c42 => ?_) (fun c42 => ?_)
              · refine a_build (cells := [.int .u8 3, .string ⟨#[]⟩, .int .i64 0, .slice none 0 0]) (css := [[.int .u8 3]]) 39 bd25 rfl rfl rfl rfl rfl rfl (by kernel_rfl) (fun _ _ _ h => h) hS ?_
                have hb3_ : Rep.R (Rw.Add M b9) w101 (.agg #[.int .u8 3, .string ⟨#[]⟩, .int .i64 0, .slice none 0 0]) (Ty.mk 3 ⟨#[]⟩ 0 []) := ty_mk (by decide) (by decide) ⟨by decide, by decide⟩ sl_nil
                refine a_one 38 rfl (by kernel_rfl) (o_call fo35 rfl rfl rfl (dyn_spec _ _ hlow) ?_)
                rintro vhm5 w102 ⟨hm5, ew102⟩
                replace hS := hS.then ew102
                replace h9 := h9.ext hlow hB ew102
                replace hE := hE.trans (Below.mono ew102 hB)
                replace h3 := h3.ext ew102
                replace h5 := h5.ext ew102
                replace ht := Rep.ext ht ew102
                replace hs := Rep.ext hs ew102
                replace h7 := h7.ext ew102
                replace hx := Rep.ext hx ew102
                replace hyy := Rep.ext hyy ew102
                replace htwo := htwo.ext ew102
                replace hb4_ := Rep.ext hb4_ ew102
                replace hm0 := Rep.ext hm0 ew102
                replace hsl0 := hsl0.ext ew102
                replace hb5_ := Rep.ext hb5_ ew102
                replace hm1 := Rep.ext hm1 ew102
                replace hsl1 := hsl1.ext ew102
                replace hb6_ := Rep.ext hb6_ ew102
                replace hm2 := Rep.ext hm2 ew102
                replace hb1_ := Rep.ext hb1_ ew102
                replace hm3 := Rep.ext hm3 ew102
                replace hb2_ := Rep.ext hb2_ ew102
                replace hm4 := Rep.ext hm4 ew102
                replace hb3_ := Rep.ext hb3_ ew102
                replace hlow := hlow.ext ew102
                replace hB := Nat.le_trans hB ew102.size
                refine ⟨hS, ?_⟩
                refine a_bar 40 rfl (by kernel_rfl) (by kernel_rfl) (o_call fo22 rfl rfl rfl (alike_spec _ _ _ _ _ _ hm5 hb3_ hlow) ?_)
                rintro _ w103 ⟨rfl, ew103⟩
                replace hS := hS.then ew103
                replace h9 := h9.ext hlow hB ew103
                replace hE := hE.trans (Below.mono ew103 hB)
                replace h3 := h3.ext ew103
                replace h5 := h5.ext ew103
                replace ht := Rep.ext ht ew103
                replace hs := Rep.ext hs ew103
                replace h7 := h7.ext ew103
                replace hx := Rep.ext hx ew103
                replace hyy := Rep.ext hyy ew103
                replace htwo := htwo.ext ew103
                replace hb4_ := Rep.ext hb4_ ew103
                replace hm0 := Rep.ext hm0 ew103
                replace hsl0 := hsl0.ext ew103
                replace hb5_ := Rep.ext hb5_ ew103
                replace hm1 := Rep.ext hm1 ew103
                replace hsl1 := hsl1.ext ew103
                replace hb6_ := Rep.ext hb6_ ew103
                replace hm2 := Rep.ext hm2 ew103
                replace hb1_ := Rep.ext hb1_ ew103
                replace hm3 := Rep.ext hm3 ew103
                replace hb2_ := Rep.ext hb2_ ew103
                replace hm4 := Rep.ext hm4 ew103
                replace hb3_ := Rep.ext hb3_ ew103
                replace hm5 := Rep.ext hm5 ew103
                replace hlow := hlow.ext ew103
                replace hB := Nat.le_trans hB ew103.size
                refine a_p 41 tbOk rfl rfl rfl rfl (by kernel_rfl) (fun _ _ _ h => h) hS ?_
                refine a_p 42 tbOk rfl rfl rfl rfl (by kernel_rfl) (fun _ _ _ h => h) hS ?_
                refine a_end (by kernel_rfl) ?_
                refine x_seq (c_ret (x_ret1 rfl rfl ?_))
                exact ⟨by first | rfl | rw [cl_true rfl] | simp_all, hE⟩
              exact absurd rfl (cl_not c42)
            exact absurd rfl (cl_not c41)
          exact absurd rfl (cl_not c40)
        exact absurd rfl (cl_not c36)
      exact absurd rfl (cl_not c28)
    exact absurd rfl (cl_not c27)
  refine l_p 3 tbOk rfl (q1 (c_ifF rfl (c_skip (x_seq ?_))))
  refine c_cut2 (X := Ty) (Y := Value) (fun y kvy => [(1, .int .i64 n), (3, .pointer (some ⟨b3, 0, none⟩)), (5, .pointer (some ⟨b5, 0, none⟩)), (7, .pointer (some ⟨b7, 0, none⟩)), (9, .pointer (some ⟨b9, 0, none⟩))]) (fun y kvy w' => y = PutF t n s ∧ MB w.heap.size (Rw.Add M b9) w' b9 25 [.int .u8 y.op, .string y.name, .int .i64 y.n, kvy] ∧ Rep.R (Rw.Add M b9) w' (.agg #[.int .u8 y.op, .string y.name, .int .i64 y.n, kvy]) y ∧ At (Rw.Add M b9) w' b3 0 [.int .u8 t.op, .string t.name, .int .i64 t.n, kv] ∧ At (Rw.Add M b9) w' b5 0 [.int .u8 s.op, .string s.name, .int .i64 s.n, kvs] ∧ Rep.R (Rw.Add M b9) w' (.agg #[.int .u8 t.op, .string t.name, .int .i64 t.n, kv]) t ∧ Rep.R (Rw.Add M b9) w' (.agg #[.int .u8 s.op, .string s.name, .int .i64 s.n, kvs]) s ∧ At (Rw.Add M b9) w' b7 0 [.int .u8 (PutF t n s).op, .string (PutF t n s).name, .int .i64 (PutF t n s).n, kvx] ∧ Rep.R (Rw.Add M b9) w' (.agg #[.int .u8 (PutF t n s).op, .string (PutF t n s).name, .int .i64 (PutF t n s).n, kvx]) (PutF t n s) ∧ Low (Rw.Add M b9) w' ∧ (∀ b, M b → (Rw.Add M b9) b) ∧ Below w.heap.size w w' ∧ w.heap.size ≤ w'.heap.size) ?_ ?_
  · refine q0 (l_p 2 tbOk rfl ?_)
    refine l_split 40 _ rfl (fun c43 => ?_) (fun c43 => ?_)
    · exact absurd (c5.symm.trans c43) (by decide)
    refine l_p 3 tbOk rfl (q1 (c_ifF rfl (c_skip ?_)))
    have hy : t = PutF t n s := by unfold PutF; rw [← hrt]; clear hrt; simp [varOp, *]
    exact x_cut2 (t) (kv) (s5 rfl rfl rfl rfl rfl) ⟨hy, h9, ht, h3, h5, ht, hs, h7, hx, hlow, hsub, hE, hB⟩
  clear h3 h5 ht hs h7 hx hlow hsub hE hB h9
  rintro y kvy w12 ⟨hy, h9, hyy, h3, h5, ht, hs, h7, hx, hlow, hsub, hE, hB⟩
  subst hy
  refine q0 ?_
  refine l_cons (o_lds tbOk (fun j v hv => h3.cell j v hv) rfl rfl rfl rfl rfl rfl ?_)
  refine l_cons (o_lds tbOk (fun j v hv => h5.cell j v hv) rfl rfl rfl rfl rfl rfl ?_)
  refine l_cons (o_bs tbOk rfl rfl rfl rfl rfl rfl rfl (sz2 rfl rfl) rfl rfl rfl ?_)
  intro bw104 w104 qbw104 ew104 hbw104
  have nbw104 := nM_of hlow qbw104
  replace h9 := h9.ext hlow hB ew104
  replace hE := hE.trans (Below.mono ew104 hB)
  replace h3 := h3.ext ew104
  replace h5 := h5.ext ew104
  replace ht := Rep.ext ht ew104
  replace hs := Rep.ext hs ew104
  replace h7 := h7.ext ew104
  replace hx := Rep.ext hx ew104
  replace hyy := Rep.ext hyy ew104
  replace hlow := hlow.ext ew104
  replace hB := Nat.le_trans hB ew104.size
  have htwo := lit_sl (l := [t, s]) hbw104 nbw104 (show Rs _ _ [_, _] [t, s] from ⟨ht, hs, trivial⟩) (by simp)
  refine l_p 1 tbOk rfl (q1 (c_seq ?_))
  refine a_beg Ext rfl ?_
  intro w105 ew105
  replace h9 := h9.ext hlow hB ew105
  replace hE := hE.trans (Below.mono ew105 hB)
  replace h3 := h3.ext ew105
  replace h5 := h5.ext ew105
  replace ht := Rep.ext ht ew105
  replace hs := Rep.ext hs ew105
  replace h7 := h7.ext ew105
  replace hx := Rep.ext hx ew105
  replace hyy := Rep.ext hyy ew105
  replace htwo := htwo.ext ew105
  replace hlow := hlow.ext ew105
  replace hB := Nat.le_trans hB ew105.size
  have hS : Ext w105 w105 := ext_refl _
  have D_h3 := h3
  have D_h5 := h5
  have D_h7 := h7
  have D_h9 := h9.box
  have D_htwo := htwo
  refine a_lds 0 tbOk (fun _ hs j v hv => (D_h7.ext hs).cell j v hv) rfl rfl rfl rfl rfl rfl rfl (by kernel_rfl) (fun _ _ _ h => h) hS ?_
  refine a_lds 1 tbOk (fun _ hs j v hv => (D_h9.ext hs).cell j v hv) rfl rfl rfl rfl rfl rfl rfl (by kernel_rfl) (fun _ _ _ h => h) hS ?_
  refine a_bar 2 rfl (by kernel_rfl) (by kernel_rfl) (o_call fo22 rfl rfl rfl (alike_spec _ _ _ _ _ _ hx hyy hlow) ?_)
  rintro _ w106 ⟨rfl, ew106⟩
  replace hS := hS.then ew106
  replace h9 := h9.ext hlow hB ew106
  replace hE := hE.trans (Below.mono ew106 hB)
  replace h3 := h3.ext ew106
  replace h5 := h5.ext ew106
  replace ht := Rep.ext ht ew106
  replace hs := Rep.ext hs ew106
  replace h7 := h7.ext ew106
  replace hx := Rep.ext hx ew106
  replace hyy := Rep.ext hyy ew106
  replace htwo := htwo.ext ew106
  replace hlow := hlow.ext ew106
  replace hB := Nat.le_trans hB ew106.size
  refine a_p 3 tbOk rfl rfl rfl rfl (by kernel_rfl) (fun _ _ _ h => h) hS ?_
  refine a_split 54 _ rfl (fun c44 => ?_) (fun c44 => ?_)
  · refine a_lds 4 tbOk (fun _ hs j v hv => (D_h3.ext hs).cell j v hv) rfl rfl rfl rfl rfl rfl rfl (by kernel_rfl) (fun _ _ _ h => h) hS ?_
    refine a_lds 5 tbOk (fun _ hs j v hv => (D_h5.ext hs).cell j v hv) rfl rfl rfl rfl rfl rfl rfl (by kernel_rfl) (fun _ _ _ h => h) hS ?_
    refine a_p 7 tbOk rfl rfl rfl rfl (by kernel_rfl) (fun _ _ _ h => h) hS ?_
    refine a_build (cells := [.int .u8 4, .string ⟨#[]⟩, .int .i64 0, .slice (some ⟨bw104, 0, none⟩) 2 2]) (css := [[.int .u8 4], [.slice (some ⟨bw104, 0, none⟩) 2 2]]) 8 bd25 rfl rfl rfl rfl rfl rfl (by kernel_rfl) (fun _ _ _ h => h) hS ?_
    have hb4_ : Rep.R (Rw.Add M b9) w106 (.agg #[.int .u8 4, .string ⟨#[]⟩, .int .i64 0, .slice (some ⟨bw104, 0, none⟩) 2 2]) (Ty.mk 4 ⟨#[]⟩ 0 [t, s]) := ty_mk (by decide) (by decide) ⟨by decide, by decide⟩ htwo
    refine a_one 6 rfl (by kernel_rfl) (o_call fo30 rfl rfl rfl (fun_own t s _ _ _ _ ht hs hlow hz hzs) ?_)
    rintro vhm0 w107 ⟨hm0, ew107⟩
    replace hm0 := hm0.repNew hlow
    replace hS := hS.then ew107
    replace h9 := h9.ext hlow hB ew107
    replace hE := hE.trans (Below.mono ew107 hB)
    replace h3 := h3.ext ew107
    replace h5 := h5.ext ew107
    replace ht := Rep.ext ht ew107
    replace hs := Rep.ext hs ew107
    replace h7 := h7.ext ew107
    replace hx := Rep.ext hx ew107
    replace hyy := Rep.ext hyy ew107
    replace htwo := htwo.ext ew107
    replace hb4_ := Rep.ext hb4_ ew107
    replace hlow := hlow.ext ew107
    replace hB := Nat.le_trans hB ew107.size
    refine ⟨hS, ?_⟩
    refine a_bar 9 rfl (by kernel_rfl) (by kernel_rfl) (o_call fo22 rfl rfl rfl (alike_spec _ _ _ _ _ _ hm0 hb4_ hlow) ?_)
    rintro _ w108 ⟨rfl, ew108⟩
    replace hS := hS.then ew108
    replace h9 := h9.ext hlow hB ew108
    replace hE := hE.trans (Below.mono ew108 hB)
    replace h3 := h3.ext ew108
    replace h5 := h5.ext ew108
    replace ht := Rep.ext ht ew108
    replace hs := Rep.ext hs ew108
    replace h7 := h7.ext ew108
    replace hx := Rep.ext hx ew108
    replace hyy := Rep.ext hyy ew108
    replace htwo := htwo.ext ew108
    replace hb4_ := Rep.ext hb4_ ew108
    replace hm0 := Rep.ext hm0 ew108
    replace hlow := hlow.ext ew108
    replace hB := Nat.le_trans hB ew108.size
    refine a_p 10 tbOk rfl rfl rfl rfl (by kernel_rfl) (fun _ _ _ h => h) hS ?_
    refine a_p 11 tbOk rfl rfl rfl rfl (by kernel_rfl) (fun _ _ _ h => h) hS ?_
    refine a_split 62 _ rfl (fun c45 => ?_) (fun c45 => ?_)
    · refine a_lds 12 tbOk (fun _ hs j v hv => (D_h3.ext hs).cell j v hv) rfl rfl rfl rfl rfl rfl rfl (by kernel_rfl) (fun _ _ _ h => h) hS ?_
      refine a_p 14 tbOk rfl rfl rfl rfl (by kernel_rfl) (fun _ _ _ h => h) hS ?_
      refine a_all [13, 15] (by kernel_rfl) rfl (all_cons (i := 13) rfl ?_ (all_cons (i := 15) rfl ?_ all_nil))
      · refine o_call fo31 rfl rfl rfl (rec_own t _ _ _ ht hlow hz) ?_
        rintro vhm1 w109 ⟨hm1, ew109⟩
        replace hm1 := hm1.repNew hlow
        replace hS := hS.then ew109
        replace h9 := h9.ext hlow hB ew109
        replace hE := hE.trans (Below.mono ew109 hB)
        replace h3 := h3.ext ew109
        replace h5 := h5.ext ew109
        replace ht := Rep.ext ht ew109
        replace hs := Rep.ext hs ew109
        replace h7 := h7.ext ew109
        replace hx := Rep.ext hx ew109
        replace hyy := Rep.ext hyy ew109
        replace htwo := htwo.ext ew109
        replace hb4_ := Rep.ext hb4_ ew109
        replace hm0 := Rep.ext hm0 ew109
        replace hlow := hlow.ext ew109
        replace hB := Nat.le_trans hB ew109.size
        refine ⟨hS, ?_⟩
        refine a_one 15 rfl (by kernel_rfl) (o_slh tbOk htwo rfl rfl rfl (j := 1) (by simp) rfl rfl rfl rfl rfl ?_)
        intro vs0 hsl0
        replace hsl0 : Sl _ w109 vs0 [t] := hsl0
        refine ⟨hS, ?_⟩
        refine a_build (cells := [.int .u8 5, .string ⟨#[]⟩, .int .i64 0, vs0]) (css := [[.int .u8 5], [vs0]]) 16 bd25 rfl rfl (by rw [List.map, List.map, List.map, hsl0.cells]; rfl) rfl rfl rfl (by kernel_rfl) (fun _ _ _ h => h) hS ?_
        have hb5_ : Rep.R (Rw.Add M b9) w109 (.agg #[.int .u8 5, .string ⟨#[]⟩, .int .i64 0, vs0]) (Ty.mk 5 ⟨#[]⟩ 0 [t]) := ty_mk (by decide) (by decide) ⟨by decide, by decide⟩ hsl0
        refine a_bar 17 rfl (by kernel_rfl) (by kernel_rfl) (o_call fo22 rfl rfl rfl (alike_spec _ _ _ _ _ _ hm1 hb5_ hlow) ?_)
        rintro _ w110 ⟨rfl, ew110⟩
        replace hS := hS.then ew110
        replace h9 := h9.ext hlow hB ew110
        replace hE := hE.trans (Below.mono ew110 hB)
        replace h3 := h3.ext ew110
        replace h5 := h5.ext ew110
        replace ht := Rep.ext ht ew110
        replace hs := Rep.ext hs ew110
        replace h7 := h7.ext ew110
        replace hx := Rep.ext hx ew110
        replace hyy := Rep.ext hyy ew110
        replace htwo := htwo.ext ew110
        replace hb4_ := Rep.ext hb4_ ew110
        replace hm0 := Rep.ext hm0 ew110
        replace hm1 := Rep.ext hm1 ew110
        replace hsl0 := hsl0.ext ew110
        replace hb5_ := Rep.ext hb5_ ew110
        replace hlow := hlow.ext ew110
        replace hB := Nat.le_trans hB ew110.size
        refine a_p 18 tbOk rfl rfl rfl rfl (by kernel_rfl) (fun _ _ _ h => h) hS ?_
        refine a_p 19 tbOk rfl rfl rfl rfl (by kernel_rfl) (fun _ _ _ h => h) hS ?_
        refine a_split 70 _ rfl (fun c46 => ?_) (fun c46 => ?_)
        · refine a_lds 20 tbOk (fun _ hs j v hv => (D_h3.ext hs).cell j v hv) rfl rfl rfl rfl rfl rfl rfl (by kernel_rfl) (fun _ _ _ h => h) hS ?_
          refine a_p 22 tbOk rfl rfl rfl rfl (by kernel_rfl) (fun _ _ _ h => h) hS ?_
          refine a_all [21, 23] (by kernel_rfl) rfl (all_cons (i := 21) rfl ?_ (all_cons (i := 23) rfl ?_ all_nil))
          · refine o_call fo32 rfl rfl rfl (vnt_own t _ _ _ ht hlow hz) ?_
            rintro vhm2 w111 ⟨hm2, ew111⟩
            replace hm2 := hm2.repNew hlow
            replace hS := hS.then ew111
            replace h9 := h9.ext hlow hB ew111
            replace hE := hE.trans (Below.mono ew111 hB)
            replace h3 := h3.ext ew111
            replace h5 := h5.ext ew111
            replace ht := Rep.ext ht ew111
            replace hs := Rep.ext hs ew111
            replace h7 := h7.ext ew111
            replace hx := Rep.ext hx ew111
            replace hyy := Rep.ext hyy ew111
            replace htwo := htwo.ext ew111
            replace hb4_ := Rep.ext hb4_ ew111
            replace hm0 := Rep.ext hm0 ew111
            replace hm1 := Rep.ext hm1 ew111
            replace hsl0 := hsl0.ext ew111
            replace hb5_ := Rep.ext hb5_ ew111
            replace hlow := hlow.ext ew111
            replace hB := Nat.le_trans hB ew111.size
            refine ⟨hS, ?_⟩
            refine a_one 23 rfl (by kernel_rfl) (o_slh tbOk htwo rfl rfl rfl (j := 1) (by simp) rfl rfl rfl rfl rfl ?_)
            intro vs1 hsl1
            replace hsl1 : Sl _ w111 vs1 [t] := hsl1
            refine ⟨hS, ?_⟩
            refine a_build (cells := [.int .u8 6, .string ⟨#[]⟩, .int .i64 0, vs1]) (css := [[.int .u8 6], [vs1]]) 24 bd25 rfl rfl (by rw [List.map, List.map, List.map, hsl1.cells]; rfl) rfl rfl rfl (by kernel_rfl) (fun _ _ _ h => h) hS ?_
            have hb6_ : Rep.R (Rw.Add M b9) w111 (.agg #[.int .u8 6, .string ⟨#[]⟩, .int .i64 0, vs1]) (Ty.mk 6 ⟨#[]⟩ 0 [t]) := ty_mk (by decide) (by decide) ⟨by decide, by decide⟩ hsl1
            refine a_bar 25 rfl (by kernel_rfl) (by kernel_rfl) (o_call fo22 rfl rfl rfl (alike_spec _ _ _ _ _ _ hm2 hb6_ hlow) ?_)
            rintro _ w112 ⟨rfl, ew112⟩
            replace hS := hS.then ew112
            replace h9 := h9.ext hlow hB ew112
            replace hE := hE.trans (Below.mono ew112 hB)
            replace h3 := h3.ext ew112
            replace h5 := h5.ext ew112
            replace ht := Rep.ext ht ew112
            replace hs := Rep.ext hs ew112
            replace h7 := h7.ext ew112
            replace hx := Rep.ext hx ew112
            replace hyy := Rep.ext hyy ew112
            replace htwo := htwo.ext ew112
            replace hb4_ := Rep.ext hb4_ ew112
            replace hm0 := Rep.ext hm0 ew112
            replace hm1 := Rep.ext hm1 ew112
            replace hsl0 := hsl0.ext ew112
            replace hb5_ := Rep.ext hb5_ ew112
            replace hm2 := Rep.ext hm2 ew112
            replace hsl1 := hsl1.ext ew112
            replace hb6_ := Rep.ext hb6_ ew112
            replace hlow := hlow.ext ew112
            replace hB := Nat.le_trans hB ew112.size
            refine a_p 26 tbOk rfl rfl rfl rfl (by kernel_rfl) (fun _ _ _ h => h) hS ?_
            refine a_p 27 tbOk rfl rfl rfl rfl (by kernel_rfl) (fun _ _ _ h => h) hS ?_
            refine a_split 78 _ rfl (fun c47 => ?_) (fun c47 => ?_)
            · refine a_build (cells := [.int .u8 1, .string ⟨#[]⟩, .int .i64 0, .slice none 0 0]) (css := [[.int .u8 1]]) 29 bd25 rfl rfl rfl rfl rfl rfl (by kernel_rfl) (fun _ _ _ h => h) hS ?_
              have hb1_ : Rep.R (Rw.Add M b9) w112 (.agg #[.int .u8 1, .string ⟨#[]⟩, .int .i64 0, .slice none 0 0]) (Ty.mk 1 ⟨#[]⟩ 0 []) := ty_mk (by decide) (by decide) ⟨by decide, by decide⟩ sl_nil
              refine a_one 28 rfl (by kernel_rfl) (o_call fo33 rfl rfl rfl (int_spec _ _ hlow) ?_)
              rintro vhm3 w113 ⟨hm3, ew113⟩
              replace hS := hS.then ew113
              replace h9 := h9.ext hlow hB ew113
              replace hE := hE.trans (Below.mono ew113 hB)
              replace h3 := h3.ext ew113
              replace h5 := h5.ext ew113
              replace ht := Rep.ext ht ew113
              replace hs := Rep.ext hs ew113
              replace h7 := h7.ext ew113
              replace hx := Rep.ext hx ew113
              replace hyy := Rep.ext hyy ew113
              replace htwo := htwo.ext ew113
              replace hb4_ := Rep.ext hb4_ ew113
              replace hm0 := Rep.ext hm0 ew113
              replace hm1 := Rep.ext hm1 ew113
              replace hsl0 := hsl0.ext ew113
              replace hb5_ := Rep.ext hb5_ ew113
              replace hm2 := Rep.ext hm2 ew113
              replace hsl1 := hsl1.ext ew113
              replace hb6_ := Rep.ext hb6_ ew113
              replace hb1_ := Rep.ext hb1_ ew113
              replace hlow := hlow.ext ew113
              replace hB := Nat.le_trans hB ew113.size
              refine ⟨hS, ?_⟩
              refine a_bar 30 rfl (by kernel_rfl) (by kernel_rfl) (o_call fo22 rfl rfl rfl (alike_spec _ _ _ _ _ _ hm3 hb1_ hlow) ?_)
              rintro _ w114 ⟨rfl, ew114⟩
              replace hS := hS.then ew114
              replace h9 := h9.ext hlow hB ew114
              replace hE := hE.trans (Below.mono ew114 hB)
              replace h3 := h3.ext ew114
              replace h5 := h5.ext ew114
              replace ht := Rep.ext ht ew114
              replace hs := Rep.ext hs ew114
              replace h7 := h7.ext ew114
              replace hx := Rep.ext hx ew114
              replace hyy := Rep.ext hyy ew114
              replace htwo := htwo.ext ew114
              replace hb4_ := Rep.ext hb4_ ew114
              replace hm0 := Rep.ext hm0 ew114
              replace hm1 := Rep.ext hm1 ew114
              replace hsl0 := hsl0.ext ew114
              replace hb5_ := Rep.ext hb5_ ew114
              replace hm2 := Rep.ext hm2 ew114
              replace hsl1 := hsl1.ext ew114
              replace hb6_ := Rep.ext hb6_ ew114
              replace hb1_ := Rep.ext hb1_ ew114
              replace hm3 := Rep.ext hm3 ew114
              replace hlow := hlow.ext ew114
              replace hB := Nat.le_trans hB ew114.size
              refine a_p 31 tbOk rfl rfl rfl rfl (by kernel_rfl) (fun _ _ _ h => h) hS ?_
              refine a_p 32 tbOk rfl rfl rfl rfl (by kernel_rfl) (fun _ _ _ h => h) hS ?_
              refine a_split 83 _ rfl (fun c48 => ?_) (fun c48 => ?_)
              · refine a_build (cells := [.int .u8 2, .string ⟨#[]⟩, .int .i64 0, .slice none 0 0]) (css := [[.int .u8 2]]) 34 bd25 rfl rfl rfl rfl rfl rfl (by kernel_rfl) (fun _ _ _ h => h) hS ?_
                have hb2_ : Rep.R (Rw.Add M b9) w114 (.agg #[.int .u8 2, .string ⟨#[]⟩, .int .i64 0, .slice none 0 0]) (Ty.mk 2 ⟨#[]⟩ 0 []) := ty_mk (by decide) (by decide) ⟨by decide, by decide⟩ sl_nil
                refine a_one 33 rfl (by kernel_rfl) (o_call fo34 rfl rfl rfl (bool_spec _ _ hlow) ?_)
                rintro vhm4 w115 ⟨hm4, ew115⟩
                replace hS := hS.then ew115
                replace h9 := h9.ext hlow hB ew115
                replace hE := hE.trans (Below.mono ew115 hB)
                replace h3 := h3.ext ew115
                replace h5 := h5.ext ew115
                replace ht := Rep.ext ht ew115
                replace hs := Rep.ext hs ew115
                replace h7 := h7.ext ew115
                replace hx := Rep.ext hx ew115
                replace hyy := Rep.ext hyy ew115
                replace htwo := htwo.ext ew115
                replace hb4_ := Rep.ext hb4_ ew115
                replace hm0 := Rep.ext hm0 ew115
                replace hm1 := Rep.ext hm1 ew115
                replace hsl0 := hsl0.ext ew115
                replace hb5_ := Rep.ext hb5_ ew115
                replace hm2 := Rep.ext hm2 ew115
                replace hsl1 := hsl1.ext ew115
                replace hb6_ := Rep.ext hb6_ ew115
                replace hb1_ := Rep.ext hb1_ ew115
                replace hm3 := Rep.ext hm3 ew115
                replace hb2_ := Rep.ext hb2_ ew115
                replace hlow := hlow.ext ew115
                replace hB := Nat.le_trans hB ew115.size
                refine ⟨hS, ?_⟩
                refine a_bar 35 rfl (by kernel_rfl) (by kernel_rfl) (o_call fo22 rfl rfl rfl (alike_spec _ _ _ _ _ _ hm4 hb2_ hlow) ?_)
                rintro _ w116 ⟨rfl, ew116⟩
                replace hS := hS.then ew116
                replace h9 := h9.ext hlow hB ew116
                replace hE := hE.trans (Below.mono ew116 hB)
                replace h3 := h3.ext ew116
                replace h5 := h5.ext ew116
                replace ht := Rep.ext ht ew116
                replace hs := Rep.ext hs ew116
                replace h7 := h7.ext ew116
                replace hx := Rep.ext hx ew116
                replace hyy := Rep.ext hyy ew116
                replace htwo := htwo.ext ew116
                replace hb4_ := Rep.ext hb4_ ew116
                replace hm0 := Rep.ext hm0 ew116
                replace hm1 := Rep.ext hm1 ew116
                replace hsl0 := hsl0.ext ew116
                replace hb5_ := Rep.ext hb5_ ew116
                replace hm2 := Rep.ext hm2 ew116
                replace hsl1 := hsl1.ext ew116
                replace hb6_ := Rep.ext hb6_ ew116
                replace hb1_ := Rep.ext hb1_ ew116
                replace hm3 := Rep.ext hm3 ew116
                replace hb2_ := Rep.ext hb2_ ew116
                replace hm4 := Rep.ext hm4 ew116
                replace hlow := hlow.ext ew116
                replace hB := Nat.le_trans hB ew116.size
                refine a_p 36 tbOk rfl rfl rfl rfl (by kernel_rfl) (fun _ _ _ h => h) hS ?_
                refine a_p 37 tbOk rfl rfl rfl rfl (by kernel_rfl) (fun _ _ _ h => h) hS ?_
                refine a_split 88 _ rfl (fun c49 => ?_) (fun c49 => ?_)
                · refine a_build (cells := [.int .u8 3, .string ⟨#[]⟩, .int .i64 0, .slice none 0 0]) (css := [[.int .u8 3]]) 39 bd25 rfl rfl rfl rfl rfl rfl (by kernel_rfl) (fun _ _ _ h => h) hS ?_
                  have hb3_ : Rep.R (Rw.Add M b9) w116 (.agg #[.int .u8 3, .string ⟨#[]⟩, .int .i64 0, .slice none 0 0]) (Ty.mk 3 ⟨#[]⟩ 0 []) := ty_mk (by decide) (by decide) ⟨by decide, by decide⟩ sl_nil
                  refine a_one 38 rfl (by kernel_rfl) (o_call fo35 rfl rfl rfl (dyn_spec _ _ hlow) ?_)
                  rintro vhm5 w117 ⟨hm5, ew117⟩
                  replace hS := hS.then ew117
                  replace h9 := h9.ext hlow hB ew117
                  replace hE := hE.trans (Below.mono ew117 hB)
                  replace h3 := h3.ext ew117
                  replace h5 := h5.ext ew117
                  replace ht := Rep.ext ht ew117
                  replace hs := Rep.ext hs ew117
                  replace h7 := h7.ext ew117
                  replace hx := Rep.ext hx ew117
                  replace hyy := Rep.ext hyy ew117
                  replace htwo := htwo.ext ew117
                  replace hb4_ := Rep.ext hb4_ ew117
                  replace hm0 := Rep.ext hm0 ew117
                  replace hm1 := Rep.ext hm1 ew117
                  replace hsl0 := hsl0.ext ew117
                  replace hb5_ := Rep.ext hb5_ ew117
                  replace hm2 := Rep.ext hm2 ew117
                  replace hsl1 := hsl1.ext ew117
                  replace hb6_ := Rep.ext hb6_ ew117
                  replace hb1_ := Rep.ext hb1_ ew117
                  replace hm3 := Rep.ext hm3 ew117
                  replace hb2_ := Rep.ext hb2_ ew117
                  replace hm4 := Rep.ext hm4 ew117
                  replace hb3_ := Rep.ext hb3_ ew117
                  replace hlow := hlow.ext ew117
                  replace hB := Nat.le_trans hB ew117.size
                  refine ⟨hS, ?_⟩
                  refine a_bar 40 rfl (by kernel_rfl) (by kernel_rfl) (o_call fo22 rfl rfl rfl (alike_spec _ _ _ _ _ _ hm5 hb3_ hlow) ?_)
                  rintro _ w118 ⟨rfl, ew118⟩
                  replace hS := hS.then ew118
                  replace h9 := h9.ext hlow hB ew118
                  replace hE := hE.trans (Below.mono ew118 hB)
                  replace h3 := h3.ext ew118
                  replace h5 := h5.ext ew118
                  replace ht := Rep.ext ht ew118
                  replace hs := Rep.ext hs ew118
                  replace h7 := h7.ext ew118
                  replace hx := Rep.ext hx ew118
                  replace hyy := Rep.ext hyy ew118
                  replace htwo := htwo.ext ew118
                  replace hb4_ := Rep.ext hb4_ ew118
                  replace hm0 := Rep.ext hm0 ew118
                  replace hm1 := Rep.ext hm1 ew118
                  replace hsl0 := hsl0.ext ew118
                  replace hb5_ := Rep.ext hb5_ ew118
                  replace hm2 := Rep.ext hm2 ew118
                  replace hsl1 := hsl1.ext ew118
                  replace hb6_ := Rep.ext hb6_ ew118
                  replace hb1_ := Rep.ext hb1_ ew118
                  replace hm3 := Rep.ext hm3 ew118
                  replace hb2_ := Rep.ext hb2_ ew118
                  replace hm4 := Rep.ext hm4 ew118
                  replace hb3_ := Rep.ext hb3_ ew118
                  replace hm5 := Rep.ext hm5 ew118
                  replace hlow := hlow.ext ew118
                  replace hB := Nat.le_trans hB ew118.size
                  refine a_p 41 tbOk rfl rfl rfl rfl (by kernel_rfl) (fun _ _ _ h => h) hS ?_
                  refine a_p 42 tbOk rfl rfl rfl rfl (by kernel_rfl) (fun _ _ _ h => h) hS ?_
                  refine a_end (by kernel_rfl) ?_
                  refine x_seq (c_ret (x_ret1 rfl rfl ?_))
                  exact ⟨by first | rfl | rw [cl_true rfl] | simp_all, hE⟩
                exact absurd rfl (cl_not c49)
              exact absurd rfl (cl_not c48)
            exact absurd rfl (cl_not c47)
          refine o_slh tbOk htwo rfl rfl rfl (j := 1) (by simp) rfl rfl rfl rfl rfl ?_
          intro vs1 hsl1
          replace hsl1 : Sl _ w110 vs1 [t] := hsl1
          refine ⟨hS, ?_⟩
          refine a_build (cells := [.int .u8 6, .string ⟨#[]⟩, .int .i64 0, vs1]) (css := [[.int .u8 6], [vs1]]) 24 bd25 rfl rfl (by rw [List.map, List.map, List.map, hsl1.cells]; rfl) rfl rfl rfl (by kernel_rfl) (fun _ _ _ h => h) hS ?_
          have hb6_ : Rep.R (Rw.Add M b9) w110 (.agg #[.int .u8 6, .string ⟨#[]⟩, .int .i64 0, vs1]) (Ty.mk 6 ⟨#[]⟩ 0 [t]) := ty_mk (by decide) (by decide) ⟨by decide, by decide⟩ hsl1
          refine a_one 21 rfl (by kernel_rfl) (o_call fo32 rfl rfl rfl (vnt_own t _ _ _ ht hlow hz) ?_)
          rintro vhm2 w119 ⟨hm2, ew119⟩
          replace hm2 := hm2.repNew hlow
          replace hS := hS.then ew119
          replace h9 := h9.ext hlow hB ew119
          replace hE := hE.trans (Below.mono ew119 hB)
          replace h3 := h3.ext ew119
          replace h5 := h5.ext ew119
          replace ht := Rep.ext ht ew119
          replace hs := Rep.ext hs ew119
          replace h7 := h7.ext ew119
          replace hx := Rep.ext hx ew119
          replace hyy := Rep.ext hyy ew119
          replace htwo := htwo.ext ew119
          replace hb4_ := Rep.ext hb4_ ew119
          replace hm0 := Rep.ext hm0 ew119
          replace hm1 := Rep.ext hm1 ew119
          replace hsl0 := hsl0.ext ew119
          replace hb5_ := Rep.ext hb5_ ew119
          replace hsl1 := hsl1.ext ew119
          replace hb6_ := Rep.ext hb6_ ew119
          replace hlow := hlow.ext ew119
          replace hB := Nat.le_trans hB ew119.size
          refine ⟨hS, ?_⟩
          refine a_bar 25 rfl (by kernel_rfl) (by kernel_rfl) (o_call fo22 rfl rfl rfl (alike_spec _ _ _ _ _ _ hm2 hb6_ hlow) ?_)
          rintro _ w120 ⟨rfl, ew120⟩
          replace hS := hS.then ew120
          replace h9 := h9.ext hlow hB ew120
          replace hE := hE.trans (Below.mono ew120 hB)
          replace h3 := h3.ext ew120
          replace h5 := h5.ext ew120
          replace ht := Rep.ext ht ew120
          replace hs := Rep.ext hs ew120
          replace h7 := h7.ext ew120
          replace hx := Rep.ext hx ew120
          replace hyy := Rep.ext hyy ew120
          replace htwo := htwo.ext ew120
          replace hb4_ := Rep.ext hb4_ ew120
          replace hm0 := Rep.ext hm0 ew120
          replace hm1 := Rep.ext hm1 ew120
          replace hsl0 := hsl0.ext ew120
          replace hb5_ := Rep.ext hb5_ ew120
          replace hsl1 := hsl1.ext ew120
          replace hb6_ := Rep.ext hb6_ ew120
          replace hm2 := Rep.ext hm2 ew120
          replace hlow := hlow.ext ew120
          replace hB := Nat.le_trans hB ew120.size
          refine a_p 26 tbOk rfl rfl rfl rfl (by kernel_rfl) (fun _ _ _ h => h) hS ?_
          refine a_p 27 tbOk rfl rfl rfl rfl (by kernel_rfl) (fun _ _ _ h => h) hS ?_
          refine a_split 78 _ rfl (fun c50 => ?_) (fun c50 => ?_)
          · refine a_build (cells := [.int .u8 1, .string ⟨#[]⟩, .int .i64 0, .slice none 0 0]) (css := [[.int .u8 1]]) 29 bd25 rfl rfl rfl rfl rfl rfl (by kernel_rfl) (fun _ _ _ h => h) hS ?_
            have hb1_ : Rep.R (Rw.Add M b9) w120 (.agg #[.int .u8 1, .string ⟨#[]⟩, .int .i64 0, .slice none 0 0]) (Ty.mk 1 ⟨#[]⟩ 0 []) := ty_mk (by decide) (by decide) ⟨by decide, by decide⟩ sl_nil
            refine a_one 28 rfl (by kernel_rfl) (o_call fo33 rfl rfl rfl (int_spec _ _ hlow) ?_)
            rintro vhm3 w121 ⟨hm3, ew121⟩
            replace hS := hS.then ew121
            replace h9 := h9.ext hlow hB ew121
            replace hE := hE.trans (Below.mono ew121 hB)
            replace h3 := h3.ext ew121
            replace h5 := h5.ext ew121
            replace ht := Rep.ext ht ew121
            replace hs := Rep.ext hs ew121
            replace h7 := h7.ext ew121
            replace hx := Rep.ext hx ew121
            replace hyy := Rep.ext hyy ew121
            replace htwo := htwo.ext ew121
            replace hb4_ := Rep.ext hb4_ ew121
            replace hm0 := Rep.ext hm0 ew121
            replace hm1 := Rep.ext hm1 ew121
            replace hsl0 := hsl0.ext ew121
            replace hb5_ := Rep.ext hb5_ ew121
            replace hsl1 := hsl1.ext ew121
            replace hb6_ := Rep.ext hb6_ ew121
            replace hm2 := Rep.ext hm2 ew121
            replace hb1_ := Rep.ext hb1_ ew121
            replace hlow := hlow.ext ew121
            replace hB := Nat.le_trans hB ew121.size
            refine ⟨hS, ?_⟩
            refine a_bar 30 rfl (by kernel_rfl) (by kernel_rfl) (o_call fo22 rfl rfl rfl (alike_spec _ _ _ _ _ _ hm3 hb1_ hlow) ?_)
            rintro _ w122 ⟨rfl, ew122⟩
            replace hS := hS.then ew122
            replace h9 := h9.ext hlow hB ew122
            replace hE := hE.trans (Below.mono ew122 hB)
            replace h3 := h3.ext ew122
            replace h5 := h5.ext ew122
            replace ht := Rep.ext ht ew122
            replace hs := Rep.ext hs ew122
            replace h7 := h7.ext ew122
            replace hx := Rep.ext hx ew122
            replace hyy := Rep.ext hyy ew122
            replace htwo := htwo.ext ew122
            replace hb4_ := Rep.ext hb4_ ew122
            replace hm0 := Rep.ext hm0 ew122
            replace hm1 := Rep.ext hm1 ew122
            replace hsl0 := hsl0.ext ew122
            replace hb5_ := Rep.ext hb5_ ew122
            replace hsl1 := hsl1.ext ew122
            replace hb6_ := Rep.ext hb6_ ew122
            replace hm2 := Rep.ext hm2 ew122
            replace hb1_ := Rep.ext hb1_ ew122
            replace hm3 := Rep.ext hm3 ew122
            replace hlow := hlow.ext ew122
            replace hB := Nat.le_trans hB ew122.size
            refine a_p 31 tbOk rfl rfl rfl rfl (by kernel_rfl) (fun _ _ _ h => h) hS ?_
            refine a_p 32 tbOk rfl rfl rfl rfl (by kernel_rfl) (fun _ _ _ h => h) hS ?_
            refine a_split 83 _ rfl (fun c51 => ?_) (fun c51 => ?_)
            · refine a_build (cells := [.int .u8 2, .string ⟨#[]⟩, .int .i64 0, .slice none 0 0]) (css := [[.int .u8 2]]) 34 bd25 rfl rfl rfl rfl rfl rfl (by kernel_rfl) (fun _ _ _ h => h) hS ?_
              have hb2_ : Rep.R (Rw.Add M b9) w122 (.agg #[.int .u8 2, .string ⟨#[]⟩, .int .i64 0, .slice none 0 0]) (Ty.mk 2 ⟨#[]⟩ 0 []) := ty_mk (by decide) (by decide) ⟨by decide, by decide⟩ sl_nil
              refine a_one 33 rfl (by kernel_rfl) (o_call fo34 rfl rfl rfl (bool_spec _ _ hlow) ?_)
              rintro vhm4 w123 ⟨hm4, ew123⟩
              replace hS := hS.then ew123
              replace h9 := h9.ext hlow hB ew123
              replace hE := hE.trans (Below.mono ew123 hB)
              replace h3 := h3.ext ew123
              replace h5 := h5.ext ew123
              replace ht := Rep.ext ht ew123
              replace hs := Rep.ext hs ew123
              replace h7 := h7.ext ew123
              replace hx := Rep.ext hx ew123
              replace hyy := Rep.ext hyy ew123
              replace htwo := htwo.ext ew123
              replace hb4_ := Rep.ext hb4_ ew123
              replace hm0 := Rep.ext hm0 ew123
              replace hm1 := Rep.ext hm1 ew123
              replace hsl0 := hsl0.ext ew123
              replace hb5_ := Rep.ext hb5_ ew123
              replace hsl1 := hsl1.ext ew123
              replace hb6_ := Rep.ext hb6_ ew123
              replace hm2 := Rep.ext hm2 ew123
              replace hb1_ := Rep.ext hb1_ ew123
              replace hm3 := Rep.ext hm3 ew123
              replace hb2_ := Rep.ext hb2_ ew123
              replace hlow := hlow.ext ew123
              replace hB := Nat.le_trans hB ew123.size
              refine ⟨hS, ?_⟩
              refine a_bar 35 rfl (by kernel_rfl) (by kernel_rfl) (o_call fo22 rfl rfl rfl (alike_spec _ _ _ _ _ _ hm4 hb2_ hlow) ?_)
              rintro _ w124 ⟨rfl, ew124⟩
              replace hS := hS.then ew124
              replace h9 := h9.ext hlow hB ew124
              replace hE := hE.trans (Below.mono ew124 hB)
              replace h3 := h3.ext ew124
              replace h5 := h5.ext ew124
              replace ht := Rep.ext ht ew124
              replace hs := Rep.ext hs ew124
              replace h7 := h7.ext ew124
              replace hx := Rep.ext hx ew124
              replace hyy := Rep.ext hyy ew124
              replace htwo := htwo.ext ew124
              replace hb4_ := Rep.ext hb4_ ew124
              replace hm0 := Rep.ext hm0 ew124
              replace hm1 := Rep.ext hm1 ew124
              replace hsl0 := hsl0.ext ew124
              replace hb5_ := Rep.ext hb5_ ew124
              replace hsl1 := hsl1.ext ew124
              replace hb6_ := Rep.ext hb6_ ew124
              replace hm2 := Rep.ext hm2 ew124
              replace hb1_ := Rep.ext hb1_ ew124
              replace hm3 := Rep.ext hm3 ew124
              replace hb2_ := Rep.ext hb2_ ew124
              replace hm4 := Rep.ext hm4 ew124
              replace hlow := hlow.ext ew124
              replace hB := Nat.le_trans hB ew124.size
              refine a_p 36 tbOk rfl rfl rfl rfl (by kernel_rfl) (fun _ _ _ h => h) hS ?_
              refine a_p 37 tbOk rfl rfl rfl rfl (by kernel_rfl) (fun _ _ _ h => h) hS ?_
              refine a_split 88 _ rfl (fun c52 => ?_) (fun c52 => ?_)
              · refine a_build (cells := [.int .u8 3, .string ⟨#[]⟩, .int .i64 0, .slice none 0 0]) (css := [[.int .u8 3]]) 39 bd25 rfl rfl rfl rfl rfl rfl (by kernel_rfl) (fun _ _ _ h => h) hS ?_
                have hb3_ : Rep.R (Rw.Add M b9) w124 (.agg #[.int .u8 3, .string ⟨#[]⟩, .int .i64 0, .slice none 0 0]) (Ty.mk 3 ⟨#[]⟩ 0 []) := ty_mk (by decide) (by decide) ⟨by decide, by decide⟩ sl_nil
                refine a_one 38 rfl (by kernel_rfl) (o_call fo35 rfl rfl rfl (dyn_spec _ _ hlow) ?_)
                rintro vhm5 w125 ⟨hm5, ew125⟩
                replace hS := hS.then ew125
                replace h9 := h9.ext hlow hB ew125
                replace hE := hE.trans (Below.mono ew125 hB)
                replace h3 := h3.ext ew125
                replace h5 := h5.ext ew125
                replace ht := Rep.ext ht ew125
                replace hs := Rep.ext hs ew125
                replace h7 := h7.ext ew125
                replace hx := Rep.ext hx ew125
                replace hyy := Rep.ext hyy ew125
                replace htwo := htwo.ext ew125
                replace hb4_ := Rep.ext hb4_ ew125
                replace hm0 := Rep.ext hm0 ew125
                replace hm1 := Rep.ext hm1 ew125
                replace hsl0 := hsl0.ext ew125
                replace hb5_ := Rep.ext hb5_ ew125
                replace hsl1 := hsl1.ext ew125
                replace hb6_ := Rep.ext hb6_ ew125
                replace hm2 := Rep.ext hm2 ew125
                replace hb1_ := Rep.ext hb1_ ew125
                replace hm3 := Rep.ext hm3 ew125
                replace hb2_ := Rep.ext hb2_ ew125
                replace hm4 := Rep.ext hm4 ew125
                replace hb3_ := Rep.ext hb3_ ew125
                replace hlow := hlow.ext ew125
                replace hB := Nat.le_trans hB ew125.size
                refine ⟨hS, ?_⟩
                refine a_bar 40 rfl (by kernel_rfl) (by kernel_rfl) (o_call fo22 rfl rfl rfl (alike_spec _ _ _ _ _ _ hm5 hb3_ hlow) ?_)
                rintro _ w126 ⟨rfl, ew126⟩
                replace hS := hS.then ew126
                replace h9 := h9.ext hlow hB ew126
                replace hE := hE.trans (Below.mono ew126 hB)
                replace h3 := h3.ext ew126
                replace h5 := h5.ext ew126
                replace ht := Rep.ext ht ew126
                replace hs := Rep.ext hs ew126
                replace h7 := h7.ext ew126
                replace hx := Rep.ext hx ew126
                replace hyy := Rep.ext hyy ew126
                replace htwo := htwo.ext ew126
                replace hb4_ := Rep.ext hb4_ ew126
                replace hm0 := Rep.ext hm0 ew126
                replace hm1 := Rep.ext hm1 ew126
                replace hsl0 := hsl0.ext ew126
                replace hb5_ := Rep.ext hb5_ ew126
                replace hsl1 := hsl1.ext ew126
                replace hb6_ := Rep.ext hb6_ ew126
                replace hm2 := Rep.ext hm2 ew126
                replace hb1_ := Rep.ext hb1_ ew126
                replace hm3 := Rep.ext hm3 ew126
                replace hb2_ := Rep.ext hb2_ ew126
                replace hm4 := Rep.ext hm4 ew126
                replace hb3_ := Rep.ext hb3_ ew126
                replace hm5 := Rep.ext hm5 ew126
                replace hlow := hlow.ext ew126
                replace hB := Nat.le_trans hB ew126.size
                refine a_p 41 tbOk rfl rfl rfl rfl (by kernel_rfl) (fun _ _ _ h => h) hS ?_
                refine a_p 42 tbOk rfl rfl rfl rfl (by kernel_rfl) (fun _ _ _ h => h) hS ?_
                refine a_end (by kernel_rfl) ?_
                refine x_seq (c_ret (x_ret1 rfl rfl ?_))
                exact ⟨by first | rfl | rw [cl_true rfl] | simp_all, hE⟩
              exact absurd rfl (cl_not c52)
            exact absurd rfl (cl_not c51)
          exact absurd rfl (cl_not c50)
        exact absurd rfl (cl_not c46)
      refine o_slh tbOk htwo rfl rfl rfl (j := 1) (by simp) rfl rfl rfl rfl rfl ?_
      intro vs0 hsl0
      replace hsl0 : Sl _ w108 vs0 [t] := hsl0
      refine ⟨hS, ?_⟩
      refine a_build (cells := [.int .u8 5, .string ⟨#[]⟩, .int .i64 0, vs0]) (css := [[.int .u8 5], [vs0]]) 16 bd25 rfl rfl (by rw [List.map, List.map, List.map, hsl0.cells]; rfl) rfl rfl rfl (by kernel_rfl) (fun _ _ _ h => h) hS ?_
      have hb5_ : Rep.R (Rw.Add M b9) w108 (.agg #[.int .u8 5, .string ⟨#[]⟩, .int .i64 0, vs0]) (Ty.mk 5 ⟨#[]⟩ 0 [t]) := ty_mk (by decide) (by decide) ⟨by decide, by decide⟩ hsl0
      refine a_one 13 rfl (by kernel_rfl) (o_call fo31 rfl rfl rfl (rec_own t _ _ _ ht hlow hz) ?_)
      rintro vhm1 w127 ⟨hm1, ew127⟩
      replace hm1 := hm1.repNew hlow
      replace hS := hS.then ew127
      replace h9 := h9.ext hlow hB ew127
      replace hE := hE.trans (Below.mono ew127 hB)
      replace h3 := h3.ext ew127
      replace h5 := h5.ext ew127
      replace ht := Rep.ext ht ew127
      replace hs := Rep.ext hs ew127
      replace h7 := h7.ext ew127
      replace hx := Rep.ext hx ew127
      replace hyy := Rep.ext hyy ew127
      replace htwo := htwo.ext ew127
      replace hb4_ := Rep.ext hb4_ ew127
      replace hm0 := Rep.ext hm0 ew127
      replace hsl0 := hsl0.ext ew127
      replace hb5_ := Rep.ext hb5_ ew127
      replace hlow := hlow.ext ew127
      replace hB := Nat.le_trans hB ew127.size
      refine ⟨hS, ?_⟩
      refine a_bar 17 rfl (by kernel_rfl) (by kernel_rfl) (o_call fo22 rfl rfl rfl (alike_spec _ _ _ _ _ _ hm1 hb5_ hlow) ?_)
      rintro _ w128 ⟨rfl, ew128⟩
      replace hS := hS.then ew128
      replace h9 := h9.ext hlow hB ew128
      replace hE := hE.trans (Below.mono ew128 hB)
      replace h3 := h3.ext ew128
      replace h5 := h5.ext ew128
      replace ht := Rep.ext ht ew128
      replace hs := Rep.ext hs ew128
      replace h7 := h7.ext ew128
      replace hx := Rep.ext hx ew128
      replace hyy := Rep.ext hyy ew128
      replace htwo := htwo.ext ew128
      replace hb4_ := Rep.ext hb4_ ew128
      replace hm0 := Rep.ext hm0 ew128
      replace hsl0 := hsl0.ext ew128
      replace hb5_ := Rep.ext hb5_ ew128
      replace hm1 := Rep.ext hm1 ew128
      replace hlow := hlow.ext ew128
      replace hB := Nat.le_trans hB ew128.size
      refine a_p 18 tbOk rfl rfl rfl rfl (by kernel_rfl) (fun _ _ _ h => h) hS ?_
      refine a_p 19 tbOk rfl rfl rfl rfl (by kernel_rfl) (fun _ _ _ h => h) hS ?_
      refine a_split 70 _ rfl (fun c53 => ?_) (fun c53 => ?_)
      · refine a_lds 20 tbOk (fun _ hs j v hv => (D_h3.ext hs).cell j v hv) rfl rfl rfl rfl rfl rfl rfl (by kernel_rfl) (fun _ _ _ h => h) hS ?_
        refine a_p 22 tbOk rfl rfl rfl rfl (by kernel_rfl) (fun _ _ _ h => h) hS ?_
        refine a_all [21, 23] (by kernel_rfl) rfl (all_cons (i := 21) rfl ?_ (all_cons (i := 23) rfl ?_ all_nil))
        · refine o_call fo32 rfl rfl rfl (vnt_own t _ _ _ ht hlow hz) ?_
          rintro vhm2 w129 ⟨hm2, ew129⟩
          replace hm2 := hm2.repNew hlow
          replace hS := hS.then ew129
          replace h9 := h9.ext hlow hB ew129
          replace hE := hE.trans (Below.mono ew129 hB)
          replace h3 := h3.ext ew129
          replace h5 := h5.ext ew129
          replace ht := Rep.ext ht ew129
          replace hs := Rep.ext hs ew129
          replace h7 := h7.ext ew129
          replace hx := Rep.ext hx ew129
          replace hyy := Rep.ext hyy ew129
          replace htwo := htwo.ext ew129
          replace hb4_ := Rep.ext hb4_ ew129
          replace hm0 := Rep.ext hm0 ew129
          replace hsl0 := hsl0.ext ew129
          replace hb5_ := Rep.ext hb5_ ew129
          replace hm1 := Rep.ext hm1 ew129
          replace hlow := hlow.ext ew129
          replace hB := Nat.le_trans hB ew129.size
          refine ⟨hS, ?_⟩
          refine a_one 23 rfl (by kernel_rfl) (o_slh tbOk htwo rfl rfl rfl (j := 1) (by simp) rfl rfl rfl rfl rfl ?_)
          intro vs1 hsl1
          replace hsl1 : Sl _ w129 vs1 [t] := hsl1
          refine ⟨hS, ?_⟩
          refine a_build (cells := [.int .u8 6, .string ⟨#[]⟩, .int .i64 0, vs1]) (css := [[.int .u8 6], [vs1]]) 24 bd25 rfl rfl (by rw [List.map, List.map, List.map, hsl1.cells]; rfl) rfl rfl rfl (by kernel_rfl) (fun _ _ _ h => h) hS ?_
          have hb6_ : Rep.R (Rw.Add M b9) w129 (.agg #[.int .u8 6, .string ⟨#[]⟩, .int .i64 0, vs1]) (Ty.mk 6 ⟨#[]⟩ 0 [t]) := ty_mk (by decide) (by decide) ⟨by decide, by decide⟩ hsl1
          refine a_bar 25 rfl (by kernel_rfl) (by kernel_rfl) (o_call fo22 rfl rfl rfl (alike_spec _ _ _ _ _ _ hm2 hb6_ hlow) ?_)
          rintro _ w130 ⟨rfl, ew130⟩
          replace hS := hS.then ew130
          replace h9 := h9.ext hlow hB ew130
          replace hE := hE.trans (Below.mono ew130 hB)
          replace h3 := h3.ext ew130
          replace h5 := h5.ext ew130
          replace ht := Rep.ext ht ew130
          replace hs := Rep.ext hs ew130
          replace h7 := h7.ext ew130
          replace hx := Rep.ext hx ew130
          replace hyy := Rep.ext hyy ew130
          replace htwo := htwo.ext ew130
          replace hb4_ := Rep.ext hb4_ ew130
          replace hm0 := Rep.ext hm0 ew130
          replace hsl0 := hsl0.ext ew130
          replace hb5_ := Rep.ext hb5_ ew130
          replace hm1 := Rep.ext hm1 ew130
          replace hm2 := Rep.ext hm2 ew130
          replace hsl1 := hsl1.ext ew130
          replace hb6_ := Rep.ext hb6_ ew130
          replace hlow := hlow.ext ew130
          replace hB := Nat.le_trans hB ew130.size
          refine a_p 26 tbOk rfl rfl rfl rfl (by kernel_rfl) (fun _ _ _ h => h) hS ?_
          refine a_p 27 tbOk rfl rfl rfl rfl (by kernel_rfl) (fun _ _ _ h => h) hS ?_
          refine a_split 78 _ rfl (fun c54 => ?_) (fun c54 => ?_)
          · refine a_build (cells := [.int .u8 1, .string ⟨#[]⟩, .int .i64 0, .slice none 0 0]) (css := [[.int .u8 1]]) 29 bd25 rfl rfl rfl rfl rfl rfl (by kernel_rfl) (fun _ _ _ h => h) hS ?_
            have hb1_ : Rep.R (Rw.Add M b9) w130 (.agg #[.int .u8 1, .string ⟨#[]⟩, .int .i64 0, .slice none 0 0]) (Ty.mk 1 ⟨#[]⟩ 0 []) := ty_mk (by decide) (by decide) ⟨by decide, by decide⟩ sl_nil
            refine a_one 28 rfl (by kernel_rfl) (o_call fo33 rfl rfl rfl (int_spec _ _ hlow) ?_)
            rintro vhm3 w131 ⟨hm3, ew131⟩
            replace hS := hS.then ew131
            replace h9 := h9.ext hlow hB ew131
            replace hE := hE.trans (Below.mono ew131 hB)
            replace h3 := h3.ext ew131
            replace h5 := h5.ext ew131
            replace ht := Rep.ext ht ew131
            replace hs := Rep.ext hs ew131
            replace h7 := h7.ext ew131
            replace hx := Rep.ext hx ew131
            replace hyy := Rep.ext hyy ew131
            replace htwo := htwo.ext ew131
            replace hb4_ := Rep.ext hb4_ ew131
            replace hm0 := Rep.ext hm0 ew131
            replace hsl0 := hsl0.ext ew131
            replace hb5_ := Rep.ext hb5_ ew131
            replace hm1 := Rep.ext hm1 ew131
            replace hm2 := Rep.ext hm2 ew131
            replace hsl1 := hsl1.ext ew131
            replace hb6_ := Rep.ext hb6_ ew131
            replace hb1_ := Rep.ext hb1_ ew131
            replace hlow := hlow.ext ew131
            replace hB := Nat.le_trans hB ew131.size
            refine ⟨hS, ?_⟩
            refine a_bar 30 rfl (by kernel_rfl) (by kernel_rfl) (o_call fo22 rfl rfl rfl (alike_spec _ _ _ _ _ _ hm3 hb1_ hlow) ?_)
            rintro _ w132 ⟨rfl, ew132⟩
            replace hS := hS.then ew132
            replace h9 := h9.ext hlow hB ew132
            replace hE := hE.trans (Below.mono ew132 hB)
            replace h3 := h3.ext ew132
            replace h5 := h5.ext ew132
            replace ht := Rep.ext ht ew132
            replace hs := Rep.ext hs ew132
            replace h7 := h7.ext ew132
            replace hx := Rep.ext hx ew132
            replace hyy := Rep.ext hyy ew132
            replace htwo := htwo.ext ew132
            replace hb4_ := Rep.ext hb4_ ew132
            replace hm0 := Rep.ext hm0 ew132
            replace hsl0 := hsl0.ext ew132
            replace hb5_ := Rep.ext hb5_ ew132
            replace hm1 := Rep.ext hm1 ew132
            replace hm2 := Rep.ext hm2 ew132
            replace hsl1 := hsl1.ext ew132
            replace hb6_ := Rep.ext hb6_ ew132
            replace hb1_ := Rep.ext hb1_ ew132
            replace hm3 := Rep.ext hm3 ew132
            replace hlow := hlow.ext ew132
            replace hB := Nat.le_trans hB ew132.size
            refine a_p 31 tbOk rfl rfl rfl rfl (by kernel_rfl) (fun _ _ _ h => h) hS ?_
            refine a_p 32 tbOk rfl rfl rfl rfl (by kernel_rfl) (fun _ _ _ h => h) hS ?_
            refine a_split 83 _ rfl (fun c55 => ?_) (fun c55 => ?_)
            · refine a_build (cells := [.int .u8 2, .string ⟨#[]⟩, .int .i64 0, .slice none 0 0]) (css := [[.int .u8 2]]) 34 bd25 rfl rfl rfl rfl rfl rfl (by kernel_rfl) (fun _ _ _ h => h) hS ?_
              have hb2_ : Rep.R (Rw.Add M b9) w132 (.agg #[.int .u8 2, .string ⟨#[]⟩, .int .i64 0, .slice none 0 0]) (Ty.mk 2 ⟨#[]⟩ 0 []) := ty_mk (by decide) (by decide) ⟨by decide, by decide⟩ sl_nil
              refine a_one 33 rfl (by kernel_rfl) (o_call fo34 rfl rfl rfl (bool_spec _ _ hlow) ?_)
              rintro vhm4 w133 ⟨hm4, ew133⟩
              replace hS := hS.then ew133
              replace h9 := h9.ext hlow hB ew133
              replace hE := hE.trans (Below.mono ew133 hB)
              replace h3 := h3.ext ew133
              replace h5 := h5.ext ew133
              replace ht := Rep.ext ht ew133
              replace hs := Rep.ext hs ew133
              replace h7 := h7.ext ew133
              replace hx := Rep.ext hx ew133
              replace hyy := Rep.ext hyy ew133
              replace htwo := htwo.ext ew133
              replace hb4_ := Rep.ext hb4_ ew133
              replace hm0 := Rep.ext hm0 ew133
              replace hsl0 := hsl0.ext ew133
              replace hb5_ := Rep.ext hb5_ ew133
              replace hm1 := Rep.ext hm1 ew133
              replace hm2 := Rep.ext hm2 ew133
              replace hsl1 := hsl1.ext ew133
              replace hb6_ := Rep.ext hb6_ ew133
              replace hb1_ := Rep.ext hb1_ ew133
              replace hm3 := Rep.ext hm3 ew133
              replace hb2_ := Rep.ext hb2_ ew133
              replace hlow := hlow.ext ew133
              replace hB := Nat.le_trans hB ew133.size
              refine ⟨hS, ?_⟩
              refine a_bar 35 rfl (by kernel_rfl) (by kernel_rfl) (o_call fo22 rfl rfl rfl (alike_spec _ _ _ _ _ _ hm4 hb2_ hlow) ?_)
              rintro _ w134 ⟨rfl, ew134⟩
              replace hS := hS.then ew134
              replace h9 := h9.ext hlow hB ew134
              replace hE := hE.trans (Below.mono ew134 hB)
              replace h3 := h3.ext ew134
              replace h5 := h5.ext ew134
              replace ht := Rep.ext ht ew134
              replace hs := Rep.ext hs ew134
              replace h7 := h7.ext ew134
              replace hx := Rep.ext hx ew134
              replace hyy := Rep.ext hyy ew134
              replace htwo := htwo.ext ew134
              replace hb4_ := Rep.ext hb4_ ew134
              replace hm0 := Rep.ext hm0 ew134
              replace hsl0 := hsl0.ext ew134
              replace hb5_ := Rep.ext hb5_ ew134
              replace hm1 := Rep.ext hm1 ew134
              replace hm2 := Rep.ext hm2 ew134
              replace hsl1 := hsl1.ext ew134
              replace hb6_ := Rep.ext hb6_ ew134
              replace hb1_ := Rep.ext hb1_ ew134
              replace hm3 := Rep.ext hm3 ew134
              replace hb2_ := Rep.ext hb2_ ew134
              replace hm4 := Rep.ext hm4 ew134
              replace hlow := hlow.ext ew134
              replace hB := Nat.le_trans hB ew134.size
              refine a_p 36 tbOk rfl rfl rfl rfl (by kernel_rfl) (fun _ _ _ h => h) hS ?_
              refine a_p 37 tbOk rfl rfl rfl rfl (by kernel_rfl) (fun _ _ _ h => h) hS ?_
              refine a_split 88 _ rfl (fun c56 => ?_) (fun c56 => ?_)
              · refine a_build (cells := [.int .u8 3, .string ⟨#[]⟩, .int .i64 0, .slice none 0 0]) (css := [[.int .u8 3]]) 39 bd25 rfl rfl rfl rfl rfl rfl (by kernel_rfl) (fun _ _ _ h => h) hS ?_
                have hb3_ : Rep.R (Rw.Add M b9) w134 (.agg #[.int .u8 3, .string ⟨#[]⟩, .int .i64 0, .slice none 0 0]) (Ty.mk 3 ⟨#[]⟩ 0 []) := ty_mk (by decide) (by decide) ⟨by decide, by decide⟩ sl_nil
                refine a_one 38 rfl (by kernel_rfl) (o_call fo35 rfl rfl rfl (dyn_spec _ _ hlow) ?_)
                rintro vhm5 w135 ⟨hm5, ew135⟩
                replace hS := hS.then ew135
                replace h9 := h9.ext hlow hB ew135
                replace hE := hE.trans (Below.mono ew135 hB)
                replace h3 := h3.ext ew135
                replace h5 := h5.ext ew135
                replace ht := Rep.ext ht ew135
                replace hs := Rep.ext hs ew135
                replace h7 := h7.ext ew135
                replace hx := Rep.ext hx ew135
                replace hyy := Rep.ext hyy ew135
                replace htwo := htwo.ext ew135
                replace hb4_ := Rep.ext hb4_ ew135
                replace hm0 := Rep.ext hm0 ew135
                replace hsl0 := hsl0.ext ew135
                replace hb5_ := Rep.ext hb5_ ew135
                replace hm1 := Rep.ext hm1 ew135
                replace hm2 := Rep.ext hm2 ew135
                replace hsl1 := hsl1.ext ew135
                replace hb6_ := Rep.ext hb6_ ew135
                replace hb1_ := Rep.ext hb1_ ew135
                replace hm3 := Rep.ext hm3 ew135
                replace hb2_ := Rep.ext hb2_ ew135
                replace hm4 := Rep.ext hm4 ew135
                replace hb3_ := Rep.ext hb3_ ew135
                replace hlow := hlow.ext ew135
                replace hB := Nat.le_trans hB ew135.size
                refine ⟨hS, ?_⟩
                refine a_bar 40 rfl (by kernel_rfl) (by kernel_rfl) (o_call fo22 rfl rfl rfl (alike_spec _ _ _ _ _ _ hm5 hb3_ hlow) ?_)
                rintro _ w136 ⟨rfl, ew136⟩
                replace hS := hS.then ew136
                replace h9 := h9.ext hlow hB ew136
                replace hE := hE.trans (Below.mono ew136 hB)
                replace h3 := h3.ext ew136
                replace h5 := h5.ext ew136
                replace ht := Rep.ext ht ew136
                replace hs := Rep.ext hs ew136
                replace h7 := h7.ext ew136
                replace hx := Rep.ext hx ew136
                replace hyy := Rep.ext hyy ew136
                replace htwo := htwo.ext ew136
                replace hb4_ := Rep.ext hb4_ ew136
                replace hm0 := Rep.ext hm0 ew136
                replace hsl0 := hsl0.ext ew136
                replace hb5_ := Rep.ext hb5_ ew136
                replace hm1 := Rep.ext hm1 ew136
                replace hm2 := Rep.ext hm2 ew136
                replace hsl1 := hsl1.ext ew136
                replace hb6_ := Rep.ext hb6_ ew136
                replace hb1_ := Rep.ext hb1_ ew136
                replace hm3 := Rep.ext hm3 ew136
                replace hb2_ := Rep.ext hb2_ ew136
                replace hm4 := Rep.ext hm4 ew136
                replace hb3_ := Rep.ext hb3_ ew136
                replace hm5 := Rep.ext hm5 ew136
                replace hlow := hlow.ext ew136
                replace hB := Nat.le_trans hB ew136.size
                refine a_p 41 tbOk rfl rfl rfl rfl (by kernel_rfl) (fun _ _ _ h => h) hS ?_
                refine a_p 42 tbOk rfl rfl rfl rfl (by kernel_rfl) (fun _ _ _ h => h) hS ?_
                refine a_end (by kernel_rfl) ?_
                refine x_seq (c_ret (x_ret1 rfl rfl ?_))
                exact ⟨by first | rfl | rw [cl_true rfl] | simp_all, hE⟩
              exact absurd rfl (cl_not c56)
            exact absurd rfl (cl_not c55)
          exact absurd rfl (cl_not c54)
        refine o_slh tbOk htwo rfl rfl rfl (j := 1) (by simp) rfl rfl rfl rfl rfl ?_
        intro vs1 hsl1
        replace hsl1 : Sl _ w128 vs1 [t] := hsl1
        refine ⟨hS, ?_⟩
        refine a_build (cells := [.int .u8 6, .string ⟨#[]⟩, .int .i64 0, vs1]) (css := [[.int .u8 6], [vs1]]) 24 bd25 rfl rfl (by rw [List.map, List.map, List.map, hsl1.cells]; rfl) rfl rfl rfl (by kernel_rfl) (fun _ _ _ h => h) hS ?_
        have hb6_ : Rep.R (Rw.Add M b9) w128 (.agg #[.int .u8 6, .string ⟨#[]⟩, .int .i64 0, vs1]) (Ty.mk 6 ⟨#[]⟩ 0 [t]) := ty_mk (by decide) (by decide) ⟨by decide, by decide⟩ hsl1
        refine a_one 21 rfl (by kernel_rfl) (o_call fo32 rfl rfl rfl (vnt_own t _ _ _ ht hlow hz) ?_)
        rintro vhm2 w137 ⟨hm2, ew137⟩
        replace hm2 := hm2.repNew hlow
        replace hS := hS.then ew137
        replace h9 := h9.ext hlow hB ew137
        replace hE := hE.trans (Below.mono ew137 hB)
        replace h3 := h3.ext ew137
        replace h5 := h5.ext ew137
        replace ht := Rep.ext ht ew137
        replace hs := Rep.ext hs ew137
        replace h7 := h7.ext ew137
        replace hx := Rep.ext hx ew137
        replace hyy := Rep.ext hyy ew137
        replace htwo := htwo.ext ew137
        replace hb4_ := Rep.ext hb4_ ew137
        replace hm0 := Rep.ext hm0 ew137
        replace hsl0 := hsl0.ext ew137
        replace hb5_ := Rep.ext hb5_ ew137
        replace hm1 := Rep.ext hm1 ew137
        replace hsl1 := hsl1.ext ew137
        replace hb6_ := Rep.ext hb6_ ew137
        replace hlow := hlow.ext ew137
        replace hB := Nat.le_trans hB ew137.size
        refine ⟨hS, ?_⟩
        refine a_bar 25 rfl (by kernel_rfl) (by kernel_rfl) (o_call fo22 rfl rfl rfl (alike_spec _ _ _ _ _ _ hm2 hb6_ hlow) ?_)
        rintro _ w138 ⟨rfl, ew138⟩
        replace hS := hS.then ew138
        replace h9 := h9.ext hlow hB ew138
        replace hE := hE.trans (Below.mono ew138 hB)
        replace h3 := h3.ext ew138
        replace h5 := h5.ext ew138
        replace ht := Rep.ext ht ew138
        replace hs := Rep.ext hs ew138
        replace h7 := h7.ext ew138
        replace hx := Rep.ext hx ew138
        replace hyy := Rep.ext hyy ew138
        replace htwo := htwo.ext ew138
        replace hb4_ := Rep.ext hb4_ ew138
        replace hm0 := Rep.ext hm0 ew138
        replace hsl0 := hsl0.ext ew138
        replace hb5_ := Rep.ext hb5_ ew138
        replace hm1 := Rep.ext hm1 ew138
        replace hsl1 := hsl1.ext ew138
        replace hb6_ := Rep.ext hb6_ ew138
        replace hm2 := Rep.ext hm2 ew138
        replace hlow := hlow.ext ew138
        replace hB := Nat.le_trans hB ew138.size
        refine a_p 26 tbOk rfl rfl rfl rfl (by kernel_rfl) (fun _ _ _ h => h) hS ?_
        refine a_p 27 tbOk rfl rfl rfl rfl (by kernel_rfl) (fun _ _ _ h => h) hS ?_
        refine a_split 78 _ rfl (fun c57 => ?_) (fun c57 => ?_)
        · refine a_build (cells := [.int .u8 1, .string ⟨#[]⟩, .int .i64 0, .slice none 0 0]) (css := [[.int .u8 1]]) 29 bd25 rfl rfl rfl rfl rfl rfl (by kernel_rfl) (fun _ _ _ h => h) hS ?_
          have hb1_ : Rep.R (Rw.Add M b9) w138 (.agg #[.int .u8 1, .string ⟨#[]⟩, .int .i64 0, .slice none 0 0]) (Ty.mk 1 ⟨#[]⟩ 0 []) := ty_mk (by decide) (by decide) ⟨by decide, by decide⟩ sl_nil
          refine a_one 28 rfl (by kernel_rfl) (o_call fo33 rfl rfl rfl (int_spec _ _ hlow) ?_)
          rintro vhm3 w139 ⟨hm3, ew139⟩
          replace hS := hS.then ew139
          replace h9 := h9.ext hlow hB ew139
          replace hE := hE.trans (Below.mono ew139 hB)
          replace h3 := h3.ext ew139
          replace h5 := h5.ext ew139
          replace ht := Rep.ext ht ew139
          replace hs := Rep.ext hs ew139
          replace h7 := h7.ext ew139
          replace hx := Rep.ext hx ew139
          replace hyy := Rep.ext hyy ew139
          replace htwo := htwo.ext ew139
          replace hb4_ := Rep.ext hb4_ ew139
          replace hm0 := Rep.ext hm0 ew139
          replace hsl0 := hsl0.ext ew139
          replace hb5_ := Rep.ext hb5_ ew139
          replace hm1 := Rep.ext hm1 ew139
          replace hsl1 := hsl1.ext ew139
          replace hb6_ := Rep.ext hb6_ ew139
          replace hm2 := Rep.ext hm2 ew139
          replace hb1_ := Rep.ext hb1_ ew139
          replace hlow := hlow.ext ew139
          replace hB := Nat.le_trans hB ew139.size
          refine ⟨hS, ?_⟩
          refine a_bar 30 rfl (by kernel_rfl) (by kernel_rfl) (o_call fo22 rfl rfl rfl (alike_spec _ _ _ _ _ _ hm3 hb1_ hlow) ?_)
          rintro _ w140 ⟨rfl, ew140⟩
          replace hS := hS.then ew140
          replace h9 := h9.ext hlow hB ew140
          replace hE := hE.trans (Below.mono ew140 hB)
          replace h3 := h3.ext ew140
          replace h5 := h5.ext ew140
          replace ht := Rep.ext ht ew140
          replace hs := Rep.ext hs ew140
          replace h7 := h7.ext ew140
          replace hx := Rep.ext hx ew140
          replace hyy := Rep.ext hyy ew140
          replace htwo := htwo.ext ew140
          replace hb4_ := Rep.ext hb4_ ew140
          replace hm0 := Rep.ext hm0 ew140
          replace hsl0 := hsl0.ext ew140
          replace hb5_ := Rep.ext hb5_ ew140
          replace hm1 := Rep.ext hm1 ew140
          replace hsl1 := hsl1.ext ew140
          replace hb6_ := Rep.ext hb6_ ew140
          replace hm2 := Rep.ext hm2 ew140
          replace hb1_ := Rep.ext hb1_ ew140
          replace hm3 := Rep.ext hm3 ew140
          replace hlow := hlow.ext ew140
          replace hB := Nat.le_trans hB ew140.size
          refine a_p 31 tbOk rfl rfl rfl rfl (by kernel_rfl) (fun _ _ _ h => h) hS ?_
          refine a_p 32 tbOk rfl rfl rfl rfl (by kernel_rfl) (fun _ _ _ h => h) hS ?_
          refine a_split 83 _ rfl (fun c58 => ?_) (fun c58 => ?_)
          · refine a_build (cells := [.int .u8 2, .string ⟨#[]⟩, .int .i64 0, .slice none 0 0]) (css := [[.int .u8 2]]) 34 bd25 rfl rfl rfl rfl rfl rfl (by kernel_rfl) (fun _ _ _ h => h) hS ?_
            have hb2_ : Rep.R (Rw.Add M b9) w140 (.agg #[.int .u8 2, .string ⟨#[]⟩, .int .i64 0, .slice none 0 0]) (Ty.mk 2 ⟨#[]⟩ 0 []) := ty_mk (by decide) (by decide) ⟨by decide, by decide⟩ sl_nil
            refine a_one 33 rfl (by kernel_rfl) (o_call fo34 rfl rfl rfl (bool_spec _ _ hlow) ?_)
            rintro vhm4 w141 ⟨hm4, ew141⟩
            replace hS := hS.then ew141
            replace h9 := h9.ext hlow hB ew141
            replace hE := hE.trans (Below.mono ew141 hB)
            replace h3 := h3.ext ew141
            replace h5 := h5.ext ew141
            replace ht := Rep.ext ht ew141
            replace hs := Rep.ext hs ew141
            replace h7 := h7.ext ew141
            replace hx := Rep.ext hx ew141
            replace hyy := Rep.ext hyy ew141
            replace htwo := htwo.ext ew141
            replace hb4_ := Rep.ext hb4_ ew141
            replace hm0 := Rep.ext hm0 ew141
            replace hsl0 := hsl0.ext ew141
            replace hb5_ := Rep.ext hb5_ ew141
            replace hm1 := Rep.ext hm1 ew141
            replace hsl1 := hsl1.ext ew141
            replace hb6_ := Rep.ext hb6_ ew141
            replace hm2 := Rep.ext hm2 ew141
            replace hb1_ := Rep.ext hb1_ ew141
            replace hm3 := Rep.ext hm3 ew141
            replace hb2_ := Rep.ext hb2_ ew141
            replace hlow := hlow.ext ew141
            replace hB := Nat.le_trans hB ew141.size
            refine ⟨hS, ?_⟩
            refine a_bar 35 rfl (by kernel_rfl) (by kernel_rfl) (o_call fo22 rfl rfl rfl (alike_spec _ _ _ _ _ _ hm4 hb2_ hlow) ?_)
            rintro _ w142 ⟨rfl, ew142⟩
            replace hS := hS.then ew142
            replace h9 := h9.ext hlow hB ew142
            replace hE := hE.trans (Below.mono ew142 hB)
            replace h3 := h3.ext ew142
            replace h5 := h5.ext ew142
            replace ht := Rep.ext ht ew142
            replace hs := Rep.ext hs ew142
            replace h7 := h7.ext ew142
            replace hx := Rep.ext hx ew142
            replace hyy := Rep.ext hyy ew142
            replace htwo := htwo.ext ew142
            replace hb4_ := Rep.ext hb4_ ew142
            replace hm0 := Rep.ext hm0 ew142
            replace hsl0 := hsl0.ext ew142
            replace hb5_ := Rep.ext hb5_ ew142
            replace hm1 := Rep.ext hm1 ew142
            replace hsl1 := hsl1.ext ew142
            replace hb6_ := Rep.ext hb6_ ew142
            replace hm2 := Rep.ext hm2 ew142
            replace hb1_ := Rep.ext hb1_ ew142
            replace hm3 := Rep.ext hm3 ew142
            replace hb2_ := Rep.ext hb2_ ew142
            replace hm4 := Rep.ext hm4 ew142
            replace hlow := hlow.ext ew142
            replace hB := Nat.le_trans hB ew142.size
            refine a_p 36 tbOk rfl rfl rfl rfl (by kernel_rfl) (fun _ _ _ h => h) hS ?_
            refine a_p 37 tbOk rfl rfl rfl rfl (by kernel_rfl) (fun _ _ _ h => h) hS ?_
            refine a_split 88 _ rfl (fun c59 => ?_) (fun c59 => ?_)
            · refine a_build (cells := [.int .u8 3, .string ⟨#[]⟩, .int .i64 0, .slice none 0 0]) (css := [[.int .u8 3]]) 39 bd25 rfl rfl rfl rfl rfl rfl (by kernel_rfl) (fun _ _ _ h => h) hS ?_
              have hb3_ : Rep.R (Rw.Add M b9) w142 (.agg #[.int .u8 3, .string ⟨#[]⟩, .int .i64 0, .slice none 0 0]) (Ty.mk 3 ⟨#[]⟩ 0 []) := ty_mk (by decide) (by decide) ⟨by decide, by decide⟩ sl_nil
              refine a_one 38 rfl (by kernel_rfl) (o_call fo35 rfl rfl rfl (dyn_spec _ _ hlow) ?_)
              rintro vhm5 w143 ⟨hm5, ew143⟩
              replace hS := hS.then ew143
              replace h9 := h9.ext hlow hB ew143
              replace hE := hE.trans (Below.mono ew143 hB)
              replace h3 := h3.ext ew143
              replace h5 := h5.ext ew143
              replace ht := Rep.ext ht ew143
              replace hs := Rep.ext hs ew143
              replace h7 := h7.ext ew143
              replace hx := Rep.ext hx ew143
              replace hyy := Rep.ext hyy ew143
              replace htwo := htwo.ext ew143
              replace hb4_ := Rep.ext hb4_ ew143
              replace hm0 := Rep.ext hm0 ew143
              replace hsl0 := hsl0.ext ew143
              replace hb5_ := Rep.ext hb5_ ew143
              replace hm1 := Rep.ext hm1 ew143
              replace hsl1 := hsl1.ext ew143
              replace hb6_ := Rep.ext hb6_ ew143
              replace hm2 := Rep.ext hm2 ew143
              replace hb1_ := Rep.ext hb1_ ew143
              replace hm3 := Rep.ext hm3 ew143
              replace hb2_ := Rep.ext hb2_ ew143
              replace hm4 := Rep.ext hm4 ew143
              replace hb3_ := Rep.ext hb3_ ew143
              replace hlow := hlow.ext ew143
              replace hB := Nat.le_trans hB ew143.size
              refine ⟨hS, ?_⟩
              refine a_bar 40 rfl (by kernel_rfl) (by kernel_rfl) (o_call fo22 rfl rfl rfl (alike_spec _ _ _ _ _ _ hm5 hb3_ hlow) ?_)
              rintro _ w144 ⟨rfl, ew144⟩
              replace hS := hS.then ew144
              replace h9 := h9.ext hlow hB ew144
              replace hE := hE.trans (Below.mono ew144 hB)
              replace h3 := h3.ext ew144
              replace h5 := h5.ext ew144
              replace ht := Rep.ext ht ew144
              replace hs := Rep.ext hs ew144
              replace h7 := h7.ext ew144
              replace hx := Rep.ext hx ew144
              replace hyy := Rep.ext hyy ew144
              replace htwo := htwo.ext ew144
              replace hb4_ := Rep.ext hb4_ ew144
              replace hm0 := Rep.ext hm0 ew144
              replace hsl0 := hsl0.ext ew144
              replace hb5_ := Rep.ext hb5_ ew144
              replace hm1 := Rep.ext hm1 ew144
              replace hsl1 := hsl1.ext ew144
              replace hb6_ := Rep.ext hb6_ ew144
              replace hm2 := Rep.ext hm2 ew144
              replace hb1_ := Rep.ext hb1_ ew144
              replace hm3 := Rep.ext hm3 ew144
              replace hb2_ := Rep.ext hb2_ ew144
              replace hm4 := Rep.ext hm4 ew144
              replace hb3_ := Rep.ext hb3_ ew144
              replace hm5 := Rep.ext hm5 ew144
              replace hlow := hlow.ext ew144
              replace hB := Nat.le_trans hB ew144.size
              refine a_p 41 tbOk rfl rfl rfl rfl (by kernel_rfl) (fun _ _ _ h => h) hS ?_
              refine a_p 42 tbOk rfl rfl rfl rfl (by kernel_rfl) (fun _ _ _ h => h) hS ?_
              refine a_end (by kernel_rfl) ?_
              refine x_seq (c_ret (x_ret1 rfl rfl ?_))
              exact ⟨by first | rfl | rw [cl_true rfl] | simp_all, hE⟩
            exact absurd rfl (cl_not c59)
          exact absurd rfl (cl_not c58)
        exact absurd rfl (cl_not c57)
      exact absurd rfl (cl_not c53)
    exact absurd rfl (cl_not c45)
  exact absurd rfl (cl_not c44)

end Go.Proofs.Ytpoahmeacjggfaa
