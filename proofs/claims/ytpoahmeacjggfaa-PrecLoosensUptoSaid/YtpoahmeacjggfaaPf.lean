/- Walks: the law PrecLoosens. Printed by wip/walks/prec5.py. -/
import Derived.Test.YtpoahmeacjggfaaPc
import Derived.Test.YtpoahmeacjggfaaPe
namespace Go.Proofs.Ytpoahmeacjggfaa
open Go Rw Go.RowKit
set_option maxRecDepth 100000

/-- PrecLoosens: true. -/
theorem precLoosens_spec (t : Ty) (b : List UInt8) (M : Nat → Prop) (w : World) (v u : Value) (ht : Rep.R M w v t) (hb : Sl M w u b) (hz : psz t ≤ 2000000) (hlow : Low M w) :
    Calls Try.prog 10 #[v, u] w (Ret fun r w' => r = .bool true ∧ Ext w w') := by
  have hE : Below w.heap.size w w := Below.refl _ _
  have hB : w.heap.size ≤ w.heap.size := Nat.le_refl _
  obtain ⟨kv, rfl, op, nm, n64, hk⟩ := ty_open ht
  refine c_enter (n := 41) Try.func10 rfl rfl rfl ?_
  refine q0 ?_
  refine l_cons (o_box rfl rfl rfl ?_)
  intro b2 w1 hb_b2 ew1 h2
  replace h2 : Box _ b2 25 [.int .u8 t.op, .string t.name, .int .i64 t.n, kv] := h2
  replace h2 := h2.at (nM_of hlow hb_b2)
  replace hE := hE.trans (Below.mono ew1 hB)
  replace ht := Rep.ext ht ew1
  replace hk := hk.ext ew1
  replace hb := hb.ext ew1
  replace hlow := hlow.ext ew1
  replace hB := Nat.le_trans hB ew1.size
  have hpc := psz_canon _ t (Nat.le_refl _)
  generalize hLT : LoosF t b = lt0
  refine l_p 1 tbOk rfl (q1 (c_seq (q0 ?_)))
  refine l_cons (o_call fo38 rfl rfl rfl (alive08_spec M _ hlow) ?_)
  rintro _ w2 ⟨rfl, ew2⟩
  replace hE := hE.trans (Below.mono ew2 hB)
  replace ht := Rep.ext ht ew2
  replace hk := hk.ext ew2
  replace hb := hb.ext ew2
  replace h2 := h2.ext ew2
  replace hlow := hlow.ext ew2
  replace hB := Nat.le_trans hB ew2.size
  refine l_p 1 tbOk rfl (q1 ?_)
  refine c_ifB _ rfl (fun c1 => ?_) (fun c1 => ?_)
  · exact absurd c1 (by simp)
  refine c_skip (x_seq (c_seq (q0 ?_)))
  refine l_cons (o_lds tbOk (fun j v hv => h2.cell j v hv) rfl rfl rfl rfl rfl rfl ?_)
  refine l_cons (o_call fo39 rfl rfl rfl (many08_spec t _ _ _ ht hlow hz) ?_)
  rintro _ w3 ⟨rfl, ew3⟩
  replace hE := hE.trans (Below.mono ew3 hB)
  replace ht := Rep.ext ht ew3
  replace hk := hk.ext ew3
  replace hb := hb.ext ew3
  replace h2 := h2.ext ew3
  replace hlow := hlow.ext ew3
  replace hB := Nat.le_trans hB ew3.size
  refine l_p 1 tbOk rfl ?_
  refine l_split 12 _ rfl (fun c2 => ?_) (fun c2 => ?_)
  · refine l_p 4 tbOk rfl (q1 (c_ifT rfl (q0 (l_p 1 tbOk rfl (q1 (c_ret (x_seqR (x_ret1 rfl rfl ?_))))))))
    exact ⟨rfl, hE⟩
  refine l_p 1 tbOk rfl ?_
  refine l_cons (o_len tbOk hb rfl rfl rfl rfl rfl ?_)
  refine l_p 2 tbOk rfl (q1 ?_)
  refine c_ifP _ rfl (fun c3 => ?_) (fun c3 => ?_)
  · refine q0 (l_p 1 tbOk rfl (q1 (c_ret (x_seqR (x_ret1 rfl rfl ?_)))))
    exact ⟨rfl, hE⟩
  refine c_skip (x_seq (q0 ?_))
  refine l_cons (o_lds tbOk (fun j v hv => h2.cell j v hv) rfl rfl rfl rfl rfl rfl ?_)
  refine l_p 1 tbOk rfl ?_
  refine l_cons (o_call fo54 rfl rfl rfl (Loosen_own t b _ _ _ _ ht hb hlow hz) ?_)
  rintro vx w4 ⟨hx, ew4⟩
  replace hx := hx.repNew hlow
  rw [hLT] at hx
  replace hE := hE.trans (Below.mono ew4 hB)
  replace ht := Rep.ext ht ew4
  replace hk := hk.ext ew4
  replace hb := hb.ext ew4
  replace h2 := h2.ext ew4
  replace hlow := hlow.ext ew4
  replace hB := Nat.le_trans hB ew4.size
  obtain ⟨kvx, rfl, opx, nmx, n64x, hkx⟩ := ty_open hx
  refine l_cons (o_new tbOk rfl rfl rfl ?_)
  intro b5 w5 qb5 ew5 hb5
  have nb5 := nM_of hlow qb5
  refine l_cons (o_st tbOk hb5 rfl rfl rfl rfl (Rep.one hx) rfl rfl ?_)
  intro w6 h5 uw6 bew6
  have ew6 : Ext w4 w6 := ew5.trans (bew6 _ (Nat.le_of_eq qb5.symm))
  replace hE := hE.trans (Below.mono ew6 hB)
  replace ht := Rep.ext ht ew6
  replace hk := hk.ext ew6
  replace hb := hb.ext ew6
  replace h2 := h2.ext ew6
  replace hx := Rep.ext hx ew6
  replace hlow := hlow.ext ew6
  replace hB := Nat.le_trans hB ew6.size
  replace h5 : Box w6 b5 25 [.int .u8 lt0.op, .string lt0.name, .int .i64 lt0.n, kvx] := h5
  replace h5 := h5.at nb5
  refine q1 (c_seq (q0 ?_))
  refine l_cons (o_lds tbOk (fun j v hv => h2.cell j v hv) rfl rfl rfl rfl rfl rfl ?_)
  refine l_cons (o_call fo17 rfl rfl rfl (refRight_spec t _ _ _ ht hlow hz) ?_)
  rintro _ w7 ⟨rfl, ew7⟩
  replace hE := hE.trans (Below.mono ew7 hB)
  replace ht := Rep.ext ht ew7
  replace hk := hk.ext ew7
  replace hb := hb.ext ew7
  replace h2 := h2.ext ew7
  replace hx := Rep.ext hx ew7
  replace h5 := h5.ext ew7
  replace hlow := hlow.ext ew7
  replace hB := Nat.le_trans hB ew7.size
  refine l_p 2 tbOk rfl ?_
  refine l_splitB 23 _ rfl (fun c4 => ?_) (fun c4 => ?_)
  · refine l_cons (o_lds tbOk (fun j v hv => h2.cell j v hv) rfl rfl rfl rfl rfl rfl ?_)
    refine l_cons (o_call fo19 rfl rfl rfl (refRow_spec t _ _ _ ht hlow hz) ?_)
    rintro _ w8 ⟨rfl, ew8⟩
    replace hE := hE.trans (Below.mono ew8 hB)
    replace ht := Rep.ext ht ew8
    replace hk := hk.ext ew8
    replace hb := hb.ext ew8
    replace h2 := h2.ext ew8
    replace hx := Rep.ext hx ew8
    replace h5 := h5.ext ew8
    replace hlow := hlow.ext ew8
    replace hB := Nat.le_trans hB ew8.size
    refine l_p 2 tbOk rfl (q1 ?_)
    refine c_ifB _ rfl (fun c5 => ?_) (fun c5 => ?_)
    · refine q0 ?_
      refine l_cons (o_lds tbOk (fun j v hv => h5.cell j v hv) rfl rfl rfl rfl rfl rfl ?_)
      have hro : (rightB t || rowB t) = false := by simp [c4, c5]
      unfold LoosF at hLT
      rw [hro] at hLT
      simp only [cond_false] at hLT
      subst hLT
      refine l_cons (o_build (cells := [.int .u8 0, .string ⟨#[]⟩, .int .i64 0, .slice none 0 0]) (css := []) bd25 rfl rfl rfl rfl rfl ?_)
      have hzz : Rep.R M w8 (.agg #[.int .u8 0, .string ⟨#[]⟩, .int .i64 0, .slice none 0 0]) (Ty.mk 0 ⟨#[]⟩ 0 []) := ty_mk (by decide) (by decide) ⟨by decide, by decide⟩ sl_nil
      refine l_cons (o_call fo22 rfl rfl rfl (alike_spec _ _ _ _ _ _ hx hzz hlow) ?_)
      rintro _ w9 ⟨rfl, ew9⟩
      replace hE := hE.trans (Below.mono ew9 hB)
      replace ht := Rep.ext ht ew9
      replace hk := hk.ext ew9
      replace hb := hb.ext ew9
      replace h2 := h2.ext ew9
      replace hx := Rep.ext hx ew9
      replace h5 := h5.ext ew9
      replace hzz := Rep.ext hzz ew9
      replace hlow := hlow.ext ew9
      replace hB := Nat.le_trans hB ew9.size
      refine l_p 1 tbOk rfl (q1 (c_ret (x_seqR (x_ret1 rfl rfl ?_))))
      exact ⟨by rw [cl_true rfl], hE⟩
    refine c_skip (x_seq (q0 ?_))
    refine l_cons (o_lds tbOk (fun j v hv => h2.cell j v hv) rfl rfl rfl rfl rfl rfl ?_)
    have hro : (rightB t || rowB t) = true := by simp [c4, c5]
    unfold LoosF at hLT
    rw [hro] at hLT
    simp only [cond_true] at hLT
    subst hLT
    refine l_cons (o_call fo49 rfl rfl rfl (refCanon_all _ t _ _ _ _ (Nat.le_refl _) (Classical.choose_spec (shape_either hro)) ht hlow hz) ?_)
    rintro vrc w10 ⟨hrc, ew10⟩
    replace hE := hE.trans (Below.mono ew10 hB)
    replace ht := Rep.ext ht ew10
    replace hk := hk.ext ew10
    replace hb := hb.ext ew10
    replace h2 := h2.ext ew10
    replace hx := Rep.ext hx ew10
    replace h5 := h5.ext ew10
    replace hlow := hlow.ext ew10
    replace hB := Nat.le_trans hB ew10.size
    refine l_p 1 tbOk rfl ?_
    refine l_cons (o_call fo55 rfl rfl rfl (refLoos_spec (canonF t) b _ _ _ _ hrc hb hlow (by omega)) ?_)
    rintro _ w11 ⟨⟨vy, rfl, hy⟩, ew11⟩
    replace hE := hE.trans (Below.mono ew11 hB)
    replace ht := Rep.ext ht ew11
    replace hk := hk.ext ew11
    replace hb := hb.ext ew11
    replace h2 := h2.ext ew11
    replace hx := Rep.ext hx ew11
    replace h5 := h5.ext ew11
    replace hrc := Rep.ext hrc ew11
    replace hlow := hlow.ext ew11
    replace hB := Nat.le_trans hB ew11.size
    obtain ⟨kvy, rfl, opy, nmy, n64y, hky⟩ := ty_open hy
    refine l_p 3 tbOk rfl ?_
    refine l_cons (o_new tbOk rfl rfl rfl ?_)
    intro b6 w12 qb6 ew12 hb6
    have nb6 := nM_of hlow qb6
    refine l_cons (o_st tbOk hb6 rfl rfl rfl rfl (Rep.one hy) rfl rfl ?_)
    intro w13 h6 uw13 bew13
    have ew13 : Ext w11 w13 := ew12.trans (bew13 _ (Nat.le_of_eq qb6.symm))
    replace hE := hE.trans (Below.mono ew13 hB)
    replace ht := Rep.ext ht ew13
    replace hk := hk.ext ew13
    replace hb := hb.ext ew13
    replace h2 := h2.ext ew13
    replace hx := Rep.ext hx ew13
    replace h5 := h5.ext ew13
    replace hrc := Rep.ext hrc ew13
    replace hy := Rep.ext hy ew13
    replace hlow := hlow.ext ew13
    replace hB := Nat.le_trans hB ew13.size
    replace h6 : Box w13 b6 25 [.int .u8 (loosF (canonF t) b).op, .string (loosF (canonF t) b).name, .int .i64 (loosF (canonF t) b).n, kvy] := h6
    replace h6 := h6.at nb6
    refine l_p 1 tbOk rfl (q1 (q0 ?_))
    refine l_cons (o_lds tbOk (fun j v hv => h5.cell j v hv) rfl rfl rfl rfl rfl rfl ?_)
    refine l_cons (o_lds tbOk (fun j v hv => h6.cell j v hv) rfl rfl rfl rfl rfl rfl ?_)
    refine l_cons (o_call fo22 rfl rfl rfl (alike_spec _ _ _ _ _ _ hx hy hlow) ?_)
    rintro _ w14 ⟨rfl, ew14⟩
    replace hE := hE.trans (Below.mono ew14 hB)
    replace ht := Rep.ext ht ew14
    replace hk := hk.ext ew14
    replace hb := hb.ext ew14
    replace h2 := h2.ext ew14
    replace hx := Rep.ext hx ew14
    replace h5 := h5.ext ew14
    replace hrc := Rep.ext hrc ew14
    replace hy := Rep.ext hy ew14
    replace h6 := h6.ext ew14
    replace hlow := hlow.ext ew14
    replace hB := Nat.le_trans hB ew14.size
    refine l_p 1 tbOk rfl (q1 (c_ret (x_ret1 rfl rfl ?_)))
    exact ⟨by rw [cl_true rfl], hE⟩
  refine l_p 4 tbOk rfl (q1 (c_ifF rfl (c_skip (x_seq (q0 ?_)))))
  refine l_cons (o_lds tbOk (fun j v hv => h2.cell j v hv) rfl rfl rfl rfl rfl rfl ?_)
  have hro : (rightB t || rowB t) = true := by simp [c3, c4]
  unfold LoosF at hLT
  rw [hro] at hLT
  simp only [cond_true] at hLT
  subst hLT
  refine l_cons (o_call fo49 rfl rfl rfl (refCanon_all _ t _ _ _ _ (Nat.le_refl _) (Classical.choose_spec (shape_either hro)) ht hlow hz) ?_)
  rintro vrc w15 ⟨hrc, ew15⟩
  replace hE := hE.trans (Below.mono ew15 hB)
  replace ht := Rep.ext ht ew15
  replace hk := hk.ext ew15
  replace hb := hb.ext ew15
  replace h2 := h2.ext ew15
  replace hx := Rep.ext hx ew15
  replace h5 := h5.ext ew15
  replace hlow := hlow.ext ew15
  replace hB := Nat.le_trans hB ew15.size
  refine l_p 1 tbOk rfl ?_
  refine l_cons (o_call fo55 rfl rfl rfl (refLoos_spec (canonF t) b _ _ _ _ hrc hb hlow (by omega)) ?_)
  rintro _ w16 ⟨⟨vy, rfl, hy⟩, ew16⟩
  replace hE := hE.trans (Below.mono ew16 hB)
  replace ht := Rep.ext ht ew16
  replace hk := hk.ext ew16
  replace hb := hb.ext ew16
  replace h2 := h2.ext ew16
  replace hx := Rep.ext hx ew16
  replace h5 := h5.ext ew16
  replace hrc := Rep.ext hrc ew16
  replace hlow := hlow.ext ew16
  replace hB := Nat.le_trans hB ew16.size
  obtain ⟨kvy, rfl, opy, nmy, n64y, hky⟩ := ty_open hy
  refine l_p 3 tbOk rfl ?_
  refine l_cons (o_new tbOk rfl rfl rfl ?_)
  intro b6 w17 qb6 ew17 hb6
  have nb6 := nM_of hlow qb6
  refine l_cons (o_st tbOk hb6 rfl rfl rfl rfl (Rep.one hy) rfl rfl ?_)
  intro w18 h6 uw18 bew18
  have ew18 : Ext w16 w18 := ew17.trans (bew18 _ (Nat.le_of_eq qb6.symm))
  replace hE := hE.trans (Below.mono ew18 hB)
  replace ht := Rep.ext ht ew18
  replace hk := hk.ext ew18
  replace hb := hb.ext ew18
  replace h2 := h2.ext ew18
  replace hx := Rep.ext hx ew18
  replace h5 := h5.ext ew18
  replace hrc := Rep.ext hrc ew18
  replace hy := Rep.ext hy ew18
  replace hlow := hlow.ext ew18
  replace hB := Nat.le_trans hB ew18.size
  replace h6 : Box w18 b6 25 [.int .u8 (loosF (canonF t) b).op, .string (loosF (canonF t) b).name, .int .i64 (loosF (canonF t) b).n, kvy] := h6
  replace h6 := h6.at nb6
  refine l_p 1 tbOk rfl (q1 (q0 ?_))
  refine l_cons (o_lds tbOk (fun j v hv => h5.cell j v hv) rfl rfl rfl rfl rfl rfl ?_)
  refine l_cons (o_lds tbOk (fun j v hv => h6.cell j v hv) rfl rfl rfl rfl rfl rfl ?_)
  refine l_cons (o_call fo22 rfl rfl rfl (alike_spec _ _ _ _ _ _ hx hy hlow) ?_)
  rintro _ w19 ⟨rfl, ew19⟩
  replace hE := hE.trans (Below.mono ew19 hB)
  replace ht := Rep.ext ht ew19
  replace hk := hk.ext ew19
  replace hb := hb.ext ew19
  replace h2 := h2.ext ew19
  replace hx := Rep.ext hx ew19
  replace h5 := h5.ext ew19
  replace hrc := Rep.ext hrc ew19
  replace hy := Rep.ext hy ew19
  replace h6 := h6.ext ew19
  replace hlow := hlow.ext ew19
  replace hB := Nat.le_trans hB ew19.size
  refine l_p 1 tbOk rfl (q1 (c_ret (x_ret1 rfl rfl ?_)))
  exact ⟨by rw [cl_true rfl], hE⟩

end Go.Proofs.Ytpoahmeacjggfaa
