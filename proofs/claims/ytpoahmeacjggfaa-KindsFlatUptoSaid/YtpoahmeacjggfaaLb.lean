/- Walks: the law KindsFlat. Printed by wip/walks/kinds12.py. -/
import Derived.Test.YtpoahmeacjggfaaWj
import Derived.Test.YtpoahmeacjggfaaMore
namespace Go.Proofs.Ytpoahmeacjggfaa
open Go Rw Go.RowKit
set_option maxRecDepth 100000

/-- KindsFlat: true. -/
theorem kindsFlat_spec (t : Ty) (l : List Fld) (M : Nat → Prop) (w : World) (v u : Value) (ht : Rep.R M w v t) (hl : Sl M w u l) (hsz : psz t ≤ 2000000) (hz : ∀ x ∈ l, psz x.ty ≤ 2000000) (hlow : Low M w) :
    Calls Try.prog 4 #[v, u] w (Ret fun r w' => r = .bool true ∧ Ext w w') := by
  have hE : Below w.heap.size w w := Below.refl _ _
  have hB : w.heap.size ≤ w.heap.size := Nat.le_refl _
  obtain ⟨kv, rfl, op, nm, n64, hk⟩ := ty_open ht
  refine c_enter (n := 68) Try.func4 rfl rfl rfl ?_
  refine c_seq ?_
  refine c_reg ?_
  refine l_cons (o_box rfl rfl rfl ?_)
  intro b2 w1 hb_b2 ew1 h2
  replace h2 : Box _ b2 25 [.int .u8 t.op, .string t.name, .int .i64 t.n, kv] := h2
  replace h2 := h2.at (nM_of hlow hb_b2)
  replace hE := hE.trans (Below.mono ew1 hB)
  replace ht := Rep.ext ht ew1
  replace hk := hk.ext ew1
  replace hl := hl.ext ew1
  replace hlow := hlow.ext ew1
  replace hB := Nat.le_trans hB ew1.size
  refine l_cons (o_p tbOk rfl rfl rfl ?_)
  refine l_nil ?_
  refine x_seq ?_
  refine c_seq ?_
  refine c_seq ?_
  refine c_reg ?_
  refine l_cons (o_call fo14 rfl rfl rfl (alive_spec M _ hlow) ?_)
  rintro _ w2 ⟨rfl, ew2⟩
  replace hE := hE.trans (Below.mono ew2 hB)
  replace ht := Rep.ext ht ew2
  replace hk := hk.ext ew2
  replace hl := hl.ext ew2
  replace h2 := h2.ext ew2
  replace hlow := hlow.ext ew2
  replace hB := Nat.le_trans hB ew2.size
  refine l_cons (o_p tbOk rfl rfl rfl ?_)
  refine l_nil ?_
  refine x_seq ?_
  refine c_ifB _ rfl (fun c1 => ?_) (fun c1 => ?_)
  · exact absurd c1 (by simp)
  · refine c_skip ?_
    refine x_seq ?_
    refine c_seq ?_
    refine c_seq ?_
    refine c_reg ?_
    refine l_cons (o_lds tbOk (fun j v hv => h2.cell j v hv) rfl rfl rfl rfl rfl rfl ?_)
    refine l_cons (o_call fo15 rfl rfl rfl (many_spec t M _ _ ht hlow hsz) ?_)
    rintro _ w3 ⟨rfl, ew3⟩
    replace hE := hE.trans (Below.mono ew3 hB)
    replace ht := Rep.ext ht ew3
    replace hk := hk.ext ew3
    replace hl := hl.ext ew3
    replace h2 := h2.ext ew3
    replace hlow := hlow.ext ew3
    replace hB := Nat.le_trans hB ew3.size
    refine l_cons (o_p tbOk rfl rfl rfl ?_)
    refine l_split 14 _ rfl (fun c2 => ?_) (fun c2 => ?_)
    · refine l_cons (o_skip rfl rfl ?_)
      refine l_cons (o_skip rfl rfl ?_)
      refine l_cons (o_skip rfl rfl ?_)
      refine l_cons (o_p tbOk rfl rfl rfl ?_)
      refine l_nil ?_
      refine x_seq ?_
      refine c_ifT rfl ?_
      refine c_seq ?_
      refine c_reg ?_
      refine l_cons (o_p tbOk rfl rfl rfl ?_)
      refine l_nil ?_
      refine x_seq ?_
      refine c_ret ?_
      refine x_seqR ?_
      refine x_ret1 rfl rfl ?_
      exact ⟨by simp_all, hE⟩
    · refine l_cons (o_p tbOk rfl rfl rfl ?_)
      refine l_cons (o_len tbOk hl rfl rfl rfl rfl rfl ?_)
      refine l_cons (o_p tbOk rfl rfl rfl ?_)
      refine l_cons (o_p tbOk rfl rfl rfl ?_)
      refine l_nil ?_
      refine x_seq ?_
      refine c_ifP _ rfl (fun c3 => ?_) (fun c3 => ?_)
      · refine c_seq ?_
        refine c_reg ?_
        refine l_cons (o_p tbOk rfl rfl rfl ?_)
        refine l_nil ?_
        refine x_seq ?_
        refine c_ret ?_
        refine x_seqR ?_
        refine x_ret1 rfl rfl ?_
        exact ⟨by simp_all, hE⟩
      · refine c_skip ?_
        refine x_seq ?_
        refine c_seq ?_
        refine c_seq ?_
        refine c_reg ?_
        refine l_cons (o_p tbOk rfl rfl rfl ?_)
        refine l_nil ?_
        refine x_seq ?_
        refine c_blk ?_
        refine c_loop (X := Nat) (fun i => [(1, u), (2, .pointer (some ⟨b2, 0, none⟩)), (5, .int .i64 (i : Nat))]) (fun i w' => i ≤ l.length ∧ Sl M w' u l ∧ At M w' b2 0 [.int .u8 t.op, .string t.name, .int .i64 t.n, kv] ∧ Sl M w' kv t.kids ∧ Rep.R M w' (.agg #[.int .u8 t.op, .string t.name, .int .i64 t.n, kv]) t ∧ Low M w' ∧ Below w.heap.size w w' ∧ w.heap.size ≤ w'.heap.size) (fun i => l.length - i) (0) (subL_cons rfl (subL_cons rfl (subL_cons rfl (subL_nil)))) ?_ ?_
        · exact ⟨Nat.zero_le _, hl, h2, hk, ht, hlow, hE, hB⟩
        rintro i w4 ⟨hi, hl, h2, hk, ht, hlow, hE, hB⟩
        refine c_seq ?_
        refine c_seq ?_
        refine c_reg ?_
        refine l_cons (o_p tbOk rfl rfl rfl ?_)
        refine l_cons (o_p tbOk rfl rfl rfl ?_)
        refine l_cons (o_len tbOk hl rfl rfl rfl rfl rfl ?_)
        refine l_cons (o_p tbOk rfl rfl rfl ?_)
        refine l_nil ?_
        refine x_seq ?_
        refine c_ifP _ rfl (fun c4 => ?_) (fun c4 => ?_)
        · refine c_skip ?_
          refine x_seq ?_
          refine c_seq ?_
          refine c_blk ?_
          refine c_seq ?_
          refine c_reg ?_
          refine l_cons (o_p tbOk rfl rfl rfl ?_)
          refine l_cons (o_p tbOk rfl rfl rfl ?_)
          have hil : i < l.length := by omega
          refine l_cons (o_ixS tbOk hl (List.getElem?_eq_getElem hil) rfl rfl rfl rfl rfl rfl rfl rfl rfl ?_)
          intro ebq eoq euq hrq hatq
          obtain ⟨szq, kvq, rfl, hyq⟩ := fld_open hrq
          replace hatq : At _ w4 ebq eoq [.string l[i].name, .int .u8 l[i].ty.op, .string l[i].ty.name, .int .i64 l[i].ty.n, kvq] := hatq
          refine l_cons (o_p tbOk rfl rfl rfl ?_)
          refine l_cons (o_lds tbOk (fun j v hv => (hatq).drop 1 (sub := [.int .u8 l[i].ty.op, .string l[i].ty.name, .int .i64 l[i].ty.n, kvq]) rfl j v hv) rfl rfl rfl rfl rfl rfl ?_)
          refine l_cons (o_call fo15 rfl rfl rfl (many_spec _ M _ _ hyq hlow (hz _ (List.getElem_mem hil))) ?_)
          rintro _ w5 ⟨rfl, ew5⟩
          replace hE := hE.trans (Below.mono ew5 hB)
          replace hl := hl.ext ew5
          replace h2 := h2.ext ew5
          replace hk := hk.ext ew5
          replace ht := Rep.ext ht ew5
          replace hrq := Rep.ext hrq ew5
          replace hyq := Rep.ext hyq ew5
          replace hatq := hatq.ext ew5
          replace hlow := hlow.ext ew5
          replace hB := Nat.le_trans hB ew5.size
          refine l_nil ?_
          refine x_seq ?_
          refine c_if _ rfl (fun c5 => ?_) (fun c5 => ?_)
          · refine c_seq ?_
            refine c_reg ?_
            refine l_cons (o_p tbOk rfl rfl rfl ?_)
            refine l_nil ?_
            refine x_seq ?_
            refine c_ret ?_
            refine x_blkR ?_
            refine x_seqR ?_
            refine x_seqR ?_
            refine x_blkR ?_
            refine x_seqR ?_
            refine x_ret1 rfl rfl ?_
            exact ⟨by simp_all, hE⟩
          · refine c_skip ?_
            refine x_blk ?_
            refine x_seq ?_
            refine c_reg ?_
            refine l_cons (o_p tbOk rfl rfl rfl ?_)
            refine l_cons (o_ar rfl rfl rfl (IntWalk.i64_in _ (by omega)) rfl rfl ?_)
            refine l_cons (o_p tbOk rfl rfl rfl ?_)
            refine l_nil ?_
            exact x_round (i + 1) (subL_cons rfl (subL_cons rfl (subL_cons (get_num rfl (by omega)) (subL_nil)))) ⟨by omega, hl, h2, hk, ht, hlow, hE, hB⟩ (by omega)
        · refine c_exit ?_
          refine x_seqE ?_
          refine x_seqE ?_
          refine x_blkE ?_
          refine x_seq ?_
          refine c_seq ?_
          refine c_seq ?_
          refine a_beg Ext rfl ?_
          intro w6 ew6
          replace hE := hE.trans (Below.mono ew6 hB)
          replace hl := hl.ext ew6
          replace h2 := h2.ext ew6
          replace hk := hk.ext ew6
          replace ht := Rep.ext ht ew6
          replace hlow := hlow.ext ew6
          replace hB := Nat.le_trans hB ew6.size
          have hS : Ext w6 w6 := ext_refl _
          have D_hl := hl
          have D_h2 := h2
          have D_hk := hk
          refine a_p 0 tbOk rfl rfl rfl rfl (by kernel_rfl) (fun _ _ _ h => h) hS ?_
          refine a_lds 1 tbOk (fun _ hs j v hv => (D_h2.ext hs).cell j v hv) rfl rfl rfl rfl rfl rfl rfl (by kernel_rfl) (fun _ _ _ h => h) hS ?_
          refine a_p 3 tbOk rfl rfl rfl rfl (by kernel_rfl) (fun _ _ _ h => h) hS ?_
          refine a_lds 4 tbOk (fun _ hs j v hv => (D_h2.ext hs).cell j v hv) rfl rfl rfl rfl rfl rfl rfl (by kernel_rfl) (fun _ _ _ h => h) hS ?_
          refine a_one 2 rfl (by kernel_rfl) (o_call fo23 rfl rfl rfl (join_spec l t M _ _ _ 0 hl ht hlow hz hsz) ?_)
          rintro vhj w7 ⟨hj, ew7⟩
          replace hS := hS.then ew7
          replace hE := hE.trans (Below.mono ew7 hB)
          replace hl := hl.ext ew7
          replace h2 := h2.ext ew7
          replace hk := hk.ext ew7
          replace ht := Rep.ext ht ew7
          replace hlow := hlow.ext ew7
          replace hB := Nat.le_trans hB ew7.size
          refine ⟨hS, ?_⟩
          refine a_bar 5 rfl (by kernel_rfl) (by kernel_rfl) (o_call fo24 rfl rfl rfl (of_spec l t M _ _ _ hl ht hlow) ?_)
          rintro vho w8 ⟨ho, ew8⟩
          replace hS := hS.then ew8
          replace hE := hE.trans (Below.mono ew8 hB)
          replace hl := hl.ext ew8
          replace h2 := h2.ext ew8
          replace hk := hk.ext ew8
          replace ht := Rep.ext ht ew8
          replace hj := Rep.ext hj ew8
          replace hlow := hlow.ext ew8
          replace hB := Nat.le_trans hB ew8.size
          refine a_bar 6 rfl (by kernel_rfl) (by kernel_rfl) (o_call fo22 rfl rfl rfl (alike_spec _ _ _ _ _ _ hj ho hlow) ?_)
          rintro _ w9 ⟨rfl, ew9⟩
          replace hS := hS.then ew9
          replace hE := hE.trans (Below.mono ew9 hB)
          replace hl := hl.ext ew9
          replace h2 := h2.ext ew9
          replace hk := hk.ext ew9
          replace ht := Rep.ext ht ew9
          replace hj := Rep.ext hj ew9
          replace ho := Rep.ext ho ew9
          replace hlow := hlow.ext ew9
          replace hB := Nat.le_trans hB ew9.size
          refine a_p 7 tbOk rfl rfl rfl rfl (by kernel_rfl) (fun _ _ _ h => h) hS ?_
          refine a_end (by kernel_rfl) ?_
          refine x_seq ?_
          refine c_ifB _ rfl (fun c6 => ?_) (fun c6 => ?_)
          · exact absurd rfl (cl_not c6)
          · refine c_skip ?_
            refine x_seq ?_
            refine c_seq ?_
            refine c_reg ?_
            refine l_cons (o_lds tbOk (fun j v hv => h2.cell j v hv) rfl rfl rfl rfl rfl rfl ?_)
            refine l_cons (o_call fo25 rfl rfl rfl (Flat_spec t _ _ _ ht hlow hsz) ?_)
            rintro _ w10 ⟨⟨xv, tv, rfl, hfl, htl⟩, ew10⟩
            replace hE := hE.trans (Below.mono ew10 hB)
            replace hl := hl.ext ew10
            replace h2 := h2.ext ew10
            replace hk := hk.ext ew10
            replace ht := Rep.ext ht ew10
            replace hj := Rep.ext hj ew10
            replace ho := Rep.ext ho ew10
            replace hlow := hlow.ext ew10
            replace hB := Nat.le_trans hB ew10.size
            obtain ⟨kve, rfl, ope, nme, n64e, hke⟩ := ty_open htl
            refine l_cons (o_p tbOk rfl rfl rfl ?_)
            refine l_cons (o_p tbOk rfl rfl rfl ?_)
            refine l_cons (o_p tbOk rfl rfl rfl ?_)
            refine l_cons (o_new tbOk rfl rfl rfl ?_)
            intro b7 w11 qb7 ew11 hb7
            have nb7 := nM_of hlow qb7
            refine l_cons (o_p tbOk rfl rfl rfl ?_)
            refine l_cons (o_st tbOk hb7 rfl rfl rfl rfl (Rep.one htl) rfl rfl ?_)
            intro w12 h7 uw12 bew12
            have ew12 : Ext w10 w12 := ew11.trans (bew12 _ (Nat.le_of_eq qb7.symm))
            replace hE := hE.trans (Below.mono ew12 hB)
            replace hl := hl.ext ew12
            replace h2 := h2.ext ew12
            replace hk := hk.ext ew12
            replace ht := Rep.ext ht ew12
            replace hj := Rep.ext hj ew12
            replace ho := Rep.ext ho ew12
            replace hfl := hfl.ext ew12
            replace htl := Rep.ext htl ew12
            replace hke := hke.ext ew12
            replace hlow := hlow.ext ew12
            replace hB := Nat.le_trans hB ew12.size
            replace h7 : Box w12 b7 25 [.int .u8 (flatF t).2.op, .string (flatF t).2.name, .int .i64 (flatF t).2.n, kve] := h7
            replace h7 := h7.at nb7
            refine l_nil ?_
            refine x_seq ?_
            refine c_seq ?_
            refine c_seq ?_
            refine c_reg ?_
            refine l_cons (o_lds tbOk (fun j v hv => h2.cell j v hv) rfl rfl rfl rfl rfl rfl ?_)
            refine l_cons (o_call fo19 rfl rfl rfl (refRow_spec t M _ _ ht hlow hsz) ?_)
            rintro _ w13 ⟨rfl, ew13⟩
            replace hE := hE.trans (Below.mono ew13 hB)
            replace hl := hl.ext ew13
            replace h2 := h2.ext ew13
            replace hk := hk.ext ew13
            replace ht := Rep.ext ht ew13
            replace hj := Rep.ext hj ew13
            replace ho := Rep.ext ho ew13
            replace hfl := hfl.ext ew13
            replace htl := Rep.ext htl ew13
            replace hke := hke.ext ew13
            replace h7 := h7.ext ew13
            replace hlow := hlow.ext ew13
            replace hB := Nat.le_trans hB ew13.size
            refine l_cons (o_p tbOk rfl rfl rfl ?_)
            refine l_nil ?_
            refine x_seq ?_
            refine c_ifB _ rfl (fun c7 => ?_) (fun c7 => ?_)
            · have e1 : flatF t = ([], .mk 0 ⟨#[]⟩ 0 []) := by rw [flatF, c7]; rfl
              refine c_seq ?_
              refine c_reg ?_
              refine l_cons (o_p tbOk rfl rfl rfl ?_)
              refine l_cons (o_len tbOk hfl rfl rfl rfl rfl rfl ?_)
              refine l_cons (o_p tbOk rfl rfl rfl ?_)
              refine l_cons (o_p tbOk rfl rfl rfl ?_)
              refine l_splitP 50 _ rfl (fun c8 => ?_) (fun c8 => ?_)
              · refine l_cons (o_lds tbOk (fun j v hv => h7.cell j v hv) rfl rfl rfl rfl rfl rfl ?_)
                refine l_cons (o_build (cells := [.int .u8 0, .string ⟨#[]⟩, .int .i64 0, .slice none 0 0]) (css := []) bd25 rfl rfl rfl rfl rfl ?_)
                have hzz : Rep.R M w13 (.agg #[.int .u8 0, .string ⟨#[]⟩, .int .i64 0, .slice none 0 0]) (Ty.mk 0 ⟨#[]⟩ 0 []) := ty_mk (by decide) (by decide) ⟨by decide, by decide⟩ sl_nil
                refine l_cons (o_call fo22 rfl rfl rfl (alike_spec _ _ _ _ _ _ htl hzz hlow) ?_)
                rintro _ w14 ⟨rfl, ew14⟩
                replace hE := hE.trans (Below.mono ew14 hB)
                replace hl := hl.ext ew14
                replace h2 := h2.ext ew14
                replace hk := hk.ext ew14
                replace ht := Rep.ext ht ew14
                replace hj := Rep.ext hj ew14
                replace ho := Rep.ext ho ew14
                replace hfl := hfl.ext ew14
                replace htl := Rep.ext htl ew14
                replace hke := hke.ext ew14
                replace h7 := h7.ext ew14
                replace hzz := Rep.ext hzz ew14
                replace hlow := hlow.ext ew14
                replace hB := Nat.le_trans hB ew14.size
                refine l_cons (o_p tbOk rfl rfl rfl ?_)
                refine l_cons (o_p tbOk rfl rfl rfl ?_)
                refine l_nil ?_
                refine x_seq ?_
                refine c_ret ?_
                refine x_seqR ?_
                refine x_ret1 rfl rfl ?_
                exact ⟨by rw [cl_true (by rw [e1])], hE⟩
              · exact (c8 (by rw [e1]; rfl)).elim
            · have e1 : flatF t = (fieldsF (spineF t).1, (spineF t).2) := by rw [flatF, c7]; rfl
              have hsh : shapeF t 114 = true := by have h := c7; unfold rowB at h; rw [Bool.and_eq_true] at h; exact h.1
              refine c_skip ?_
              refine x_seq ?_
              refine c_seq ?_
              refine c_reg ?_
              refine l_cons (o_lds tbOk (fun j v hv => h2.cell j v hv) rfl rfl rfl rfl rfl rfl ?_)
              refine l_cons (o_call fo26 rfl rfl rfl (fields_spec t _ _ _ hsh ht hlow hsz) ?_)
              rintro _ w15 ⟨⟨xv2, tv2, rfl, hfi, hen⟩, ew15⟩
              replace hE := hE.trans (Below.mono ew15 hB)
              replace hl := hl.ext ew15
              replace h2 := h2.ext ew15
              replace hk := hk.ext ew15
              replace ht := Rep.ext ht ew15
              replace hj := Rep.ext hj ew15
              replace ho := Rep.ext ho ew15
              replace hfl := hfl.ext ew15
              replace htl := Rep.ext htl ew15
              replace hke := hke.ext ew15
              replace h7 := h7.ext ew15
              replace hlow := hlow.ext ew15
              replace hB := Nat.le_trans hB ew15.size
              obtain ⟨kvn, rfl, opn, nmn, n64n, hkn⟩ := ty_open hen
              refine l_cons (o_p tbOk rfl rfl rfl ?_)
              refine l_cons (o_p tbOk rfl rfl rfl ?_)
              refine l_cons (o_p tbOk rfl rfl rfl ?_)
              refine l_cons (o_new tbOk rfl rfl rfl ?_)
              intro b9 w16 qb9 ew16 hb9
              have nb9 := nM_of hlow qb9
              refine l_cons (o_p tbOk rfl rfl rfl ?_)
              refine l_cons (o_st tbOk hb9 rfl rfl rfl rfl (Rep.one hen) rfl rfl ?_)
              intro w17 h9 uw17 bew17
              have ew17 : Ext w15 w17 := ew16.trans (bew17 _ (Nat.le_of_eq qb9.symm))
              replace hE := hE.trans (Below.mono ew17 hB)
              replace hl := hl.ext ew17
              replace h2 := h2.ext ew17
              replace hk := hk.ext ew17
              replace ht := Rep.ext ht ew17
              replace hj := Rep.ext hj ew17
              replace ho := Rep.ext ho ew17
              replace hfl := hfl.ext ew17
              replace htl := Rep.ext htl ew17
              replace hke := hke.ext ew17
              replace h7 := h7.ext ew17
              replace hfi := hfi.ext ew17
              replace hen := Rep.ext hen ew17
              replace hkn := hkn.ext ew17
              replace hlow := hlow.ext ew17
              replace hB := Nat.le_trans hB ew17.size
              replace h9 : Box w17 b9 25 [.int .u8 (spineF t).2.op, .string (spineF t).2.name, .int .i64 (spineF t).2.n, kvn] := h9
              replace h9 := h9.at nb9
              refine l_nil ?_
              refine x_seq ?_
              refine c_seq ?_
              refine c_reg ?_
              refine l_cons (o_p tbOk rfl rfl rfl ?_)
              refine l_cons (o_p tbOk rfl rfl rfl ?_)
              refine l_cons (o_call fo27 rfl rfl rfl (sameFields_spec _ _ M _ _ _ hfl hfi hlow) ?_)
              rintro _ w18 ⟨rfl, ew18⟩
              replace hE := hE.trans (Below.mono ew18 hB)
              replace hl := hl.ext ew18
              replace h2 := h2.ext ew18
              replace hk := hk.ext ew18
              replace ht := Rep.ext ht ew18
              replace hj := Rep.ext hj ew18
              replace ho := Rep.ext ho ew18
              replace hfl := hfl.ext ew18
              replace htl := Rep.ext htl ew18
              replace hke := hke.ext ew18
              replace h7 := h7.ext ew18
              replace hfi := hfi.ext ew18
              replace hen := Rep.ext hen ew18
              replace hkn := hkn.ext ew18
              replace h9 := h9.ext ew18
              replace hlow := hlow.ext ew18
              replace hB := Nat.le_trans hB ew18.size
              refine l_cons (o_p tbOk rfl rfl rfl ?_)
              refine l_split 63 _ rfl (fun c9 => ?_) (fun c9 => ?_)
              · refine l_cons (o_lds tbOk (fun j v hv => h7.cell j v hv) rfl rfl rfl rfl rfl rfl ?_)
                refine l_cons (o_lds tbOk (fun j v hv => h9.cell j v hv) rfl rfl rfl rfl rfl rfl ?_)
                refine l_cons (o_call fo22 rfl rfl rfl (alike_spec _ _ _ _ _ _ htl hen hlow) ?_)
                rintro _ w19 ⟨rfl, ew19⟩
                replace hE := hE.trans (Below.mono ew19 hB)
                replace hl := hl.ext ew19
                replace h2 := h2.ext ew19
                replace hk := hk.ext ew19
                replace ht := Rep.ext ht ew19
                replace hj := Rep.ext hj ew19
                replace ho := Rep.ext ho ew19
                replace hfl := hfl.ext ew19
                replace htl := Rep.ext htl ew19
                replace hke := hke.ext ew19
                replace h7 := h7.ext ew19
                replace hfi := hfi.ext ew19
                replace hen := Rep.ext hen ew19
                replace hkn := hkn.ext ew19
                replace h9 := h9.ext ew19
                replace hlow := hlow.ext ew19
                replace hB := Nat.le_trans hB ew19.size
                refine l_cons (o_p tbOk rfl rfl rfl ?_)
                refine l_cons (o_p tbOk rfl rfl rfl ?_)
                refine l_nil ?_
                refine x_seq ?_
                refine c_ret ?_
                refine x_ret1 rfl rfl ?_
                exact ⟨by rw [cl_true (by rw [e1])], hE⟩
              · exact (cl_not c9 (by rw [e1])).elim

end Go.Proofs.Ytpoahmeacjggfaa
