/- Walks: the law KindsSame. Printed by wip/walks/kinds14.py. -/
import Derived.Test.YtpoahmeacjggfaaWk
namespace Go.Proofs.Ytpoahmeacjggfaa
open Go Rw Go.RowKit
set_option maxRecDepth 100000

/-- KindsSame: true. -/
theorem kindsSame_spec (t s : Ty) (M : Nat → Prop) (w : World) (v u : Value) (ht : Rep.R M w v t) (hs : Rep.R M w u s) (hz : psz t ≤ 2000000) (hzs : psz s ≤ 2000000) (hlow : Low M w) :
    Calls Try.prog 6 #[v, u] w (Ret fun r w' => r = .bool true ∧ Ext w w') := by
  have hE : Below w.heap.size w w := Below.refl _ _
  have hB : w.heap.size ≤ w.heap.size := Nat.le_refl _
  obtain ⟨kv, rfl, op, nm, n64, hk⟩ := ty_open ht
  obtain ⟨kvs, rfl, ops, nms, n64s, hks⟩ := ty_open hs
  refine c_enter (n := 38) Try.func6 rfl rfl rfl ?_
  refine c_seq ?_
  refine c_reg ?_
  refine l_cons (o_box rfl rfl rfl ?_)
  intro b2 w1 hb_b2 ew1 h2
  replace h2 : Box _ b2 25 [.int .u8 t.op, .string t.name, .int .i64 t.n, kv] := h2
  replace h2 := h2.at (nM_of hlow hb_b2)
  replace hE := hE.trans (Below.mono ew1 hB)
  replace ht := Rep.ext ht ew1
  replace hk := hk.ext ew1
  replace hs := Rep.ext hs ew1
  replace hks := hks.ext ew1
  replace hlow := hlow.ext ew1
  replace hB := Nat.le_trans hB ew1.size
  refine l_cons (o_box rfl rfl rfl ?_)
  intro b3 w2 hb_b3 ew2 h3
  replace h3 : Box _ b3 25 [.int .u8 s.op, .string s.name, .int .i64 s.n, kvs] := h3
  replace h3 := h3.at (nM_of hlow hb_b3)
  replace hE := hE.trans (Below.mono ew2 hB)
  replace ht := Rep.ext ht ew2
  replace hk := hk.ext ew2
  replace hs := Rep.ext hs ew2
  replace hks := hks.ext ew2
  replace h2 := h2.ext ew2
  replace hlow := hlow.ext ew2
  replace hB := Nat.le_trans hB ew2.size
  refine l_cons (o_p tbOk rfl rfl rfl ?_)
  refine l_nil ?_
  refine x_seq ?_
  refine c_seq ?_
  refine c_seq ?_
  refine c_reg ?_
  refine l_cons (o_call fo14 rfl rfl rfl (alive_spec M _ hlow) ?_)
  rintro _ w3 ⟨rfl, ew3⟩
  replace hE := hE.trans (Below.mono ew3 hB)
  replace ht := Rep.ext ht ew3
  replace hk := hk.ext ew3
  replace hs := Rep.ext hs ew3
  replace hks := hks.ext ew3
  replace h2 := h2.ext ew3
  replace h3 := h3.ext ew3
  replace hlow := hlow.ext ew3
  replace hB := Nat.le_trans hB ew3.size
  refine l_cons (o_p tbOk rfl rfl rfl ?_)
  refine l_nil ?_
  refine x_seq ?_
  refine c_ifB _ rfl (fun c1 => ?_) (fun c1 => ?_)
  · exact absurd c1 (by simp)
  · refine c_skip ?_
    refine x_seq ?_
    refine c_seq ?_
    refine c_seq ?_
    refine c_reg ?_
    refine l_cons (o_lds tbOk (fun j v hv => h2.cell j v hv) rfl rfl rfl rfl rfl rfl ?_)
    refine l_cons (o_call fo15 rfl rfl rfl (many_spec t M _ _ ht hlow hz) ?_)
    rintro _ w4 ⟨rfl, ew4⟩
    replace hE := hE.trans (Below.mono ew4 hB)
    replace ht := Rep.ext ht ew4
    replace hk := hk.ext ew4
    replace hs := Rep.ext hs ew4
    replace hks := hks.ext ew4
    replace h2 := h2.ext ew4
    replace h3 := h3.ext ew4
    replace hlow := hlow.ext ew4
    replace hB := Nat.le_trans hB ew4.size
    refine l_cons (o_p tbOk rfl rfl rfl ?_)
    refine l_split 10 _ rfl (fun c2 => ?_) (fun c2 => ?_)
    · refine l_cons (o_skip rfl rfl ?_)
      refine l_cons (o_skip rfl rfl ?_)
      refine l_cons (o_p tbOk rfl rfl rfl ?_)
      refine l_nil ?_
      refine x_seq ?_
      refine c_ifT rfl ?_
      refine c_seq ?_
      refine c_reg ?_
      refine l_cons (o_p tbOk rfl rfl rfl ?_)
      refine l_nil ?_
      refine x_seq ?_
      refine c_ret ?_
      refine x_seqR ?_
      refine x_ret1 rfl rfl ?_
      exact ⟨by simp_all, hE⟩
    · refine l_cons (o_lds tbOk (fun j v hv => h3.cell j v hv) rfl rfl rfl rfl rfl rfl ?_)
      refine l_cons (o_call fo15 rfl rfl rfl (many_spec s M _ _ hs hlow hzs) ?_)
      rintro _ w5 ⟨rfl, ew5⟩
      replace hE := hE.trans (Below.mono ew5 hB)
      replace ht := Rep.ext ht ew5
      replace hk := hk.ext ew5
      replace hs := Rep.ext hs ew5
      replace hks := hks.ext ew5
      replace h2 := h2.ext ew5
      replace h3 := h3.ext ew5
      replace hlow := hlow.ext ew5
      replace hB := Nat.le_trans hB ew5.size
      refine l_cons (o_p tbOk rfl rfl rfl ?_)
      refine l_nil ?_
      refine x_seq ?_
      refine c_if _ rfl (fun c3 => ?_) (fun c3 => ?_)
      · refine c_seq ?_
        refine c_reg ?_
        refine l_cons (o_p tbOk rfl rfl rfl ?_)
        refine l_nil ?_
        refine x_seq ?_
        refine c_ret ?_
        refine x_seqR ?_
        refine x_ret1 rfl rfl ?_
        exact ⟨by simp_all, hE⟩
      · refine c_skip ?_
        refine x_seq ?_
        refine c_seq ?_
        refine c_reg ?_
        refine l_cons (o_lds tbOk (fun j v hv => h2.cell j v hv) rfl rfl rfl rfl rfl rfl ?_)
        refine l_cons (o_call fo17 rfl rfl rfl (refRight_spec t M _ _ ht hlow hz) ?_)
        rintro _ w6 ⟨rfl, ew6⟩
        replace hE := hE.trans (Below.mono ew6 hB)
        replace ht := Rep.ext ht ew6
        replace hk := hk.ext ew6
        replace hs := Rep.ext hs ew6
        replace hks := hks.ext ew6
        replace h2 := h2.ext ew6
        replace h3 := h3.ext ew6
        replace hlow := hlow.ext ew6
        replace hB := Nat.le_trans hB ew6.size
        refine l_cons (o_p tbOk rfl rfl rfl ?_)
        refine l_split 16 _ rfl (fun c4 => ?_) (fun c4 => ?_)
        · refine l_cons (o_skip rfl rfl ?_)
          refine l_cons (o_skip rfl rfl ?_)
          refine l_cons (o_p tbOk rfl rfl rfl ?_)
          refine l_cons (o_p tbOk rfl rfl rfl ?_)
          refine l_cons (o_lds tbOk (fun j v hv => h3.cell j v hv) rfl rfl rfl rfl rfl rfl ?_)
          refine l_cons (o_call fo17 rfl rfl rfl (refRight_spec s M _ _ hs hlow hzs) ?_)
          rintro _ w7 ⟨rfl, ew7⟩
          replace hE := hE.trans (Below.mono ew7 hB)
          replace ht := Rep.ext ht ew7
          replace hk := hk.ext ew7
          replace hs := Rep.ext hs ew7
          replace hks := hks.ext ew7
          replace h2 := h2.ext ew7
          replace h3 := h3.ext ew7
          replace hlow := hlow.ext ew7
          replace hB := Nat.le_trans hB ew7.size
          refine l_cons (o_p tbOk rfl rfl rfl ?_)
          refine l_split 23 _ rfl (fun c5 => ?_) (fun c5 => ?_)
          · refine l_cons (o_skip rfl rfl ?_)
            refine l_cons (o_skip rfl rfl ?_)
            refine l_cons (o_p tbOk rfl rfl rfl ?_)
            refine l_cons (o_p tbOk rfl rfl rfl ?_)
            refine l_cons (o_p tbOk rfl rfl rfl ?_)
            refine l_nil ?_
            refine x_seq ?_
            refine c_seq ?_
            refine c_reg ?_
            refine l_cons (o_lds tbOk (fun j v hv => h2.cell j v hv) rfl rfl rfl rfl rfl rfl ?_)
            refine l_cons (o_lds tbOk (fun j v hv => h3.cell j v hv) rfl rfl rfl rfl rfl rfl ?_)
            refine l_cons (o_call fo36 rfl rfl rfl (kSame_spec t s M _ _ _ ht hs hlow hz hzs) ?_)
            rintro _ w8 ⟨rfl, ew8⟩
            replace hE := hE.trans (Below.mono ew8 hB)
            replace ht := Rep.ext ht ew8
            replace hk := hk.ext ew8
            replace hs := Rep.ext hs ew8
            replace hks := hks.ext ew8
            replace h2 := h2.ext ew8
            replace h3 := h3.ext ew8
            replace hlow := hlow.ext ew8
            replace hB := Nat.le_trans hB ew8.size
            refine l_cons (o_p tbOk rfl rfl rfl ?_)
            refine l_cons (o_p tbOk rfl rfl rfl ?_)
            refine l_cons (o_lds tbOk (fun j v hv => h2.cell j v hv) rfl rfl rfl rfl rfl rfl ?_)
            refine l_cons (o_lds tbOk (fun j v hv => h3.cell j v hv) rfl rfl rfl rfl rfl rfl ?_)
            have hrt : (rightB t || rowB t) = true := by simp_all
            have hrs : (rightB s || rowB s) = true := by simp_all
            refine l_cons (o_call fo37 rfl rfl rfl (refSame_spec t s _ _ M _ _ _ ht hs (Classical.choose_spec (shape_either hrt)) (Classical.choose_spec (shape_either hrs)) hlow hz hzs) ?_)
            rintro _ w9 ⟨rfl, ew9⟩
            replace hE := hE.trans (Below.mono ew9 hB)
            replace ht := Rep.ext ht ew9
            replace hk := hk.ext ew9
            replace hs := Rep.ext hs ew9
            replace hks := hks.ext ew9
            replace h2 := h2.ext ew9
            replace h3 := h3.ext ew9
            replace hlow := hlow.ext ew9
            replace hB := Nat.le_trans hB ew9.size
            refine l_cons (o_p tbOk rfl rfl rfl ?_)
            refine l_cons (o_beq tbOk rfl rfl rfl rfl rfl rfl ?_)
            refine l_cons (o_p tbOk rfl rfl rfl ?_)
            refine l_nil ?_
            refine x_seq ?_
            refine c_ret ?_
            refine x_ret1 rfl rfl ?_
            exact ⟨by simp_all, hE⟩
          · refine l_cons (o_lds tbOk (fun j v hv => h3.cell j v hv) rfl rfl rfl rfl rfl rfl ?_)
            refine l_cons (o_call fo19 rfl rfl rfl (refRow_spec s M _ _ hs hlow hzs) ?_)
            rintro _ w10 ⟨rfl, ew10⟩
            replace hE := hE.trans (Below.mono ew10 hB)
            replace ht := Rep.ext ht ew10
            replace hk := hk.ext ew10
            replace hs := Rep.ext hs ew10
            replace hks := hks.ext ew10
            replace h2 := h2.ext ew10
            replace h3 := h3.ext ew10
            replace hlow := hlow.ext ew10
            replace hB := Nat.le_trans hB ew10.size
            refine l_cons (o_p tbOk rfl rfl rfl ?_)
            refine l_cons (o_p tbOk rfl rfl rfl ?_)
            refine l_cons (o_p tbOk rfl rfl rfl ?_)
            refine l_nil ?_
            refine x_seq ?_
            refine c_seq ?_
            refine c_reg ?_
            refine l_cons (o_lds tbOk (fun j v hv => h2.cell j v hv) rfl rfl rfl rfl rfl rfl ?_)
            refine l_cons (o_lds tbOk (fun j v hv => h3.cell j v hv) rfl rfl rfl rfl rfl rfl ?_)
            refine l_cons (o_call fo36 rfl rfl rfl (kSame_spec t s M _ _ _ ht hs hlow hz hzs) ?_)
            rintro _ w11 ⟨rfl, ew11⟩
            replace hE := hE.trans (Below.mono ew11 hB)
            replace ht := Rep.ext ht ew11
            replace hk := hk.ext ew11
            replace hs := Rep.ext hs ew11
            replace hks := hks.ext ew11
            replace h2 := h2.ext ew11
            replace h3 := h3.ext ew11
            replace hlow := hlow.ext ew11
            replace hB := Nat.le_trans hB ew11.size
            refine l_cons (o_p tbOk rfl rfl rfl ?_)
            refine l_cons (o_p tbOk rfl rfl rfl ?_)
            refine l_split 32 _ rfl (fun c6 => ?_) (fun c6 => ?_)
            · refine l_cons (o_lds tbOk (fun j v hv => h2.cell j v hv) rfl rfl rfl rfl rfl rfl ?_)
              refine l_cons (o_lds tbOk (fun j v hv => h3.cell j v hv) rfl rfl rfl rfl rfl rfl ?_)
              have hrt : (rightB t || rowB t) = true := by simp_all
              have hrs : (rightB s || rowB s) = true := by simp_all
              refine l_cons (o_call fo37 rfl rfl rfl (refSame_spec t s _ _ M _ _ _ ht hs (Classical.choose_spec (shape_either hrt)) (Classical.choose_spec (shape_either hrs)) hlow hz hzs) ?_)
              rintro _ w12 ⟨rfl, ew12⟩
              replace hE := hE.trans (Below.mono ew12 hB)
              replace ht := Rep.ext ht ew12
              replace hk := hk.ext ew12
              replace hs := Rep.ext hs ew12
              replace hks := hks.ext ew12
              replace h2 := h2.ext ew12
              replace h3 := h3.ext ew12
              replace hlow := hlow.ext ew12
              replace hB := Nat.le_trans hB ew12.size
              refine l_cons (o_p tbOk rfl rfl rfl ?_)
              refine l_cons (o_beq tbOk rfl rfl rfl rfl rfl rfl ?_)
              refine l_cons (o_p tbOk rfl rfl rfl ?_)
              refine l_nil ?_
              refine x_seq ?_
              refine c_ret ?_
              refine x_ret1 rfl rfl ?_
              exact ⟨by simp_all, hE⟩
            · refine l_cons (o_skip rfl rfl ?_)
              refine l_cons (o_skip rfl rfl ?_)
              refine l_cons (o_skip rfl rfl ?_)
              refine l_cons (o_p tbOk rfl rfl rfl ?_)
              refine l_cons (o_beq tbOk rfl rfl rfl rfl rfl rfl ?_)
              refine l_cons (o_p tbOk rfl rfl rfl ?_)
              refine l_nil ?_
              refine x_seq ?_
              refine c_ret ?_
              refine x_ret1 rfl rfl ?_
              exact ⟨by simp_all, hE⟩
        · refine l_cons (o_lds tbOk (fun j v hv => h2.cell j v hv) rfl rfl rfl rfl rfl rfl ?_)
          refine l_cons (o_call fo19 rfl rfl rfl (refRow_spec t M _ _ ht hlow hz) ?_)
          rintro _ w13 ⟨rfl, ew13⟩
          replace hE := hE.trans (Below.mono ew13 hB)
          replace ht := Rep.ext ht ew13
          replace hk := hk.ext ew13
          replace hs := Rep.ext hs ew13
          replace hks := hks.ext ew13
          replace h2 := h2.ext ew13
          replace h3 := h3.ext ew13
          replace hlow := hlow.ext ew13
          replace hB := Nat.le_trans hB ew13.size
          refine l_cons (o_p tbOk rfl rfl rfl ?_)
          refine l_cons (o_p tbOk rfl rfl rfl ?_)
          refine l_split 20 _ rfl (fun c7 => ?_) (fun c7 => ?_)
          · refine l_cons (o_lds tbOk (fun j v hv => h3.cell j v hv) rfl rfl rfl rfl rfl rfl ?_)
            refine l_cons (o_call fo17 rfl rfl rfl (refRight_spec s M _ _ hs hlow hzs) ?_)
            rintro _ w14 ⟨rfl, ew14⟩
            replace hE := hE.trans (Below.mono ew14 hB)
            replace ht := Rep.ext ht ew14
            replace hk := hk.ext ew14
            replace hs := Rep.ext hs ew14
            replace hks := hks.ext ew14
            replace h2 := h2.ext ew14
            replace h3 := h3.ext ew14
            replace hlow := hlow.ext ew14
            replace hB := Nat.le_trans hB ew14.size
            refine l_cons (o_p tbOk rfl rfl rfl ?_)
            refine l_split 23 _ rfl (fun c8 => ?_) (fun c8 => ?_)
            · refine l_cons (o_skip rfl rfl ?_)
              refine l_cons (o_skip rfl rfl ?_)
              refine l_cons (o_p tbOk rfl rfl rfl ?_)
              refine l_cons (o_p tbOk rfl rfl rfl ?_)
              refine l_cons (o_p tbOk rfl rfl rfl ?_)
              refine l_nil ?_
              refine x_seq ?_
              refine c_seq ?_
              refine c_reg ?_
              refine l_cons (o_lds tbOk (fun j v hv => h2.cell j v hv) rfl rfl rfl rfl rfl rfl ?_)
              refine l_cons (o_lds tbOk (fun j v hv => h3.cell j v hv) rfl rfl rfl rfl rfl rfl ?_)
              refine l_cons (o_call fo36 rfl rfl rfl (kSame_spec t s M _ _ _ ht hs hlow hz hzs) ?_)
              rintro _ w15 ⟨rfl, ew15⟩
              replace hE := hE.trans (Below.mono ew15 hB)
              replace ht := Rep.ext ht ew15
              replace hk := hk.ext ew15
              replace hs := Rep.ext hs ew15
              replace hks := hks.ext ew15
              replace h2 := h2.ext ew15
              replace h3 := h3.ext ew15
              replace hlow := hlow.ext ew15
              replace hB := Nat.le_trans hB ew15.size
              refine l_cons (o_p tbOk rfl rfl rfl ?_)
              refine l_cons (o_p tbOk rfl rfl rfl ?_)
              refine l_cons (o_lds tbOk (fun j v hv => h2.cell j v hv) rfl rfl rfl rfl rfl rfl ?_)
              refine l_cons (o_lds tbOk (fun j v hv => h3.cell j v hv) rfl rfl rfl rfl rfl rfl ?_)
              have hrt : (rightB t || rowB t) = true := by simp_all
              have hrs : (rightB s || rowB s) = true := by simp_all
              refine l_cons (o_call fo37 rfl rfl rfl (refSame_spec t s _ _ M _ _ _ ht hs (Classical.choose_spec (shape_either hrt)) (Classical.choose_spec (shape_either hrs)) hlow hz hzs) ?_)
              rintro _ w16 ⟨rfl, ew16⟩
              replace hE := hE.trans (Below.mono ew16 hB)
              replace ht := Rep.ext ht ew16
              replace hk := hk.ext ew16
              replace hs := Rep.ext hs ew16
              replace hks := hks.ext ew16
              replace h2 := h2.ext ew16
              replace h3 := h3.ext ew16
              replace hlow := hlow.ext ew16
              replace hB := Nat.le_trans hB ew16.size
              refine l_cons (o_p tbOk rfl rfl rfl ?_)
              refine l_cons (o_beq tbOk rfl rfl rfl rfl rfl rfl ?_)
              refine l_cons (o_p tbOk rfl rfl rfl ?_)
              refine l_nil ?_
              refine x_seq ?_
              refine c_ret ?_
              refine x_ret1 rfl rfl ?_
              exact ⟨by simp_all, hE⟩
            · refine l_cons (o_lds tbOk (fun j v hv => h3.cell j v hv) rfl rfl rfl rfl rfl rfl ?_)
              refine l_cons (o_call fo19 rfl rfl rfl (refRow_spec s M _ _ hs hlow hzs) ?_)
              rintro _ w17 ⟨rfl, ew17⟩
              replace hE := hE.trans (Below.mono ew17 hB)
              replace ht := Rep.ext ht ew17
              replace hk := hk.ext ew17
              replace hs := Rep.ext hs ew17
              replace hks := hks.ext ew17
              replace h2 := h2.ext ew17
              replace h3 := h3.ext ew17
              replace hlow := hlow.ext ew17
              replace hB := Nat.le_trans hB ew17.size
              refine l_cons (o_p tbOk rfl rfl rfl ?_)
              refine l_cons (o_p tbOk rfl rfl rfl ?_)
              refine l_cons (o_p tbOk rfl rfl rfl ?_)
              refine l_nil ?_
              refine x_seq ?_
              refine c_seq ?_
              refine c_reg ?_
              refine l_cons (o_lds tbOk (fun j v hv => h2.cell j v hv) rfl rfl rfl rfl rfl rfl ?_)
              refine l_cons (o_lds tbOk (fun j v hv => h3.cell j v hv) rfl rfl rfl rfl rfl rfl ?_)
              refine l_cons (o_call fo36 rfl rfl rfl (kSame_spec t s M _ _ _ ht hs hlow hz hzs) ?_)
              rintro _ w18 ⟨rfl, ew18⟩
              replace hE := hE.trans (Below.mono ew18 hB)
              replace ht := Rep.ext ht ew18
              replace hk := hk.ext ew18
              replace hs := Rep.ext hs ew18
              replace hks := hks.ext ew18
              replace h2 := h2.ext ew18
              replace h3 := h3.ext ew18
              replace hlow := hlow.ext ew18
              replace hB := Nat.le_trans hB ew18.size
              refine l_cons (o_p tbOk rfl rfl rfl ?_)
              refine l_cons (o_p tbOk rfl rfl rfl ?_)
              refine l_split 32 _ rfl (fun c9 => ?_) (fun c9 => ?_)
              · refine l_cons (o_lds tbOk (fun j v hv => h2.cell j v hv) rfl rfl rfl rfl rfl rfl ?_)
                refine l_cons (o_lds tbOk (fun j v hv => h3.cell j v hv) rfl rfl rfl rfl rfl rfl ?_)
                have hrt : (rightB t || rowB t) = true := by simp_all
                have hrs : (rightB s || rowB s) = true := by simp_all
                refine l_cons (o_call fo37 rfl rfl rfl (refSame_spec t s _ _ M _ _ _ ht hs (Classical.choose_spec (shape_either hrt)) (Classical.choose_spec (shape_either hrs)) hlow hz hzs) ?_)
                rintro _ w19 ⟨rfl, ew19⟩
                replace hE := hE.trans (Below.mono ew19 hB)
                replace ht := Rep.ext ht ew19
                replace hk := hk.ext ew19
                replace hs := Rep.ext hs ew19
                replace hks := hks.ext ew19
                replace h2 := h2.ext ew19
                replace h3 := h3.ext ew19
                replace hlow := hlow.ext ew19
                replace hB := Nat.le_trans hB ew19.size
                refine l_cons (o_p tbOk rfl rfl rfl ?_)
                refine l_cons (o_beq tbOk rfl rfl rfl rfl rfl rfl ?_)
                refine l_cons (o_p tbOk rfl rfl rfl ?_)
                refine l_nil ?_
                refine x_seq ?_
                refine c_ret ?_
                refine x_ret1 rfl rfl ?_
                exact ⟨by simp_all, hE⟩
              · refine l_cons (o_skip rfl rfl ?_)
                refine l_cons (o_skip rfl rfl ?_)
                refine l_cons (o_skip rfl rfl ?_)
                refine l_cons (o_p tbOk rfl rfl rfl ?_)
                refine l_cons (o_beq tbOk rfl rfl rfl rfl rfl rfl ?_)
                refine l_cons (o_p tbOk rfl rfl rfl ?_)
                refine l_nil ?_
                refine x_seq ?_
                refine c_ret ?_
                refine x_ret1 rfl rfl ?_
                exact ⟨by simp_all, hE⟩
          · refine l_cons (o_skip rfl rfl ?_)
            refine l_cons (o_skip rfl rfl ?_)
            refine l_cons (o_skip rfl rfl ?_)
            refine l_cons (o_skip rfl rfl ?_)
            refine l_cons (o_skip rfl rfl ?_)
            refine l_cons (o_skip rfl rfl ?_)
            refine l_cons (o_p tbOk rfl rfl rfl ?_)
            refine l_cons (o_p tbOk rfl rfl rfl ?_)
            refine l_nil ?_
            refine x_seq ?_
            refine c_seq ?_
            refine c_reg ?_
            refine l_cons (o_lds tbOk (fun j v hv => h2.cell j v hv) rfl rfl rfl rfl rfl rfl ?_)
            refine l_cons (o_lds tbOk (fun j v hv => h3.cell j v hv) rfl rfl rfl rfl rfl rfl ?_)
            refine l_cons (o_call fo36 rfl rfl rfl (kSame_spec t s M _ _ _ ht hs hlow hz hzs) ?_)
            rintro _ w20 ⟨rfl, ew20⟩
            replace hE := hE.trans (Below.mono ew20 hB)
            replace ht := Rep.ext ht ew20
            replace hk := hk.ext ew20
            replace hs := Rep.ext hs ew20
            replace hks := hks.ext ew20
            replace h2 := h2.ext ew20
            replace h3 := h3.ext ew20
            replace hlow := hlow.ext ew20
            replace hB := Nat.le_trans hB ew20.size
            refine l_cons (o_p tbOk rfl rfl rfl ?_)
            refine l_cons (o_p tbOk rfl rfl rfl ?_)
            refine l_cons (o_skip rfl rfl ?_)
            refine l_cons (o_skip rfl rfl ?_)
            refine l_cons (o_skip rfl rfl ?_)
            refine l_cons (o_p tbOk rfl rfl rfl ?_)
            refine l_cons (o_beq tbOk rfl rfl rfl rfl rfl rfl ?_)
            refine l_cons (o_p tbOk rfl rfl rfl ?_)
            refine l_nil ?_
            refine x_seq ?_
            refine c_ret ?_
            refine x_ret1 rfl rfl ?_
            exact ⟨by simp_all, hE⟩

end Go.Proofs.Ytpoahmeacjggfaa
