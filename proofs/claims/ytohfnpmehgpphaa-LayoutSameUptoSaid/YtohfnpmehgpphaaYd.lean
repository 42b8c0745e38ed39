/- Walks: the law LayoutPlaces. Printed by wip/walks/layout4.py. -/
import Derived.Test.YtohfnpmehgpphaaYc
namespace Go.Proofs.Ytohfnpmehgpphaa
open Go Rw Go.RowKit
set_option maxRecDepth 100000

/-- LayoutPlaces: true. -/
theorem layoutPlaces_spec (t : Ty) (name : ByteArray) (n : Int) (M : Nat → Prop) (w : World) (v : Value) (ht : Rep.R M w v t) (hnm : name.size < 140737488355328) (hn : I64 n) (hsz : psz t ≤ 2000000) (hlow : Low M w) :
    Calls Try.prog 4 #[v, .string name, .int .i64 n] w (Ret fun r w' => r = .bool true ∧ Ext w w') := by
  have hn64 : I64 (flatF t).2.n := flat_n64 (spine_n64 t v ht)
  have hpa := atP_ok hn64 hsz hnm
  have hpf : PlOk (atF t name).1 := atF_ok hn64 hsz hnm
  have hpn : PlOk (nthF t name n).1 := nthF_ok hn64 hsz hnm
  have hE : Below w.heap.size w w := Below.refl _ _
  have hB : w.heap.size ≤ w.heap.size := Nat.le_refl _
  obtain ⟨kv, rfl, op, nm, n64, hk⟩ := ty_open ht
  refine c_enter (n := 147) Try.func4 rfl rfl rfl ?_
  refine c_seq ?_
  refine c_reg ?_
  refine l_cons (o_box rfl rfl rfl ?_)
  intro b3 w1 hb_b3 ew1 h3
  replace h3 : Box _ b3 40 [.int .u8 t.op, .string t.name, .int .i64 t.n, kv] := h3
  replace h3 := h3.at (nM_of hlow hb_b3)
  replace hE := hE.trans (Below.mono ew1 hB)
  replace ht := Rep.ext ht ew1
  replace hk := hk.ext ew1
  replace hlow := hlow.ext ew1
  replace hB := Nat.le_trans hB ew1.size
  refine l_cons (o_p tbOk rfl rfl rfl ?_)
  refine l_nil ?_
  refine x_seq ?_
  refine c_seq ?_
  refine c_seq ?_
  refine c_reg ?_
  refine l_cons (o_call fo12 rfl rfl rfl (alive_spec M _ hlow) ?_)
  rintro _ w2 ⟨rfl, ew2⟩
  replace hE := hE.trans (Below.mono ew2 hB)
  replace ht := Rep.ext ht ew2
  replace hk := hk.ext ew2
  replace h3 := h3.ext ew2
  replace hlow := hlow.ext ew2
  replace hB := Nat.le_trans hB ew2.size
  refine l_cons (o_p tbOk rfl rfl rfl ?_)
  refine l_nil ?_
  refine x_seq ?_
  refine c_ifB _ rfl (fun c1 => ?_) (fun c1 => ?_)
  · exact absurd c1 (by simp)
  refine c_skip ?_
  refine x_seq ?_
  refine c_seq ?_
  refine c_seq ?_
  refine c_reg ?_
  refine l_cons (o_lds tbOk (fun j v hv => h3.cell j v hv) rfl rfl rfl rfl rfl rfl ?_)
  refine l_cons (o_call fo15 rfl rfl rfl (many18_spec t _ _ _ ht hlow hsz) ?_)
  rintro _ w3 ⟨rfl, ew3⟩
  replace hE := hE.trans (Below.mono ew3 hB)
  replace ht := Rep.ext ht ew3
  replace hk := hk.ext ew3
  replace h3 := h3.ext ew3
  replace hlow := hlow.ext ew3
  replace hB := Nat.le_trans hB ew3.size
  refine l_nil ?_
  refine x_seq ?_
  refine c_if _ rfl (fun c2 => ?_) (fun c2 => ?_)
  · refine c_seq ?_
    refine c_reg ?_
    refine l_cons (o_p tbOk rfl rfl rfl ?_)
    refine l_nil ?_
    refine x_seq ?_
    refine c_ret ?_
    refine x_seqR ?_
    refine x_ret1 rfl rfl ?_
    exact ⟨by simp, hE⟩
  refine c_skip ?_
  refine x_seq ?_
  refine c_seq ?_
  refine c_reg ?_
  refine l_cons (o_lds tbOk (fun j v hv => h3.cell j v hv) rfl rfl rfl rfl rfl rfl ?_)
  refine l_cons (o_call fo16 rfl rfl rfl (slots_spec t _ _ _ ht hlow hsz) ?_)
  rintro _ w4 ⟨⟨sv, rfl, hsl⟩, ew4⟩
  replace hE := hE.trans (Below.mono ew4 hB)
  replace ht := Rep.ext ht ew4
  replace hk := hk.ext ew4
  replace h3 := h3.ext ew4
  replace hlow := hlow.ext ew4
  replace hB := Nat.le_trans hB ew4.size
  refine l_cons (o_p tbOk rfl rfl rfl ?_)
  refine l_cons (o_p tbOk rfl rfl rfl ?_)
  refine l_cons (o_p tbOk rfl rfl rfl ?_)
  refine l_cons (o_p tbOk rfl rfl rfl ?_)
  refine l_cons (o_p tbOk rfl rfl rfl ?_)
  refine l_nil ?_
  refine x_seq ?_
  refine c_seq ?_
  refine c_reg ?_
  refine l_cons (o_lds tbOk (fun j v hv => h3.cell j v hv) rfl rfl rfl rfl rfl rfl ?_)
  refine l_cons (o_p tbOk rfl rfl rfl ?_)
  refine l_cons (o_call fo17 rfl rfl rfl (at_spec t name _ _ _ ht hnm hlow hsz) ?_)
  rintro _ w5 ⟨rfl, ew5⟩
  replace hE := hE.trans (Below.mono ew5 hB)
  replace ht := Rep.ext ht ew5
  replace hk := hk.ext ew5
  replace h3 := h3.ext ew5
  replace hsl := hsl.ext ew5
  replace hlow := hlow.ext ew5
  replace hB := Nat.le_trans hB ew5.size
  refine l_cons (o_p tbOk rfl rfl rfl ?_)
  refine l_cons (o_p tbOk rfl rfl rfl ?_)
  refine l_cons (o_p tbOk rfl rfl rfl ?_)
  refine l_cons (o_new tbOk rfl rfl rfl ?_)
  intro b9 w6 qb9 ew6 hb9
  have nb9 := nM_of hlow qb9
  refine l_cons (o_st tbOk hb9 rfl rfl rfl rfl (by intro u hu; simp [Value.cells] at hu; rcases hu with rfl | rfl | rfl <;> rfl) rfl rfl ?_)
  intro w7 h9 uw7 bew7
  have ew7 : Ext w5 w7 := ew6.trans (bew7 _ (Nat.le_of_eq qb9.symm))
  replace hE := hE.trans (Below.mono ew7 hB)
  replace ht := Rep.ext ht ew7
  replace hk := hk.ext ew7
  replace h3 := h3.ext ew7
  replace hsl := hsl.ext ew7
  replace hlow := hlow.ext ew7
  replace hB := Nat.le_trans hB ew7.size
  replace h9 : Box w7 b9 23 [.int .i64 ((atF t name).1.base), .int .i64 ((atF t name).1.var), .string (atF t name).1.name] := h9
  replace h9 := h9.at nb9
  refine l_cons (o_p tbOk rfl rfl rfl ?_)
  refine l_nil ?_
  refine x_seq ?_
  refine c_seq ?_
  refine c_reg ?_
  refine l_cons (o_lds tbOk (fun j v hv => h3.cell j v hv) rfl rfl rfl rfl rfl rfl ?_)
  refine l_cons (o_p tbOk rfl rfl rfl ?_)
  refine l_cons (o_p tbOk rfl rfl rfl ?_)
  refine l_cons (o_call fo18 rfl rfl rfl (nth_spec t name n _ _ _ ht hnm hn hlow hsz) ?_)
  rintro _ w8 ⟨rfl, ew8⟩
  replace hE := hE.trans (Below.mono ew8 hB)
  replace ht := Rep.ext ht ew8
  replace hk := hk.ext ew8
  replace h3 := h3.ext ew8
  replace hsl := hsl.ext ew8
  replace h9 := h9.ext ew8
  replace hlow := hlow.ext ew8
  replace hB := Nat.le_trans hB ew8.size
  refine l_cons (o_p tbOk rfl rfl rfl ?_)
  refine l_cons (o_p tbOk rfl rfl rfl ?_)
  refine l_cons (o_p tbOk rfl rfl rfl ?_)
  refine l_cons (o_new tbOk rfl rfl rfl ?_)
  intro b11 w9 qb11 ew9 hb11
  have nb11 := nM_of hlow qb11
  refine l_cons (o_st tbOk hb11 rfl rfl rfl rfl (by intro u hu; simp [Value.cells] at hu; rcases hu with rfl | rfl | rfl <;> rfl) rfl rfl ?_)
  intro w10 h11 uw10 bew10
  have ew10 : Ext w8 w10 := ew9.trans (bew10 _ (Nat.le_of_eq qb11.symm))
  replace hE := hE.trans (Below.mono ew10 hB)
  replace ht := Rep.ext ht ew10
  replace hk := hk.ext ew10
  replace h3 := h3.ext ew10
  replace hsl := hsl.ext ew10
  replace h9 := h9.ext ew10
  replace hlow := hlow.ext ew10
  replace hB := Nat.le_trans hB ew10.size
  replace h11 : Box w10 b11 23 [.int .i64 ((nthF t name n).1.base), .int .i64 ((nthF t name n).1.var), .string (nthF t name n).1.name] := h11
  replace h11 := h11.at nb11
  refine l_cons (o_p tbOk rfl rfl rfl ?_)
  refine l_nil ?_
  refine x_seq ?_
  refine c_seq ?_
  refine c_reg ?_
  refine l_cons (o_lds tbOk (fun j v hv => h3.cell j v hv) rfl rfl rfl rfl rfl rfl ?_)
  refine l_cons (o_p tbOk rfl rfl rfl ?_)
  refine l_cons (o_p tbOk rfl rfl rfl ?_)
  refine l_cons (o_call fo19 rfl rfl rfl (refNth_spec t name n _ _ _ ht hnm hn hlow hsz) ?_)
  rintro _ w11 ⟨rfl, ew11⟩
  replace hE := hE.trans (Below.mono ew11 hB)
  replace ht := Rep.ext ht ew11
  replace hk := hk.ext ew11
  replace h3 := h3.ext ew11
  replace hsl := hsl.ext ew11
  replace h9 := h9.ext ew11
  replace h11 := h11.ext ew11
  replace hlow := hlow.ext ew11
  replace hB := Nat.le_trans hB ew11.size
  refine l_cons (o_p tbOk rfl rfl rfl ?_)
  refine l_cons (o_p tbOk rfl rfl rfl ?_)
  refine l_cons (o_p tbOk rfl rfl rfl ?_)
  refine l_cons (o_new tbOk rfl rfl rfl ?_)
  intro b13 w12 qb13 ew12 hb13
  have nb13 := nM_of hlow qb13
  refine l_cons (o_st tbOk hb13 rfl rfl rfl rfl (by intro u hu; simp [Value.cells] at hu; rcases hu with rfl | rfl | rfl <;> rfl) rfl rfl ?_)
  intro w13 h13 uw13 bew13
  have ew13 : Ext w11 w13 := ew12.trans (bew13 _ (Nat.le_of_eq qb13.symm))
  replace hE := hE.trans (Below.mono ew13 hB)
  replace ht := Rep.ext ht ew13
  replace hk := hk.ext ew13
  replace h3 := h3.ext ew13
  replace hsl := hsl.ext ew13
  replace h9 := h9.ext ew13
  replace h11 := h11.ext ew13
  replace hlow := hlow.ext ew13
  replace hB := Nat.le_trans hB ew13.size
  replace h13 : Box w13 b13 35 [.int .i64 ((nthF t name n).1.base), .int .i64 ((nthF t name n).1.var), .string (nthF t name n).1.name] := h13
  replace h13 := h13.at nb13
  refine l_cons (o_p tbOk rfl rfl rfl ?_)
  refine l_nil ?_
  refine x_seq ?_
  refine c_seq ?_
  refine c_seq ?_
  refine c_reg ?_
  refine l_cons (o_p tbOk rfl rfl rfl ?_)
  have hcode := nthF_code t name n
  refine l_cons (o_conv (y := (nthF t name n).2) tbOk rfl rfl rfl rfl rfl (IntWalk.i64_in _ (by omega)) rfl rfl ?_)
  refine l_cons (o_p tbOk rfl rfl rfl ?_)
  refine l_cons (o_p tbOk rfl rfl rfl ?_)
  refine l_cons (o_p tbOk rfl rfl rfl ?_)
  refine l_splitN 51 _ rfl (fun c3 => ?_) (fun c3 => ?_)
  · exact absurd rfl c3
  refine l_cons (o_lds tbOk (fun j v hv => h11.cell j v hv) rfl rfl rfl rfl rfl rfl ?_)
  refine l_cons (o_lds tbOk (fun j v hv => h13.cell j v hv) rfl rfl rfl rfl rfl rfl ?_)
  refine l_cons (o_nes (p := (⟨(nthF t name n).1.base, (nthF t name n).1.var, (nthF t name n).1.name⟩ : Pl) = ⟨(nthF t name n).1.base, (nthF t name n).1.var, (nthF t name n).1.name⟩) rfl rfl key35 guard35 (formed35 _ _ _) (formed35 _ _ _) (lits35 hpn.1 hpn.2.1 hpn.2.2) (lits35 hpn.1 hpn.2.1 hpn.2.2) pl_eq_iff rfl rfl ?_)
  refine l_cons (o_p tbOk rfl rfl rfl ?_)
  refine l_nil ?_
  refine x_seq ?_
  refine c_ifN _ rfl (fun c4 => ?_) (fun c4 => ?_)
  · exact absurd rfl c4
  refine c_skip ?_
  refine x_seq ?_
  refine c_seq ?_
  refine c_seq ?_
  refine c_reg ?_
  refine l_cons (o_lds tbOk (fun j v hv => h3.cell j v hv) rfl rfl rfl rfl rfl rfl ?_)
  refine l_cons (o_call fo20 rfl rfl rfl (refRow_spec t _ _ _ ht hlow hsz) ?_)
  rintro _ w14 ⟨rfl, ew14⟩
  replace hE := hE.trans (Below.mono ew14 hB)
  replace ht := Rep.ext ht ew14
  replace hk := hk.ext ew14
  replace h3 := h3.ext ew14
  replace hsl := hsl.ext ew14
  replace h9 := h9.ext ew14
  replace h11 := h11.ext ew14
  replace h13 := h13.ext ew14
  replace hlow := hlow.ext ew14
  replace hB := Nat.le_trans hB ew14.size
  refine l_cons (o_p tbOk rfl rfl rfl ?_)
  refine l_nil ?_
  refine x_seq ?_
  refine c_ifB _ rfl (fun crow => ?_) (fun crow => ?_)
  · have hg : (rowB t && isWordB name) = false := by rw [crow]; rfl
    have e1 : flatF t = ([], .mk 0 ⟨#[]⟩ 0 []) := by rw [flatF, crow]; rfl
    rw [e1] at hsl
    replace hsl : Sl M w14 sv ([] : List Slo) := hsl
    rw [crow]
    rw [atF_bad hg] at h9 ⊢
    replace h9 : At _ w14 b9 0 [.int .i64 0, .int .i64 0, .string ⟨#[]⟩] := h9
    refine c_seq ?_
    refine c_reg ?_
    refine l_cons (o_p tbOk rfl rfl rfl ?_)
    refine l_cons (o_conv (y := 1) tbOk rfl rfl rfl rfl rfl rfl rfl rfl ?_)
    refine l_cons (o_p tbOk rfl rfl rfl ?_)
    refine l_cons (o_p tbOk rfl rfl rfl ?_)
    refine l_cons (o_p tbOk rfl rfl rfl ?_)
    refine l_cons (o_len tbOk hsl rfl rfl rfl rfl rfl ?_)
    refine l_cons (o_p tbOk rfl rfl rfl ?_)
    refine l_cons (o_p tbOk rfl rfl rfl ?_)
    refine l_cons (o_p tbOk rfl rfl rfl ?_)
    refine l_splitP 67 _ rfl (fun c6 => ?_) (fun c6 => ?_)
    · refine l_cons (o_p tbOk rfl rfl rfl ?_)
      refine l_cons (o_conv (y := 1) tbOk rfl rfl rfl rfl rfl rfl rfl rfl ?_)
      refine l_cons (o_p tbOk rfl rfl rfl ?_)
      refine l_cons (o_p tbOk rfl rfl rfl ?_)
      refine l_cons (o_p tbOk rfl rfl rfl ?_)
      refine l_cons (o_lds tbOk (fun j v hv => h9.cell j v hv) rfl rfl rfl rfl rfl rfl ?_)
      refine l_cons (o_build (cells := [.int .i64 0, .int .i64 0, .string ⟨#[]⟩]) (css := []) bd23 rfl rfl rfl rfl rfl ?_)
      refine l_cons (o_eqs (p := (⟨0, 0, ⟨#[]⟩⟩ : Pl) = ⟨0, 0, ⟨#[]⟩⟩) rfl rfl key23 guard23 (formed23 _ _ _) (formed23 _ _ _) (lits23 ⟨by decide, by decide⟩ ⟨by decide, by decide⟩ (by decide)) (lits23 ⟨by decide, by decide⟩ ⟨by decide, by decide⟩ (by decide)) pl_eq_iff rfl rfl ?_)
      refine l_cons (o_p tbOk rfl rfl rfl ?_)
      refine l_cons (o_p tbOk rfl rfl rfl ?_)
      refine l_nil ?_
      refine x_seq ?_
      refine c_ret ?_
      refine x_seqR ?_
      refine x_ret1 rfl rfl ?_
      exact ⟨by simp, hE⟩
    exact absurd rfl c6
  have e1 : flatF t = (fieldsF (spineF t).1, (spineF t).2) := by rw [flatF, crow]; rfl
  have hsh : shapeF t 114 = true := by have h := crow; unfold rowB at h; rw [Bool.and_eq_true] at h; exact h.1
  rw [crow]
  refine c_skip ?_
  refine x_seq ?_
  refine c_seq ?_
  refine c_reg ?_
  refine l_cons (o_lds tbOk (fun j v hv => h3.cell j v hv) rfl rfl rfl rfl rfl rfl ?_)
  refine l_cons (o_call fo21 rfl rfl rfl (fields_spec t _ _ _ hsh ht hlow hsz) ?_)
  rintro _ w15 ⟨⟨xv2, tv2, rfl, hfi, hen⟩, ew15⟩
  rw [show fieldsF (spineF t).1 = (flatF t).1 by rw [e1]] at hfi
  rw [show (spineF t).2 = (flatF t).2 by rw [e1]] at hen
  replace hE := hE.trans (Below.mono ew15 hB)
  replace ht := Rep.ext ht ew15
  replace hk := hk.ext ew15
  replace h3 := h3.ext ew15
  replace hsl := hsl.ext ew15
  replace h9 := h9.ext ew15
  replace h11 := h11.ext ew15
  replace h13 := h13.ext ew15
  replace hlow := hlow.ext ew15
  replace hB := Nat.le_trans hB ew15.size
  obtain ⟨l, el⟩ : ∃ l, (flatF t).1 = l := ⟨_, rfl⟩
  rw [el] at hfi
  have hsr : Srt l := el ▸ flatF_srt t
  have hlen : l.length ≤ 2000000 := by have := flatF_len t; rw [el] at this; omega
  obtain ⟨kvn, rfl, opn, nmn, n64n, hkn⟩ := ty_open hen
  rw [el] at hsl
  refine l_cons (o_p tbOk rfl rfl rfl ?_)
  refine l_cons (o_p tbOk rfl rfl rfl ?_)
  refine l_cons (o_p tbOk rfl rfl rfl ?_)
  refine l_cons (o_new tbOk rfl rfl rfl ?_)
  intro b16 w16 qb16 ew16 hb16
  have nb16 := nM_of hlow qb16
  refine l_cons (o_p tbOk rfl rfl rfl ?_)
  refine l_cons (o_st tbOk hb16 rfl rfl rfl rfl (Rep.one hen) rfl rfl ?_)
  intro w17 h16 uw17 bew17
  have ew17 : Ext w15 w17 := ew16.trans (bew17 _ (Nat.le_of_eq qb16.symm))
  replace hE := hE.trans (Below.mono ew17 hB)
  replace ht := Rep.ext ht ew17
  replace hk := hk.ext ew17
  replace h3 := h3.ext ew17
  replace hsl := hsl.ext ew17
  replace h9 := h9.ext ew17
  replace h11 := h11.ext ew17
  replace h13 := h13.ext ew17
  replace hfi := hfi.ext ew17
  replace hen := Rep.ext hen ew17
  replace hkn := hkn.ext ew17
  replace hlow := hlow.ext ew17
  replace hB := Nat.le_trans hB ew17.size
  replace h16 : Box w17 b16 40 [.int .u8 (flatF t).2.op, .string (flatF t).2.name, .int .i64 (flatF t).2.n, kvn] := h16
  replace h16 := h16.at nb16
  refine l_nil ?_
  refine x_seq ?_
  refine c_seq ?_
  refine c_seq ?_
  refine c_reg ?_
  refine l_cons (o_p tbOk rfl rfl rfl ?_)
  refine l_cons (o_conv (y := 0) tbOk rfl rfl rfl rfl rfl rfl rfl rfl ?_)
  refine l_cons (o_p tbOk rfl rfl rfl ?_)
  refine l_cons (o_p tbOk rfl rfl rfl ?_)
  refine l_cons (o_p tbOk rfl rfl rfl ?_)
  refine l_cons (o_len tbOk hsl rfl rfl rfl rfl rfl ?_)
  refine l_cons (o_p tbOk rfl rfl rfl ?_)
  refine l_cons (o_len tbOk hfi rfl rfl rfl rfl rfl ?_)
  refine l_cons (o_p tbOk rfl rfl rfl ?_)
  refine l_cons (o_p tbOk rfl rfl rfl ?_)
  refine l_nil ?_
  refine x_seq ?_
  refine c_ifN _ rfl (fun c7 => ?_) (fun c7 => ?_)
  · exact absurd (by rw [slots_len]) c7
  refine c_skip ?_
  refine x_seq ?_
  refine c_seq ?_
  refine c_seq ?_
  refine c_reg ?_
  refine l_cons (o_p tbOk rfl rfl rfl ?_)
  refine l_nil ?_
  refine x_seq ?_
  refine c_blk ?_
  refine c_loop (X := Nat) (fun i => [(1, .string name), (3, .pointer (some ⟨b3, 0, none⟩)), (7, sv), (9, .pointer (some ⟨b9, 0, none⟩)), (10, .int .u8 (atF t name).2), (15, xv2), (17, .int .i64 (i : Nat))]) (fun i w' => i ≤ l.length ∧ At M w' b3 0 [.int .u8 t.op, .string t.name, .int .i64 t.n, kv] ∧ At M w' b9 0 [.int .i64 ((atF t name).1.base), .int .i64 ((atF t name).1.var), .string (atF t name).1.name] ∧ Sl M w' sv (slotsF l) ∧ Sl M w' xv2 l ∧ Sl M w' kv t.kids ∧ Rep.R M w' (.agg #[.int .u8 t.op, .string t.name, .int .i64 t.n, kv]) t ∧ Low M w' ∧ Below w.heap.size w w' ∧ w.heap.size ≤ w'.heap.size) (fun i => l.length - i) (0) (subL_cons rfl (subL_cons rfl (subL_cons rfl (subL_cons rfl (subL_cons rfl (subL_cons rfl (subL_cons rfl (subL_nil)))))))) ?_ ?_
  · exact ⟨Nat.zero_le _, h3, h9, hsl, hfi, hk, ht, hlow, hE, hB⟩
  rintro i w18 ⟨hi, h3, h9, hsl, hfi, hk, ht, hlow, hE, hB⟩
  refine c_seq ?_
  refine c_seq ?_
  refine c_reg ?_
  refine l_cons (o_p tbOk rfl rfl rfl ?_)
  refine l_cons (o_p tbOk rfl rfl rfl ?_)
  refine l_cons (o_len tbOk hsl rfl rfl rfl rfl rfl ?_)
  refine l_cons (o_p tbOk rfl rfl rfl ?_)
  refine l_nil ?_
  refine x_seq ?_
  refine c_ifP _ rfl (fun c8 => ?_) (fun c8 => ?_)
  · have hil : i < l.length := by omega
    refine c_skip ?_
    refine x_seq ?_
    refine c_seq ?_
    refine c_blk ?_
    refine c_seq ?_
    refine a_beg Ext rfl ?_
    intro w19 ew19
    replace hE := hE.trans (Below.mono ew19 hB)
    replace h3 := h3.ext ew19
    replace h9 := h9.ext ew19
    replace hsl := hsl.ext ew19
    replace hfi := hfi.ext ew19
    replace hk := hk.ext ew19
    replace ht := Rep.ext ht ew19
    replace hlow := hlow.ext ew19
    replace hB := Nat.le_trans hB ew19.size
    have hS : Ext w19 w19 := ext_refl _
    have D_h3 := h3
    have D_h9 := h9
    have D_hsl := hsl
    have D_hfi := hfi
    have D_hk := hk
    refine a_p 0 tbOk rfl rfl rfl rfl (by kernel_rfl) (fun _ _ _ h => h) hS ?_
    refine a_p 1 tbOk rfl rfl rfl rfl (by kernel_rfl) (fun _ _ _ h => h) hS ?_
    refine a_ixS 2 tbOk D_hsl (slots_get hil) rfl rfl rfl rfl rfl rfl rfl rfl rfl rfl (by kernel_rfl) (fun _ _ _ _ h => h) hS ?_
    intro ebs0 eos0 eus0 hrs0 hats0
    obtain ⟨rfl, szs0, sns0⟩ := hrs0
    replace hats0 : At _ w19 ebs0 eos0 [.string l[i].name, .int .i64 ((cntN (l.take i) l[i].name : Nat) : Int)] := hats0
    refine a_p 3 tbOk rfl rfl rfl rfl (by kernel_rfl) (fun _ _ _ h => h) hS ?_
    refine a_ld 4 tbOk (fun _ hs => (hats0.ext hs).cell 0 _ rfl) rfl rfl rfl rfl rfl rfl (by kernel_rfl) (fun _ _ _ h => h) hS ?_
    refine a_p 5 tbOk rfl rfl rfl rfl (by kernel_rfl) (fun _ _ _ h => h) hS ?_
    refine a_p 6 tbOk rfl rfl rfl rfl (by kernel_rfl) (fun _ _ _ h => h) hS ?_
    refine a_ixS 7 tbOk D_hfi (List.getElem?_eq_getElem hil) rfl rfl rfl rfl rfl rfl rfl rfl rfl rfl (by kernel_rfl) (fun _ _ _ _ h => h) hS ?_
    intro ebq1 eoq1 euq1 hrq1 hatq1
    obtain ⟨szq1, kvq1, rfl, hyq1⟩ := fld_open hrq1
    replace hatq1 : At _ w19 ebq1 eoq1 [.string l[i].name, .int .u8 l[i].ty.op, .string l[i].ty.name, .int .i64 l[i].ty.n, kvq1] := hatq1
    refine a_p 8 tbOk rfl rfl rfl rfl (by kernel_rfl) (fun _ _ _ h => h) hS ?_
    refine a_ld 9 tbOk (fun _ hs => (hatq1.ext hs).cell 0 _ rfl) rfl rfl rfl rfl rfl rfl (by kernel_rfl) (fun _ _ _ h => h) hS ?_
    refine a_p 10 tbOk rfl rfl rfl rfl (by kernel_rfl) (fun _ _ _ h => h) hS ?_
    refine a_p 11 tbOk rfl rfl rfl rfl (by kernel_rfl) (fun _ _ _ h => h) hS ?_
    refine a_splitN 109 _ rfl (fun c9 => ?_) (fun c9 => ?_)
    · exact absurd rfl c9
    refine a_p 12 tbOk rfl rfl rfl rfl (by kernel_rfl) (fun _ _ _ h => h) hS ?_
    refine a_p 13 tbOk rfl rfl rfl rfl (by kernel_rfl) (fun _ _ _ h => h) hS ?_
    refine a_ixS 14 tbOk D_hsl (slots_get hil) rfl rfl rfl rfl rfl rfl rfl rfl rfl rfl (by kernel_rfl) (fun _ _ _ _ h => h) hS ?_
    intro ebs2 eos2 eus2 hrs2 hats2
    obtain ⟨rfl, szs2, sns2⟩ := hrs2
    replace hats2 : At _ w19 ebs2 eos2 [.string l[i].name, .int .i64 ((cntN (l.take i) l[i].name : Nat) : Int)] := hats2
    refine a_p 15 tbOk rfl rfl rfl rfl (by kernel_rfl) (fun _ _ _ h => h) hS ?_
    refine a_ld 16 tbOk (fun _ hs => (hats2.ext hs).cell 1 _ rfl) rfl rfl rfl rfl rfl rfl (by kernel_rfl) (fun _ _ _ h => h) hS ?_
    refine a_p 17 tbOk rfl rfl rfl rfl (by kernel_rfl) (fun _ _ _ h => h) hS ?_
    refine a_p 18 tbOk rfl rfl rfl rfl (by kernel_rfl) (fun _ _ _ h => h) hS ?_
    refine a_p 20 tbOk rfl rfl rfl rfl (by kernel_rfl) (fun _ _ _ h => h) hS ?_
    refine a_p 21 tbOk rfl rfl rfl rfl (by kernel_rfl) (fun _ _ _ h => h) hS ?_
    refine a_ixS 22 tbOk D_hfi (List.getElem?_eq_getElem hil) rfl rfl rfl rfl rfl rfl rfl rfl rfl rfl (by kernel_rfl) (fun _ _ _ _ h => h) hS ?_
    intro ebq3 eoq3 euq3 hrq3 hatq3
    obtain ⟨szq3, kvq3, rfl, hyq3⟩ := fld_open hrq3
    replace hatq3 : At _ w19 ebq3 eoq3 [.string l[i].name, .int .u8 l[i].ty.op, .string l[i].ty.name, .int .i64 l[i].ty.n, kvq3] := hatq3
    refine a_p 23 tbOk rfl rfl rfl rfl (by kernel_rfl) (fun _ _ _ h => h) hS ?_
    refine a_ld 24 tbOk (fun _ hs => (hatq3.ext hs).cell 0 _ rfl) rfl rfl rfl rfl rfl rfl (by kernel_rfl) (fun _ _ _ h => h) hS ?_
    refine a_one 19 rfl (by kernel_rfl) (o_slh (j := i) tbOk hfi rfl rfl rfl hi rfl rfl rfl rfl rfl ?_)
    intro tv htk
    refine ⟨hS, ?_⟩
    refine a_one 25 rfl (by kernel_rfl) (o_call fo22 rfl rfl rfl (count_spec (l.take i) l[i].name _ _ _ htk hlow) ?_)
    rintro _ w20 ⟨rfl, ew20⟩
    replace hS := hS.then ew20
    replace hE := hE.trans (Below.mono ew20 hB)
    replace h3 := h3.ext ew20
    replace h9 := h9.ext ew20
    replace hsl := hsl.ext ew20
    replace hfi := hfi.ext ew20
    replace hk := hk.ext ew20
    replace ht := Rep.ext ht ew20
    replace hats0 := hats0.ext ew20
    replace hrq1 := Rep.ext hrq1 ew20
    replace hyq1 := Rep.ext hyq1 ew20
    replace hatq1 := hatq1.ext ew20
    replace hats2 := hats2.ext ew20
    replace hrq3 := Rep.ext hrq3 ew20
    replace hyq3 := Rep.ext hyq3 ew20
    replace hatq3 := hatq3.ext ew20
    replace htk := htk.ext ew20
    replace hlow := hlow.ext ew20
    replace hB := Nat.le_trans hB ew20.size
    refine ⟨hS, ?_⟩
    refine a_p 26 tbOk rfl rfl rfl rfl (by kernel_rfl) (fun _ _ _ h => h) hS ?_
    refine a_p 27 tbOk rfl rfl rfl rfl (by kernel_rfl) (fun _ _ _ h => h) hS ?_
    refine a_end (by kernel_rfl) ?_
    refine x_seq ?_
    refine c_ifN _ rfl (fun c10 => ?_) (fun c10 => ?_)
    · exact absurd rfl c10
    refine c_skip ?_
    refine x_blk ?_
    refine x_seq ?_
    refine c_reg ?_
    refine l_cons (o_p tbOk rfl rfl rfl ?_)
    refine l_cons (o_ar rfl rfl rfl (IntWalk.i64_in _ (by omega)) rfl rfl ?_)
    refine l_cons (o_p tbOk rfl rfl rfl ?_)
    refine l_nil ?_
    exact x_round (i + 1) (subL_cons rfl (subL_cons rfl (subL_cons rfl (subL_cons rfl (subL_cons rfl (subL_cons rfl (subL_cons (get_num rfl (by omega)) (subL_nil)))))))) ⟨by omega, h3, h9, hsl, hfi, hk, ht, hlow, hE, hB⟩ (by omega)
  refine c_exit ?_
  refine x_seqE ?_
  refine x_seqE ?_
  refine x_blkE ?_
  refine x_seq ?_
  refine c_seq ?_
  refine c_seq ?_
  refine c_reg ?_
  refine l_cons (o_p tbOk rfl rfl rfl ?_)
  refine l_cons (o_call fo23 rfl rfl rfl (risWord_spec _ _ name hnm hlow) ?_)
  rintro _ w21 ⟨rfl, ew21⟩
  replace hE := hE.trans (Below.mono ew21 hB)
  replace h3 := h3.ext ew21
  replace h9 := h9.ext ew21
  replace hsl := hsl.ext ew21
  replace hfi := hfi.ext ew21
  replace hk := hk.ext ew21
  replace ht := Rep.ext ht ew21
  replace hlow := hlow.ext ew21
  replace hB := Nat.le_trans hB ew21.size
  refine l_cons (o_p tbOk rfl rfl rfl ?_)
  refine l_nil ?_
  refine x_seq ?_
  refine c_ifB _ rfl (fun cwd => ?_) (fun cwd => ?_)
  · have hg : (rowB t && isWordB name) = false := by rw [crow, cwd]; rfl
    rw [atF_bad hg] at h9 ⊢
    replace h9 : At _ w21 b9 0 [.int .i64 0, .int .i64 0, .string ⟨#[]⟩] := h9
    refine c_seq ?_
    refine c_reg ?_
    refine l_cons (o_p tbOk rfl rfl rfl ?_)
    refine l_cons (o_conv (y := 1) tbOk rfl rfl rfl rfl rfl rfl rfl rfl ?_)
    refine l_cons (o_p tbOk rfl rfl rfl ?_)
    refine l_cons (o_p tbOk rfl rfl rfl ?_)
    refine l_cons (o_lds tbOk (fun j v hv => h9.cell j v hv) rfl rfl rfl rfl rfl rfl ?_)
    refine l_cons (o_build (cells := [.int .i64 0, .int .i64 0, .string ⟨#[]⟩]) (css := []) bd23 rfl rfl rfl rfl rfl ?_)
    refine l_cons (o_eqs (p := (⟨0, 0, ⟨#[]⟩⟩ : Pl) = ⟨0, 0, ⟨#[]⟩⟩) rfl rfl key23 guard23 (formed23 _ _ _) (formed23 _ _ _) (lits23 ⟨by decide, by decide⟩ ⟨by decide, by decide⟩ (by decide)) (lits23 ⟨by decide, by decide⟩ ⟨by decide, by decide⟩ (by decide)) pl_eq_iff rfl rfl ?_)
    refine l_cons (o_p tbOk rfl rfl rfl ?_)
    refine l_cons (o_p tbOk rfl rfl rfl ?_)
    refine l_nil ?_
    refine x_seq ?_
    refine c_ret ?_
    refine x_seqR ?_
    refine x_ret1 rfl rfl ?_
    exact ⟨by simp, hE⟩
  have hg : (rowB t && isWordB name) = true := by rw [crow, cwd]; rfl
  rw [atF_good hg] at h9 ⊢
  replace h9 : At _ w21 b9 0 [.int .i64 ((atP (flatF t).1 (flatF t).2 name).base), .int .i64 ((atP (flatF t).1 (flatF t).2 name).var), .string (atP (flatF t).1 (flatF t).2 name).name] := h9
  refine c_skip ?_
  refine x_seq ?_
  refine c_seq ?_
  refine a_beg Ext rfl ?_
  intro w22 ew22
  replace hE := hE.trans (Below.mono ew22 hB)
  replace h3 := h3.ext ew22
  replace h9 := h9.ext ew22
  replace hsl := hsl.ext ew22
  replace hfi := hfi.ext ew22
  replace hk := hk.ext ew22
  replace ht := Rep.ext ht ew22
  replace hlow := hlow.ext ew22
  replace hB := Nat.le_trans hB ew22.size
  have hS : Ext w22 w22 := ext_refl _
  have D_h3 := h3
  have D_h9 := h9
  have D_hsl := hsl
  have D_hfi := hfi
  have D_hk := hk
  refine a_p 0 tbOk rfl rfl rfl rfl (by kernel_rfl) (fun _ _ _ h => h) hS ?_
  refine a_bar 1 rfl (by kernel_rfl) (by kernel_rfl) (o_conv (y := 0) tbOk rfl rfl rfl rfl rfl rfl rfl rfl ?_)
  refine a_p 2 tbOk rfl rfl rfl rfl (by kernel_rfl) (fun _ _ _ h => h) hS ?_
  refine a_p 3 tbOk rfl rfl rfl rfl (by kernel_rfl) (fun _ _ _ h => h) hS ?_
  refine a_lds 4 tbOk (fun _ hs j v hv => (D_h9.ext hs).cell j v hv) rfl rfl rfl rfl rfl rfl rfl (by kernel_rfl) (fun _ _ _ h => h) hS ?_
  refine a_lds 5 tbOk (fun _ hs j v hv => (D_h3.ext hs).cell j v hv) rfl rfl rfl rfl rfl rfl rfl (by kernel_rfl) (fun _ _ _ h => h) hS ?_
  refine a_p 6 tbOk rfl rfl rfl rfl (by kernel_rfl) (fun _ _ _ h => h) hS ?_
  refine a_one 7 rfl (by kernel_rfl) (o_call fo24 rfl rfl rfl (refAt_spec t name _ _ _ crow ht hnm hlow hsz) ?_)
  rintro _ w23 ⟨rfl, ew23⟩
  replace hS := hS.then ew23
  replace hE := hE.trans (Below.mono ew23 hB)
  replace h3 := h3.ext ew23
  replace h9 := h9.ext ew23
  replace hsl := hsl.ext ew23
  replace hfi := hfi.ext ew23
  replace hk := hk.ext ew23
  replace ht := Rep.ext ht ew23
  replace hlow := hlow.ext ew23
  replace hB := Nat.le_trans hB ew23.size
  refine ⟨hS, ?_⟩
  refine a_bar 8 rfl (by kernel_rfl) (by kernel_rfl) (o_eqs (p := (⟨(atP (flatF t).1 (flatF t).2 name).base, (atP (flatF t).1 (flatF t).2 name).var, (atP (flatF t).1 (flatF t).2 name).name⟩ : Pl) = ⟨(atP (flatF t).1 (flatF t).2 name).base, (atP (flatF t).1 (flatF t).2 name).var, (atP (flatF t).1 (flatF t).2 name).name⟩) rfl rfl key35 guard35 (formed35 _ _ _) (formed35 _ _ _) (lits35 hpa.1 hpa.2.1 hpa.2.2) (lits35 hpa.1 hpa.2.1 hpa.2.2) pl_eq_iff rfl rfl ?_)
  refine a_p 9 tbOk rfl rfl rfl rfl (by kernel_rfl) (fun _ _ _ h => h) hS ?_
  refine a_p 10 tbOk rfl rfl rfl rfl (by kernel_rfl) (fun _ _ _ h => h) hS ?_
  refine a_end (by kernel_rfl) ?_
  refine x_seq ?_
  refine c_ret ?_
  refine x_ret1 rfl rfl ?_
  exact ⟨by simp, hE⟩

end Go.Proofs.Ytohfnpmehgpphaa
