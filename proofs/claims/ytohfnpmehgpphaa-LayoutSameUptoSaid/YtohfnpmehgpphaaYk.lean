/- Walks: the law LayoutSame. Printed by wip/walks/layout8.py. -/
import Derived.Test.YtohfnpmehgpphaaYj
namespace Go.Proofs.Ytohfnpmehgpphaa
open Go Rw Go.RowKit
set_option maxRecDepth 100000

/-- LayoutSame: true. -/
theorem layoutSame_spec (t s : Ty) (n : Int) (name : ByteArray) (M : Nat → Prop) (w : World) (v u : Value) (ht : Rep.R M w v t) (hs : Rep.R M w u s) (hn : I64 n) (hnm : name.size < 140737488355328) (hz : psz t ≤ 2000000) (hzs : psz s ≤ 2000000) (hlow0 : Low M w) :
    Calls Try.prog 6 #[v, u, .int .i64 n, .string name] w (Ret fun r w' => r = .bool true ∧ Ext w w') := by
  have ht64 := flat_n64 (spine_n64 t v ht)
  have hs64 := flat_n64 (spine_n64 s u hs)
  have hlow := hlow0
  have hB : w.heap.size ≤ w.heap.size := Nat.le_refl _
  have hE : Below w.heap.size w w := Below.refl _ _
  have hsub : ∀ b, M b → M b := fun _ h => h
  obtain ⟨kv, rfl, op, nm, n64, hk⟩ := ty_open ht
  obtain ⟨kvs, rfl, ops, nms, n64s, hks⟩ := ty_open hs
  refine c_enter (n := 189) Try.func6 rfl rfl rfl ?_
  refine c_seq ?_
  refine c_reg ?_
  refine l_cons (o_box rfl rfl rfl ?_)
  intro b4 w1 hb_b4 ew1 h4
  replace h4 : Box _ b4 40 [.int .u8 t.op, .string t.name, .int .i64 t.n, kv] := h4
  replace h4 := h4.at (nM_of hlow hb_b4)
  replace hE := hE.trans (Below.mono ew1 hB)
  replace ht := Rep.ext ht ew1
  replace hk := hk.ext ew1
  replace hs := Rep.ext hs ew1
  replace hks := hks.ext ew1
  replace hlow := hlow.ext ew1
  replace hB := Nat.le_trans hB ew1.size
  refine l_cons (o_box rfl rfl rfl ?_)
  intro b5 w2 hb_b5 ew2 h5
  replace h5 : Box _ b5 40 [.int .u8 s.op, .string s.name, .int .i64 s.n, kvs] := h5
  replace h5 := h5.at (nM_of hlow hb_b5)
  replace hE := hE.trans (Below.mono ew2 hB)
  replace ht := Rep.ext ht ew2
  replace hk := hk.ext ew2
  replace hs := Rep.ext hs ew2
  replace hks := hks.ext ew2
  replace h4 := h4.ext ew2
  replace hlow := hlow.ext ew2
  replace hB := Nat.le_trans hB ew2.size
  refine l_cons (o_p tbOk rfl rfl rfl ?_)
  refine l_nil ?_
  refine x_seq ?_
  refine c_seq ?_
  refine c_seq ?_
  refine c_reg ?_
  refine l_cons (o_call fo12 rfl rfl rfl (alive_spec M _ hlow) ?_)
  rintro _ w3 ⟨rfl, ew3⟩
  replace hE := hE.trans (Below.mono ew3 hB)
  replace ht := Rep.ext ht ew3
  replace hk := hk.ext ew3
  replace hs := Rep.ext hs ew3
  replace hks := hks.ext ew3
  replace h4 := h4.ext ew3
  replace h5 := h5.ext ew3
  replace hlow := hlow.ext ew3
  replace hB := Nat.le_trans hB ew3.size
  refine l_cons (o_p tbOk rfl rfl rfl ?_)
  refine l_nil ?_
  refine x_seq ?_
  refine c_ifB _ rfl (fun c1 => ?_) (fun c1 => ?_)
  · exact absurd c1 (by simp)
  refine c_skip ?_
  refine x_seq ?_
  refine c_seq ?_
  refine c_seq ?_
  refine c_reg ?_
  refine l_cons (o_lds tbOk (fun j v hv => h4.cell j v hv) rfl rfl rfl rfl rfl rfl ?_)
  refine l_cons (o_call fo15 rfl rfl rfl (many18_spec t _ _ _ ht hlow hz) ?_)
  rintro _ w4 ⟨rfl, ew4⟩
  replace hE := hE.trans (Below.mono ew4 hB)
  replace ht := Rep.ext ht ew4
  replace hk := hk.ext ew4
  replace hs := Rep.ext hs ew4
  replace hks := hks.ext ew4
  replace h4 := h4.ext ew4
  replace h5 := h5.ext ew4
  replace hlow := hlow.ext ew4
  replace hB := Nat.le_trans hB ew4.size
  refine l_cons (o_p tbOk rfl rfl rfl ?_)
  refine l_split 31 _ rfl (fun hmt => ?_) (fun hmt => ?_)
  · refine l_cons (o_skip rfl rfl ?_)
    refine l_cons (o_skip rfl rfl ?_)
    refine l_cons (o_p tbOk rfl rfl rfl ?_)
    refine l_cons (o_p tbOk rfl rfl rfl ?_)
    refine l_cons (o_skip rfl rfl ?_)
    refine l_cons (o_skip rfl rfl ?_)
    refine l_cons (o_skip rfl rfl ?_)
    refine l_cons (o_p tbOk rfl rfl rfl ?_)
    refine l_cons (o_p tbOk rfl rfl rfl ?_)
    refine l_cons (o_skip rfl rfl ?_)
    refine l_cons (o_skip rfl rfl ?_)
    refine l_cons (o_skip rfl rfl ?_)
    refine l_cons (o_p tbOk rfl rfl rfl ?_)
    refine l_cons (o_p tbOk rfl rfl rfl ?_)
    refine l_cons (o_skip rfl rfl ?_)
    refine l_cons (o_skip rfl rfl ?_)
    refine l_cons (o_skip rfl rfl ?_)
    refine l_cons (o_p tbOk rfl rfl rfl ?_)
    refine l_cons (o_p tbOk rfl rfl rfl ?_)
    refine l_cons (o_skip rfl rfl ?_)
    refine l_cons (o_skip rfl rfl ?_)
    refine l_cons (o_p tbOk rfl rfl rfl ?_)
    refine l_nil ?_
    refine x_seq ?_
    refine c_ifT rfl ?_
    refine c_seq ?_
    refine c_reg ?_
    refine l_cons (o_p tbOk rfl rfl rfl ?_)
    refine l_nil ?_
    refine x_seq ?_
    refine c_ret ?_
    refine x_seqR ?_
    refine x_ret1 rfl rfl ?_
    exact ⟨by simp, hE⟩
  refine l_cons (o_lds tbOk (fun j v hv => h5.cell j v hv) rfl rfl rfl rfl rfl rfl ?_)
  refine l_cons (o_call fo15 rfl rfl rfl (many18_spec s _ _ _ hs hlow hzs) ?_)
  rintro _ w5 ⟨rfl, ew5⟩
  replace hE := hE.trans (Below.mono ew5 hB)
  replace ht := Rep.ext ht ew5
  replace hk := hk.ext ew5
  replace hs := Rep.ext hs ew5
  replace hks := hks.ext ew5
  replace h4 := h4.ext ew5
  replace h5 := h5.ext ew5
  replace hlow := hlow.ext ew5
  replace hB := Nat.le_trans hB ew5.size
  refine l_cons (o_p tbOk rfl rfl rfl ?_)
  refine l_cons (o_p tbOk rfl rfl rfl ?_)
  refine l_split 35 _ rfl (fun hms => ?_) (fun hms => ?_)
  · refine l_cons (o_skip rfl rfl ?_)
    refine l_cons (o_skip rfl rfl ?_)
    refine l_cons (o_skip rfl rfl ?_)
    refine l_cons (o_p tbOk rfl rfl rfl ?_)
    refine l_cons (o_p tbOk rfl rfl rfl ?_)
    refine l_cons (o_skip rfl rfl ?_)
    refine l_cons (o_skip rfl rfl ?_)
    refine l_cons (o_skip rfl rfl ?_)
    refine l_cons (o_p tbOk rfl rfl rfl ?_)
    refine l_cons (o_p tbOk rfl rfl rfl ?_)
    refine l_cons (o_skip rfl rfl ?_)
    refine l_cons (o_skip rfl rfl ?_)
    refine l_cons (o_skip rfl rfl ?_)
    refine l_cons (o_p tbOk rfl rfl rfl ?_)
    refine l_cons (o_p tbOk rfl rfl rfl ?_)
    refine l_cons (o_skip rfl rfl ?_)
    refine l_cons (o_skip rfl rfl ?_)
    refine l_cons (o_p tbOk rfl rfl rfl ?_)
    refine l_nil ?_
    refine x_seq ?_
    refine c_ifT rfl ?_
    refine c_seq ?_
    refine c_reg ?_
    refine l_cons (o_p tbOk rfl rfl rfl ?_)
    refine l_nil ?_
    refine x_seq ?_
    refine c_ret ?_
    refine x_seqR ?_
    refine x_ret1 rfl rfl ?_
    exact ⟨by simp, hE⟩
  refine l_cons (o_lds tbOk (fun j v hv => h4.cell j v hv) rfl rfl rfl rfl rfl rfl ?_)
  refine l_cons (o_call fo20 rfl rfl rfl (refRow_spec t _ _ _ ht hlow hz) ?_)
  rintro _ w6 ⟨rfl, ew6⟩
  replace hE := hE.trans (Below.mono ew6 hB)
  replace ht := Rep.ext ht ew6
  replace hk := hk.ext ew6
  replace hs := Rep.ext hs ew6
  replace hks := hks.ext ew6
  replace h4 := h4.ext ew6
  replace h5 := h5.ext ew6
  replace hlow := hlow.ext ew6
  replace hB := Nat.le_trans hB ew6.size
  refine l_cons (o_p tbOk rfl rfl rfl ?_)
  refine l_cons (o_p tbOk rfl rfl rfl ?_)
  refine l_cons (o_p tbOk rfl rfl rfl ?_)
  refine l_splitB 40 _ rfl (fun hrt => ?_) (fun hrt => ?_)
  · refine l_cons (o_skip rfl rfl ?_)
    refine l_cons (o_skip rfl rfl ?_)
    refine l_cons (o_skip rfl rfl ?_)
    refine l_cons (o_p tbOk rfl rfl rfl ?_)
    refine l_cons (o_p tbOk rfl rfl rfl ?_)
    refine l_cons (o_skip rfl rfl ?_)
    refine l_cons (o_skip rfl rfl ?_)
    refine l_cons (o_skip rfl rfl ?_)
    refine l_cons (o_p tbOk rfl rfl rfl ?_)
    refine l_cons (o_p tbOk rfl rfl rfl ?_)
    refine l_cons (o_skip rfl rfl ?_)
    refine l_cons (o_skip rfl rfl ?_)
    refine l_cons (o_p tbOk rfl rfl rfl ?_)
    refine l_nil ?_
    refine x_seq ?_
    refine c_ifT rfl ?_
    refine c_seq ?_
    refine c_reg ?_
    refine l_cons (o_p tbOk rfl rfl rfl ?_)
    refine l_nil ?_
    refine x_seq ?_
    refine c_ret ?_
    refine x_seqR ?_
    refine x_ret1 rfl rfl ?_
    exact ⟨by simp, hE⟩
  refine l_cons (o_lds tbOk (fun j v hv => h5.cell j v hv) rfl rfl rfl rfl rfl rfl ?_)
  refine l_cons (o_call fo20 rfl rfl rfl (refRow_spec s _ _ _ hs hlow hzs) ?_)
  rintro _ w7 ⟨rfl, ew7⟩
  replace hE := hE.trans (Below.mono ew7 hB)
  replace ht := Rep.ext ht ew7
  replace hk := hk.ext ew7
  replace hs := Rep.ext hs ew7
  replace hks := hks.ext ew7
  replace h4 := h4.ext ew7
  replace h5 := h5.ext ew7
  replace hlow := hlow.ext ew7
  replace hB := Nat.le_trans hB ew7.size
  refine l_cons (o_p tbOk rfl rfl rfl ?_)
  refine l_cons (o_p tbOk rfl rfl rfl ?_)
  refine l_cons (o_p tbOk rfl rfl rfl ?_)
  refine l_splitB 45 _ rfl (fun hrs => ?_) (fun hrs => ?_)
  · refine l_cons (o_skip rfl rfl ?_)
    refine l_cons (o_skip rfl rfl ?_)
    refine l_cons (o_skip rfl rfl ?_)
    refine l_cons (o_p tbOk rfl rfl rfl ?_)
    refine l_cons (o_p tbOk rfl rfl rfl ?_)
    refine l_cons (o_skip rfl rfl ?_)
    refine l_cons (o_skip rfl rfl ?_)
    refine l_cons (o_p tbOk rfl rfl rfl ?_)
    refine l_nil ?_
    refine x_seq ?_
    refine c_ifT rfl ?_
    refine c_seq ?_
    refine c_reg ?_
    refine l_cons (o_p tbOk rfl rfl rfl ?_)
    refine l_nil ?_
    refine x_seq ?_
    refine c_ret ?_
    refine x_seqR ?_
    refine x_ret1 rfl rfl ?_
    exact ⟨by simp, hE⟩
  refine l_cons (o_p tbOk rfl rfl rfl ?_)
  refine l_cons (o_call fo23 rfl rfl rfl (risWord_spec _ _ name hnm hlow) ?_)
  rintro _ w8 ⟨rfl, ew8⟩
  replace hE := hE.trans (Below.mono ew8 hB)
  replace ht := Rep.ext ht ew8
  replace hk := hk.ext ew8
  replace hs := Rep.ext hs ew8
  replace hks := hks.ext ew8
  replace h4 := h4.ext ew8
  replace h5 := h5.ext ew8
  replace hlow := hlow.ext ew8
  replace hB := Nat.le_trans hB ew8.size
  refine l_cons (o_p tbOk rfl rfl rfl ?_)
  refine l_cons (o_p tbOk rfl rfl rfl ?_)
  refine l_cons (o_p tbOk rfl rfl rfl ?_)
  refine l_splitB 50 _ rfl (fun hwd => ?_) (fun hwd => ?_)
  · refine l_cons (o_skip rfl rfl ?_)
    refine l_cons (o_skip rfl rfl ?_)
    refine l_cons (o_p tbOk rfl rfl rfl ?_)
    refine l_nil ?_
    refine x_seq ?_
    refine c_ifT rfl ?_
    refine c_seq ?_
    refine c_reg ?_
    refine l_cons (o_p tbOk rfl rfl rfl ?_)
    refine l_nil ?_
    refine x_seq ?_
    refine c_ret ?_
    refine x_seqR ?_
    refine x_ret1 rfl rfl ?_
    exact ⟨by simp, hE⟩
  refine l_cons (o_p tbOk rfl rfl rfl ?_)
  refine l_cons (o_p tbOk rfl rfl rfl ?_)
  refine l_cons (o_p tbOk rfl rfl rfl ?_)
  refine l_nil ?_
  refine x_seq ?_
  refine c_ifP _ rfl (fun hn0 => ?_) (fun hn0 => ?_)
  · refine c_seq ?_
    refine c_reg ?_
    refine l_cons (o_p tbOk rfl rfl rfl ?_)
    refine l_nil ?_
    refine x_seq ?_
    refine c_ret ?_
    refine x_seqR ?_
    refine x_ret1 rfl rfl ?_
    exact ⟨by simp, hE⟩
  replace hmt := of_decide_eq_false hmt
  replace hms := of_decide_eq_false hms
  have hps := Nat.mul_le_mul (show psz t ≤ 300 by omega) (show psz s ≤ 300 by omega)
  have hgt : (rowB t && isWordB name) = true := by rw [hrt, hwd]; rfl
  have hgs : (rowB s && isWordB name) = true := by rw [hrs, hwd]; rfl
  refine c_skip ?_
  refine x_seq ?_
  refine c_seq ?_
  refine c_reg ?_
  refine l_cons (o_lds tbOk (fun j v hv => h4.cell j v hv) rfl rfl rfl rfl rfl rfl ?_)
  refine l_cons (o_p tbOk rfl rfl rfl ?_)
  refine l_cons (o_lds tbOk (fun j v hv => h5.cell j v hv) rfl rfl rfl rfl rfl rfl ?_)
  refine l_cons (o_build (cells := [.int .i64 n, .int .u8 s.op, .string s.name, .int .i64 s.n, kvs]) (css := [[.int .i64 n], [.int .u8 s.op, .string s.name, .int .i64 s.n, kvs]]) bd70 rfl rfl rfl rfl rfl ?_)
  refine l_cons (o_bs tbOk rfl rfl rfl rfl rfl rfl rfl (sz1 rfl) rfl rfl rfl ?_)
  intro bl0 w9 qbl0 ew9 hbl0
  have nbl0 := nM_of hlow qbl0
  replace hE := hE.trans (Below.mono ew9 hB)
  replace ht := Rep.ext ht ew9
  replace hk := hk.ext ew9
  replace hs := Rep.ext hs ew9
  replace hks := hks.ext ew9
  replace h4 := h4.ext ew9
  replace h5 := h5.ext ew9
  replace hlow := hlow.ext ew9
  replace hB := Nat.le_trans hB ew9.size
  have hslbl0 : Sl M w9 (.slice (some ⟨bl0, 0, none⟩) 1 1) [(⟨n, s⟩ : Bnd)] := lit_sl hbl0 nbl0 (show Rs _ _ [_] [(⟨n, s⟩ : Bnd)] from ⟨(show Rep.R _ _ _ (⟨n, s⟩ : Bnd) from bnd_mk hn hs), trivial⟩) (by simp)
  refine l_cons (o_call fo26 rfl rfl rfl (apply_spec t s n _ _ _ _ hrt hrs ht hslbl0 hlow hz hzs (by omega)) ?_)
  rintro vW w10 ⟨hW, ew10⟩
  obtain ⟨W, eW⟩ : ∃ W, canonF (putF n s t) = W := ⟨_, rfl⟩
  have hzW : psz W ≤ 2000000 := by rw [← eW, psz_canon _ _ (Nat.le_refl _)]; exact Nat.le_trans (psz_put t) (by omega)
  rw [eW] at hW
  replace hE := hE.trans (Below.mono ew10 hB)
  replace ht := Rep.ext ht ew10
  replace hk := hk.ext ew10
  replace hs := Rep.ext hs ew10
  replace hks := hks.ext ew10
  replace h4 := h4.ext ew10
  replace h5 := h5.ext ew10
  replace hslbl0 := hslbl0.ext ew10
  replace hlow := hlow.ext ew10
  replace hB := Nat.le_trans hB ew10.size
  obtain ⟨kvW, rfl, opW, nmW, n64W, hkW⟩ := ty_open hW
  refine l_cons (o_new tbOk rfl rfl rfl ?_)
  intro b9 w11 qb9 ew11 hb9
  have nb9 := nM_of hlow qb9
  refine l_cons (o_st tbOk hb9 rfl rfl rfl rfl (Rep.one hW) rfl rfl ?_)
  intro w12 h9 uw12 bew12
  have ew12 : Ext w10 w12 := ew11.trans (bew12 _ (Nat.le_of_eq qb9.symm))
  replace hE := hE.trans (Below.mono ew12 hB)
  replace ht := Rep.ext ht ew12
  replace hk := hk.ext ew12
  replace hs := Rep.ext hs ew12
  replace hks := hks.ext ew12
  replace h4 := h4.ext ew12
  replace h5 := h5.ext ew12
  replace hslbl0 := hslbl0.ext ew12
  replace hW := Rep.ext hW ew12
  replace hkW := hkW.ext ew12
  replace hlow := hlow.ext ew12
  replace hB := Nat.le_trans hB ew12.size
  replace h9 : Box w12 b9 40 [.int .u8 W.op, .string W.name, .int .i64 W.n, kvW] := h9
  replace h9 := h9.at nb9
  refine l_nil ?_
  refine x_seq ?_
  refine c_seq ?_
  refine c_seq ?_
  refine c_reg ?_
  refine l_cons (o_lds tbOk (fun j v hv => h9.cell j v hv) rfl rfl rfl rfl rfl rfl ?_)
  refine l_cons (o_call fo20 rfl rfl rfl (refRow_spec W _ _ _ hW hlow hzW) ?_)
  rintro _ w13 ⟨rfl, ew13⟩
  replace hE := hE.trans (Below.mono ew13 hB)
  replace ht := Rep.ext ht ew13
  replace hk := hk.ext ew13
  replace hs := Rep.ext hs ew13
  replace hks := hks.ext ew13
  replace h4 := h4.ext ew13
  replace h5 := h5.ext ew13
  replace hslbl0 := hslbl0.ext ew13
  replace hW := Rep.ext hW ew13
  replace hkW := hkW.ext ew13
  replace h9 := h9.ext ew13
  replace hlow := hlow.ext ew13
  replace hB := Nat.le_trans hB ew13.size
  refine l_cons (o_p tbOk rfl rfl rfl ?_)
  refine l_nil ?_
  refine x_seq ?_
  refine c_ifB _ rfl (fun hrw => ?_) (fun hrw => ?_)
  · refine c_seq ?_
    refine c_reg ?_
    refine l_cons (o_p tbOk rfl rfl rfl ?_)
    refine l_nil ?_
    refine x_seq ?_
    refine c_ret ?_
    refine x_seqR ?_
    refine x_ret1 rfl rfl ?_
    exact ⟨by simp, hE⟩
  have hgw : (rowB W && isWordB name) = true := by rw [hrw, hwd]; rfl
  obtain ⟨a, ea⟩ : ∃ a, atP (flatF t).1 (flatF t).2 name = a := ⟨_, rfl⟩
  obtain ⟨b, eb⟩ : ∃ b, atP (flatF s).1 (flatF s).2 name = b := ⟨_, rfl⟩
  obtain ⟨c, ec⟩ : ∃ c, atP (flatF W).1 (flatF W).2 name = c := ⟨_, rfl⟩
  have oka : PlOk a := ea ▸ atP_ok ht64 hz hnm
  have okb : PlOk b := eb ▸ atP_ok hs64 hzs hnm
  have okc : PlOk c := ec ▸ atP_ok (flat_n64 (spine_n64 _ _ hW)) hzW hnm
  have nra := atP_base (name := name) hz
  have nrb := atP_base (name := name) hzs
  have nrc := atP_base (name := name) hzW
  have hwi := whole_inst (name := name) (by omega : 0 ≤ n) hrt hrs (by rw [eW]; exact hrw) hwd hz hzs
  rw [eW, ea, ec] at hwi
  rw [ea] at nra
  rw [eb] at nrb
  rw [ec] at nrc
  have hins : Ins [⟨n, s⟩] [a] [c] := by unfold Ins; rw [List.map_cons, hwi]; rfl
  refine c_skip ?_
  refine x_seq ?_
  refine c_seq ?_
  refine c_reg ?_
  refine l_cons (o_lds tbOk (fun j v hv => h4.cell j v hv) rfl rfl rfl rfl rfl rfl ?_)
  refine l_cons (o_p tbOk rfl rfl rfl ?_)
  have k4 := at_spec t name _ _ _ ht hnm hlow hz
  rw [atF_good hgt, ea] at k4
  replace k4 : Calls Try.prog 17 _ _ (Ret fun r w' => r = .tuple #[.agg #[.int .i64 (a.base), .int .i64 (a.var), .string a.name], .int .u8 0] ∧ Ext w13 w') := k4
  refine l_cons (o_call fo17 rfl rfl rfl (k4) ?_)
  rintro _ w14 ⟨rfl, ew14⟩
  replace hE := hE.trans (Below.mono ew14 hB)
  replace ht := Rep.ext ht ew14
  replace hk := hk.ext ew14
  replace hs := Rep.ext hs ew14
  replace hks := hks.ext ew14
  replace h4 := h4.ext ew14
  replace h5 := h5.ext ew14
  replace hslbl0 := hslbl0.ext ew14
  replace hW := Rep.ext hW ew14
  replace hkW := hkW.ext ew14
  replace h9 := h9.ext ew14
  replace hlow := hlow.ext ew14
  replace hB := Nat.le_trans hB ew14.size
  refine l_cons (o_p tbOk rfl rfl rfl ?_)
  refine l_cons (o_p tbOk rfl rfl rfl ?_)
  refine l_cons (o_p tbOk rfl rfl rfl ?_)
  refine l_cons (o_new tbOk rfl rfl rfl ?_)
  intro b10 w15 qb10 ew15 hb10
  have nb10 := nM_of hlow qb10
  refine l_cons (o_st tbOk hb10 rfl rfl rfl rfl (by intro u hu; simp [Value.cells] at hu; rcases hu with rfl | rfl | rfl <;> rfl) rfl rfl ?_)
  intro w16 h10 uw16 bew16
  have ew16 : Ext w14 w16 := ew15.trans (bew16 _ (Nat.le_of_eq qb10.symm))
  replace hE := hE.trans (Below.mono ew16 hB)
  replace ht := Rep.ext ht ew16
  replace hk := hk.ext ew16
  replace hs := Rep.ext hs ew16
  replace hks := hks.ext ew16
  replace h4 := h4.ext ew16
  replace h5 := h5.ext ew16
  replace hslbl0 := hslbl0.ext ew16
  replace hW := Rep.ext hW ew16
  replace hkW := hkW.ext ew16
  replace h9 := h9.ext ew16
  replace hlow := hlow.ext ew16
  replace hB := Nat.le_trans hB ew16.size
  replace h10 : Box w16 b10 23 [.int .i64 (a.base), .int .i64 (a.var), .string a.name] := h10
  replace h10 := h10.at nb10
  refine l_cons (o_p tbOk rfl rfl rfl ?_)
  refine l_nil ?_
  refine x_seq ?_
  refine c_seq ?_
  refine c_reg ?_
  refine l_cons (o_lds tbOk (fun j v hv => h5.cell j v hv) rfl rfl rfl rfl rfl rfl ?_)
  refine l_cons (o_p tbOk rfl rfl rfl ?_)
  have k5 := at_spec s name _ _ _ hs hnm hlow hzs
  rw [atF_good hgs, eb] at k5
  replace k5 : Calls Try.prog 17 _ _ (Ret fun r w' => r = .tuple #[.agg #[.int .i64 (b.base), .int .i64 (b.var), .string b.name], .int .u8 0] ∧ Ext w16 w') := k5
  refine l_cons (o_call fo17 rfl rfl rfl (k5) ?_)
  rintro _ w17 ⟨rfl, ew17⟩
  replace hE := hE.trans (Below.mono ew17 hB)
  replace ht := Rep.ext ht ew17
  replace hk := hk.ext ew17
  replace hs := Rep.ext hs ew17
  replace hks := hks.ext ew17
  replace h4 := h4.ext ew17
  replace h5 := h5.ext ew17
  replace hslbl0 := hslbl0.ext ew17
  replace hW := Rep.ext hW ew17
  replace hkW := hkW.ext ew17
  replace h9 := h9.ext ew17
  replace h10 := h10.ext ew17
  replace hlow := hlow.ext ew17
  replace hB := Nat.le_trans hB ew17.size
  refine l_cons (o_p tbOk rfl rfl rfl ?_)
  refine l_cons (o_p tbOk rfl rfl rfl ?_)
  refine l_cons (o_p tbOk rfl rfl rfl ?_)
  refine l_cons (o_new tbOk rfl rfl rfl ?_)
  intro b12 w18 qb12 ew18 hb12
  have nb12 := nM_of hlow qb12
  refine l_cons (o_st tbOk hb12 rfl rfl rfl rfl (by intro u hu; simp [Value.cells] at hu; rcases hu with rfl | rfl | rfl <;> rfl) rfl rfl ?_)
  intro w19 h12 uw19 bew19
  have ew19 : Ext w17 w19 := ew18.trans (bew19 _ (Nat.le_of_eq qb12.symm))
  replace hE := hE.trans (Below.mono ew19 hB)
  replace ht := Rep.ext ht ew19
  replace hk := hk.ext ew19
  replace hs := Rep.ext hs ew19
  replace hks := hks.ext ew19
  replace h4 := h4.ext ew19
  replace h5 := h5.ext ew19
  replace hslbl0 := hslbl0.ext ew19
  replace hW := Rep.ext hW ew19
  replace hkW := hkW.ext ew19
  replace h9 := h9.ext ew19
  replace h10 := h10.ext ew19
  replace hlow := hlow.ext ew19
  replace hB := Nat.le_trans hB ew19.size
  replace h12 : Box w19 b12 23 [.int .i64 (b.base), .int .i64 (b.var), .string b.name] := h12
  replace h12 := h12.at nb12
  refine l_cons (o_p tbOk rfl rfl rfl ?_)
  refine l_nil ?_
  refine x_seq ?_
  refine c_seq ?_
  refine c_reg ?_
  refine l_cons (o_lds tbOk (fun j v hv => h9.cell j v hv) rfl rfl rfl rfl rfl rfl ?_)
  refine l_cons (o_p tbOk rfl rfl rfl ?_)
  have k6 := at_spec W name _ _ _ hW hnm hlow hzW
  rw [atF_good hgw, ec] at k6
  replace k6 : Calls Try.prog 17 _ _ (Ret fun r w' => r = .tuple #[.agg #[.int .i64 (c.base), .int .i64 (c.var), .string c.name], .int .u8 0] ∧ Ext w19 w') := k6
  refine l_cons (o_call fo17 rfl rfl rfl (k6) ?_)
  rintro _ w20 ⟨rfl, ew20⟩
  replace hE := hE.trans (Below.mono ew20 hB)
  replace ht := Rep.ext ht ew20
  replace hk := hk.ext ew20
  replace hs := Rep.ext hs ew20
  replace hks := hks.ext ew20
  replace h4 := h4.ext ew20
  replace h5 := h5.ext ew20
  replace hslbl0 := hslbl0.ext ew20
  replace hW := Rep.ext hW ew20
  replace hkW := hkW.ext ew20
  replace h9 := h9.ext ew20
  replace h10 := h10.ext ew20
  replace h12 := h12.ext ew20
  replace hlow := hlow.ext ew20
  replace hB := Nat.le_trans hB ew20.size
  refine l_cons (o_p tbOk rfl rfl rfl ?_)
  refine l_cons (o_p tbOk rfl rfl rfl ?_)
  refine l_cons (o_p tbOk rfl rfl rfl ?_)
  refine l_cons (o_new tbOk rfl rfl rfl ?_)
  intro b14 w21 qb14 ew21 hb14
  have nb14 := nM_of hlow qb14
  refine l_cons (o_st tbOk hb14 rfl rfl rfl rfl (by intro u hu; simp [Value.cells] at hu; rcases hu with rfl | rfl | rfl <;> rfl) rfl rfl ?_)
  intro w22 h14 uw22 bew22
  have ew22 : Ext w20 w22 := ew21.trans (bew22 _ (Nat.le_of_eq qb14.symm))
  replace hE := hE.trans (Below.mono ew22 hB)
  replace ht := Rep.ext ht ew22
  replace hk := hk.ext ew22
  replace hs := Rep.ext hs ew22
  replace hks := hks.ext ew22
  replace h4 := h4.ext ew22
  replace h5 := h5.ext ew22
  replace hslbl0 := hslbl0.ext ew22
  replace hW := Rep.ext hW ew22
  replace hkW := hkW.ext ew22
  replace h9 := h9.ext ew22
  replace h10 := h10.ext ew22
  replace h12 := h12.ext ew22
  replace hlow := hlow.ext ew22
  replace hB := Nat.le_trans hB ew22.size
  replace h14 : Box w22 b14 23 [.int .i64 (c.base), .int .i64 (c.var), .string c.name] := h14
  replace h14 := h14.at nb14
  refine l_cons (o_p tbOk rfl rfl rfl ?_)
  refine l_nil ?_
  refine x_seq ?_
  refine c_seq ?_
  refine c_seq ?_
  refine c_reg ?_
  refine l_cons (o_p tbOk rfl rfl rfl ?_)
  refine l_cons (o_conv (y := 0) tbOk rfl rfl rfl rfl rfl rfl rfl rfl ?_)
  refine l_cons (o_p tbOk rfl rfl rfl ?_)
  refine l_cons (o_conv (y := 0) tbOk rfl rfl rfl rfl rfl rfl rfl rfl ?_)
  refine l_cons (o_ar (z := 0) rfl rfl rfl rfl rfl rfl ?_)
  refine l_cons (o_p tbOk rfl rfl rfl ?_)
  refine l_cons (o_conv (y := 0) tbOk rfl rfl rfl rfl rfl rfl rfl rfl ?_)
  refine l_cons (o_ar (z := 0) rfl rfl rfl rfl rfl rfl ?_)
  refine l_cons (o_p tbOk rfl rfl rfl ?_)
  refine l_nil ?_
  refine x_seq ?_
  refine c_ifF rfl ?_
  refine c_skip ?_
  refine x_seq ?_
  refine c_seq ?_
  refine c_reg ?_
  refine l_cons (o_lds tbOk (fun j v hv => h10.cell j v hv) rfl rfl rfl rfl rfl rfl ?_)
  refine l_cons (o_bs tbOk rfl rfl rfl rfl rfl rfl rfl (sz1 rfl) rfl rfl rfl ?_)
  intro bl1 w23 qbl1 ew23 hbl1
  have nbl1 := nM_of hlow qbl1
  replace hE := hE.trans (Below.mono ew23 hB)
  replace ht := Rep.ext ht ew23
  replace hk := hk.ext ew23
  replace hs := Rep.ext hs ew23
  replace hks := hks.ext ew23
  replace h4 := h4.ext ew23
  replace h5 := h5.ext ew23
  replace hslbl0 := hslbl0.ext ew23
  replace hW := Rep.ext hW ew23
  replace hkW := hkW.ext ew23
  replace h9 := h9.ext ew23
  replace h10 := h10.ext ew23
  replace h12 := h12.ext ew23
  replace h14 := h14.ext ew23
  replace hlow := hlow.ext ew23
  replace hB := Nat.le_trans hB ew23.size
  have hslbl1 : Sl M w23 (.slice (some ⟨bl1, 0, none⟩) 1 1) [a] := lit_sl hbl1 nbl1 (show Rs _ _ [_] [a] from ⟨(show Rep.R _ _ _ a from ⟨rfl, oka⟩), trivial⟩) (by simp)
  refine l_cons (o_p tbOk rfl rfl rfl ?_)
  refine l_cons (o_lds tbOk (fun j v hv => h5.cell j v hv) rfl rfl rfl rfl rfl rfl ?_)
  refine l_cons (o_build (cells := [.int .i64 n, .int .u8 s.op, .string s.name, .int .i64 s.n, kvs]) (css := [[.int .i64 n], [.int .u8 s.op, .string s.name, .int .i64 s.n, kvs]]) bd64 rfl rfl rfl rfl rfl ?_)
  refine l_cons (o_bs tbOk rfl rfl rfl rfl rfl rfl rfl (sz1 rfl) rfl rfl rfl ?_)
  intro bl2 w24 qbl2 ew24 hbl2
  have nbl2 := nM_of hlow qbl2
  replace hE := hE.trans (Below.mono ew24 hB)
  replace ht := Rep.ext ht ew24
  replace hk := hk.ext ew24
  replace hs := Rep.ext hs ew24
  replace hks := hks.ext ew24
  replace h4 := h4.ext ew24
  replace h5 := h5.ext ew24
  replace hslbl0 := hslbl0.ext ew24
  replace hW := Rep.ext hW ew24
  replace hkW := hkW.ext ew24
  replace h9 := h9.ext ew24
  replace h10 := h10.ext ew24
  replace h12 := h12.ext ew24
  replace h14 := h14.ext ew24
  replace hslbl1 := hslbl1.ext ew24
  replace hlow := hlow.ext ew24
  replace hB := Nat.le_trans hB ew24.size
  have hslbl2 : Sl M w24 (.slice (some ⟨bl2, 0, none⟩) 1 1) [(⟨n, s⟩ : Bnd)] := lit_sl hbl2 nbl2 (show Rs _ _ [_] [(⟨n, s⟩ : Bnd)] from ⟨(show Rep.R _ _ _ (⟨n, s⟩ : Bnd) from bnd_mk hn hs), trivial⟩) (by simp)
  refine l_cons (o_call fo25 rfl rfl rfl (instance_spec [a] [⟨n, s⟩] _ _ _ _ hslbl1 hslbl2 hlow (by simp) (fun x hx => by rw [List.mem_singleton] at hx; subst hx; exact hzs)) ?_)
  rintro r w25 ⟨hr, ew25⟩
  obtain ⟨x, rfl, hx⟩ : ∃ x, r = .tuple #[x, .int .u8 0] ∧ Sl M w25 x [c] := by
    rcases hr with ⟨x, k, rfl, h1, h2⟩ | ⟨rfl, h1⟩
    · exact ⟨x, rfl, by rw [h1.uniq hins] at h2; exact h2⟩
    · exact (h1.no hins).elim
  replace hE := hE.trans (Below.mono ew25 hB)
  replace ht := Rep.ext ht ew25
  replace hk := hk.ext ew25
  replace hs := Rep.ext hs ew25
  replace hks := hks.ext ew25
  replace h4 := h4.ext ew25
  replace h5 := h5.ext ew25
  replace hslbl0 := hslbl0.ext ew25
  replace hW := Rep.ext hW ew25
  replace hkW := hkW.ext ew25
  replace h9 := h9.ext ew25
  replace h10 := h10.ext ew25
  replace h12 := h12.ext ew25
  replace h14 := h14.ext ew25
  replace hslbl1 := hslbl1.ext ew25
  replace hslbl2 := hslbl2.ext ew25
  replace hlow := hlow.ext ew25
  replace hB := Nat.le_trans hB ew25.size
  refine l_cons (o_p tbOk rfl rfl rfl ?_)
  refine l_cons (o_p tbOk rfl rfl rfl ?_)
  refine l_cons (o_p tbOk rfl rfl rfl ?_)
  refine l_cons (o_p tbOk rfl rfl rfl ?_)
  refine l_cons (o_p tbOk rfl rfl rfl ?_)
  refine l_nil ?_
  refine x_seq ?_
  refine c_seq ?_
  refine c_seq ?_
  refine a_beg Ext rfl ?_
  intro w26 ew26
  replace hE := hE.trans (Below.mono ew26 hB)
  replace ht := Rep.ext ht ew26
  replace hk := hk.ext ew26
  replace hs := Rep.ext hs ew26
  replace hks := hks.ext ew26
  replace h4 := h4.ext ew26
  replace h5 := h5.ext ew26
  replace hslbl0 := hslbl0.ext ew26
  replace hW := Rep.ext hW ew26
  replace hkW := hkW.ext ew26
  replace h9 := h9.ext ew26
  replace h10 := h10.ext ew26
  replace h12 := h12.ext ew26
  replace h14 := h14.ext ew26
  replace hslbl1 := hslbl1.ext ew26
  replace hslbl2 := hslbl2.ext ew26
  replace hx := hx.ext ew26
  replace hlow := hlow.ext ew26
  replace hB := Nat.le_trans hB ew26.size
  have hS : Ext w26 w26 := ext_refl _
  have D_hk := hk
  have D_hks := hks
  have D_h4 := h4
  have D_h5 := h5
  have D_hslbl0 := hslbl0
  have D_hkW := hkW
  have D_h9 := h9
  have D_h10 := h10
  have D_h12 := h12
  have D_h14 := h14
  have D_hslbl1 := hslbl1
  have D_hslbl2 := hslbl2
  have D_hx := hx
  refine a_p 0 tbOk rfl rfl rfl rfl (by kernel_rfl) (fun _ _ _ h => h) hS ?_
  refine a_bar 1 rfl (by kernel_rfl) (by kernel_rfl) (o_conv (y := 0) tbOk rfl rfl rfl rfl rfl rfl rfl rfl ?_)
  refine a_p 2 tbOk rfl rfl rfl rfl (by kernel_rfl) (fun _ _ _ h => h) hS ?_
  refine a_p 3 tbOk rfl rfl rfl rfl (by kernel_rfl) (fun _ _ _ h => h) hS ?_
  refine a_p 4 tbOk rfl rfl rfl rfl (by kernel_rfl) (fun _ _ _ h => h) hS ?_
  refine a_len 5 tbOk hx rfl rfl rfl rfl rfl rfl (by kernel_rfl) (fun _ _ _ h => h) hS ?_
  refine a_p 6 tbOk rfl rfl rfl rfl (by kernel_rfl) (fun _ _ _ h => h) hS ?_
  refine a_p 7 tbOk rfl rfl rfl rfl (by kernel_rfl) (fun _ _ _ h => h) hS ?_
  refine a_p 8 tbOk rfl rfl rfl rfl (by kernel_rfl) (fun _ _ _ h => h) hS ?_
  refine a_splitN 108 _ rfl (fun hl1 => ?_) (fun hl1 => ?_)
  · exact absurd rfl hl1
  refine a_p 9 tbOk rfl rfl rfl rfl (by kernel_rfl) (fun _ _ _ h => h) hS ?_
  refine a_ixS 10 tbOk D_hx (show [c][0]? = some c from rfl) rfl rfl rfl rfl rfl rfl rfl rfl rfl rfl (by kernel_rfl) (fun _ _ _ _ h => h) hS ?_
  intro ebv3 eov3 euv3 hrv3 hatv3
  obtain ⟨rfl, okv3⟩ := hrv3
  replace okv3 : PlOk c := okv3
  replace hatv3 : At _ w26 ebv3 eov3 [.int .i64 (c.base), .int .i64 (c.var), .string c.name] := hatv3
  refine a_lds 11 tbOk (fun _ hs j v hv => (hatv3.ext hs).cell j v hv) rfl rfl rfl rfl rfl rfl rfl (by kernel_rfl) (fun _ _ _ h => h) hS ?_
  refine a_lds 12 tbOk (fun _ hs j v hv => (D_h14.ext hs).cell j v hv) rfl rfl rfl rfl rfl rfl rfl (by kernel_rfl) (fun _ _ _ h => h) hS ?_
  refine a_bar 13 rfl (by kernel_rfl) (by kernel_rfl) (o_nes (p := (⟨c.base, c.var, c.name⟩ : Pl) = ⟨c.base, c.var, c.name⟩) rfl rfl key23 guard23 (formed23 _ _ _) (formed23 _ _ _) (lits23 okv3.1 okv3.2.1 okv3.2.2) (lits23 okc.1 okc.2.1 okc.2.2) pl_eq_iff rfl rfl ?_)
  refine a_p 14 tbOk rfl rfl rfl rfl (by kernel_rfl) (fun _ _ _ h => h) hS ?_
  refine a_end (by kernel_rfl) ?_
  refine x_seq ?_
  refine c_ifN _ rfl (fun c7 => ?_) (fun c7 => ?_)
  · exact absurd rfl c7
  refine c_skip ?_
  refine x_seq ?_
  refine c_seq ?_
  refine c_seq ?_
  refine c_reg ?_
  refine l_cons (o_p tbOk rfl rfl rfl ?_)
  refine l_cons (o_ld tbOk (h10.cell 1 _ rfl) rfl rfl rfl rfl rfl ?_)
  refine l_cons (o_p tbOk rfl rfl rfl ?_)
  refine l_cons (o_p tbOk rfl rfl rfl ?_)
  refine l_cons (o_p tbOk rfl rfl rfl ?_)
  refine l_splitP 119 _ rfl (fun hv => ?_) (fun hv => ?_)
  · refine l_cons (o_p tbOk rfl rfl rfl ?_)
    refine l_cons (o_ld tbOk (h12.cell 1 _ rfl) rfl rfl rfl rfl rfl ?_)
    refine l_cons (o_p tbOk rfl rfl rfl ?_)
    refine l_cons (o_p tbOk rfl rfl rfl ?_)
    refine l_nil ?_
    refine x_seq ?_
    refine c_ifP _ rfl (fun hv2 => ?_) (fun hv2 => ?_)
    · have hres := whole_res (name := name) (by omega : 0 ≤ n) hrt hrs (by rw [eW]; exact hrw) (by rw [ea]; exact hv) (by rw [eb]; exact hv2)
      rw [eW, ea, eb, ec] at hres
      refine c_seq ?_
      refine c_reg ?_
      refine l_cons (o_lds tbOk (fun j v hv => h10.cell j v hv) rfl rfl rfl rfl rfl rfl ?_)
      refine l_cons (o_p tbOk rfl rfl rfl ?_)
      refine l_cons (o_p tbOk rfl rfl rfl ?_)
      refine l_cons (o_p tbOk rfl rfl rfl ?_)
      refine l_cons (o_ld tbOk (h12.cell 0 _ rfl) rfl rfl rfl rfl rfl ?_)
      refine l_cons (o_build (cells := [.int .i64 n, .string name, .int .i64 b.base]) (css := [[.int .i64 n], [.string name], [.int .i64 b.base]]) bd28 rfl rfl rfl rfl rfl ?_)
      refine l_cons (o_bs tbOk rfl rfl rfl rfl rfl rfl rfl (sz1 rfl) rfl rfl rfl ?_)
      intro bl4 w27 qbl4 ew27 hbl4
      have nbl4 := nM_of hlow qbl4
      replace hE := hE.trans (Below.mono ew27 hB)
      replace ht := Rep.ext ht ew27
      replace hk := hk.ext ew27
      replace hs := Rep.ext hs ew27
      replace hks := hks.ext ew27
      replace h4 := h4.ext ew27
      replace h5 := h5.ext ew27
      replace hslbl0 := hslbl0.ext ew27
      replace hW := Rep.ext hW ew27
      replace hkW := hkW.ext ew27
      replace h9 := h9.ext ew27
      replace h10 := h10.ext ew27
      replace h12 := h12.ext ew27
      replace h14 := h14.ext ew27
      replace hslbl1 := hslbl1.ext ew27
      replace hslbl2 := hslbl2.ext ew27
      replace hx := hx.ext ew27
      replace hatv3 := hatv3.ext ew27
      replace hlow := hlow.ext ew27
      replace hB := Nat.le_trans hB ew27.size
      have hslbl4 : Sl M w27 (.slice (some ⟨bl4, 0, none⟩) 1 1) [(⟨n, name, b.base⟩ : Ev)] := lit_sl hbl4 nbl4 (show Rs _ _ [_] [(⟨n, name, b.base⟩ : Ev)] from ⟨(show Rep.R _ _ _ (⟨n, name, b.base⟩ : Ev) from ⟨rfl, hn, hnm, okb.1⟩), trivial⟩) (by simp)
      have k9 := resolve_spec a [⟨n, name, b.base⟩] M _ _ hslbl4 ⟨by omega, by omega⟩ (fun x hx => by rw [List.mem_singleton] at hx; subst hx; exact (⟨by omega, by omega⟩ : Near b.base)) hlow
      rw [hres.1] at k9
      replace k9 : Calls Try.prog 13 _ _ (Ret fun r w' => r = .tuple #[.int .i64 c.base, .int .u8 0] ∧ Ext w27 w') := k9
      refine l_cons (o_call fo13 rfl rfl rfl (k9) ?_)
      rintro _ w28 ⟨rfl, ew28⟩
      replace hE := hE.trans (Below.mono ew28 hB)
      replace ht := Rep.ext ht ew28
      replace hk := hk.ext ew28
      replace hs := Rep.ext hs ew28
      replace hks := hks.ext ew28
      replace h4 := h4.ext ew28
      replace h5 := h5.ext ew28
      replace hslbl0 := hslbl0.ext ew28
      replace hW := Rep.ext hW ew28
      replace hkW := hkW.ext ew28
      replace h9 := h9.ext ew28
      replace h10 := h10.ext ew28
      replace h12 := h12.ext ew28
      replace h14 := h14.ext ew28
      replace hslbl1 := hslbl1.ext ew28
      replace hslbl2 := hslbl2.ext ew28
      replace hx := hx.ext ew28
      replace hatv3 := hatv3.ext ew28
      replace hslbl4 := hslbl4.ext ew28
      replace hlow := hlow.ext ew28
      replace hB := Nat.le_trans hB ew28.size
      refine l_cons (o_p tbOk rfl rfl rfl ?_)
      refine l_cons (o_p tbOk rfl rfl rfl ?_)
      refine l_cons (o_p tbOk rfl rfl rfl ?_)
      refine l_cons (o_p tbOk rfl rfl rfl ?_)
      refine l_cons (o_p tbOk rfl rfl rfl ?_)
      refine l_nil ?_
      refine x_seq ?_
      refine c_seq ?_
      refine c_reg ?_
      refine l_cons (o_lds tbOk (fun j v hv => h14.cell j v hv) rfl rfl rfl rfl rfl rfl ?_)
      have k10 := resolve_spec c [] M _ _ sl_nil ⟨by omega, by omega⟩ (fun x hx => by cases hx) hlow
      rw [hres.2] at k10
      replace k10 : Calls Try.prog 13 _ _ (Ret fun r w' => r = .tuple #[.int .i64 c.base, .int .u8 0] ∧ Ext w28 w') := k10
      refine l_cons (o_call fo13 rfl rfl rfl (k10) ?_)
      rintro _ w29 ⟨rfl, ew29⟩
      replace hE := hE.trans (Below.mono ew29 hB)
      replace ht := Rep.ext ht ew29
      replace hk := hk.ext ew29
      replace hs := Rep.ext hs ew29
      replace hks := hks.ext ew29
      replace h4 := h4.ext ew29
      replace h5 := h5.ext ew29
      replace hslbl0 := hslbl0.ext ew29
      replace hW := Rep.ext hW ew29
      replace hkW := hkW.ext ew29
      replace h9 := h9.ext ew29
      replace h10 := h10.ext ew29
      replace h12 := h12.ext ew29
      replace h14 := h14.ext ew29
      replace hslbl1 := hslbl1.ext ew29
      replace hslbl2 := hslbl2.ext ew29
      replace hx := hx.ext ew29
      replace hatv3 := hatv3.ext ew29
      replace hslbl4 := hslbl4.ext ew29
      replace hlow := hlow.ext ew29
      replace hB := Nat.le_trans hB ew29.size
      refine l_cons (o_p tbOk rfl rfl rfl ?_)
      refine l_cons (o_p tbOk rfl rfl rfl ?_)
      refine l_cons (o_p tbOk rfl rfl rfl ?_)
      refine l_cons (o_p tbOk rfl rfl rfl ?_)
      refine l_cons (o_p tbOk rfl rfl rfl ?_)
      refine l_nil ?_
      refine x_seq ?_
      refine c_seq ?_
      refine c_reg ?_
      refine l_cons (o_p tbOk rfl rfl rfl ?_)
      refine l_cons (o_conv (y := 0) tbOk rfl rfl rfl rfl rfl rfl rfl rfl ?_)
      refine l_cons (o_p tbOk rfl rfl rfl ?_)
      refine l_cons (o_conv (y := 0) tbOk rfl rfl rfl rfl rfl rfl rfl rfl ?_)
      refine l_cons (o_ar (z := 0) rfl rfl rfl rfl rfl rfl ?_)
      refine l_cons (o_p tbOk rfl rfl rfl ?_)
      refine l_cons (o_p tbOk rfl rfl rfl ?_)
      refine l_cons (o_p tbOk rfl rfl rfl ?_)
      refine l_cons (o_p tbOk rfl rfl rfl ?_)
      refine l_cons (o_p tbOk rfl rfl rfl ?_)
      refine l_cons (o_p tbOk rfl rfl rfl ?_)
      refine l_nil ?_
      refine x_seq ?_
      refine c_ifN _ rfl (fun c11 => ?_) (fun c11 => ?_)
      · exact absurd rfl c11
      refine c_skip ?_
      refine x_seq ?_
      refine c_seq ?_
      refine c_reg ?_
      refine l_cons (o_lds tbOk (fun j v hv => h4.cell j v hv) rfl rfl rfl rfl rfl rfl ?_)
      obtain ⟨l, el⟩ : ∃ l, (flatF t).1 = l := ⟨_, rfl⟩
      have k12 := slots_spec t _ _ _ ht hlow hz
      rw [hrt, el] at k12
      have hll : l.length ≤ 2000000 := by have := flatF_len t; rw [el] at this; omega
      refine l_cons (o_call fo16 rfl rfl rfl (k12) ?_)
      rintro _ w30 ⟨⟨sv, rfl, hsl⟩, ew30⟩
      replace hE := hE.trans (Below.mono ew30 hB)
      replace ht := Rep.ext ht ew30
      replace hk := hk.ext ew30
      replace hs := Rep.ext hs ew30
      replace hks := hks.ext ew30
      replace h4 := h4.ext ew30
      replace h5 := h5.ext ew30
      replace hslbl0 := hslbl0.ext ew30
      replace hW := Rep.ext hW ew30
      replace hkW := hkW.ext ew30
      replace h9 := h9.ext ew30
      replace h10 := h10.ext ew30
      replace h12 := h12.ext ew30
      replace h14 := h14.ext ew30
      replace hslbl1 := hslbl1.ext ew30
      replace hslbl2 := hslbl2.ext ew30
      replace hx := hx.ext ew30
      replace hatv3 := hatv3.ext ew30
      replace hslbl4 := hslbl4.ext ew30
      replace hlow := hlow.ext ew30
      replace hB := Nat.le_trans hB ew30.size
      refine l_cons (o_p tbOk rfl rfl rfl ?_)
      refine l_cons (o_p tbOk rfl rfl rfl ?_)
      refine l_cons (o_p tbOk rfl rfl rfl ?_)
      refine l_cons (o_p tbOk rfl rfl rfl ?_)
      refine l_cons (o_p tbOk rfl rfl rfl ?_)
      refine l_nil ?_
      refine x_seq ?_
      refine c_seq ?_
      refine c_seq ?_
      refine c_reg ?_
      refine l_cons (o_p tbOk rfl rfl rfl ?_)
      refine l_nil ?_
      refine x_seq ?_
      refine c_blk ?_
      refine c_loop2 (X := Nat) (Y := Nat → Prop) (fun i M1 => [(4, .pointer (some ⟨b4, 0, none⟩)), (22, sv), (23, .int .u8 0), (24, .int .i64 (i : Nat))]) (fun i M1 w' => i ≤ l.length ∧ At M1 w' b4 0 [.int .u8 t.op, .string t.name, .int .i64 t.n, kv] ∧ Sl M1 w' sv (slotsF l) ∧ Sl M1 w' kv t.kids ∧ Rep.R M1 w' (.agg #[.int .u8 t.op, .string t.name, .int .i64 t.n, kv]) t ∧ Low M1 w' ∧ (∀ b, M b → M1 b) ∧ Below w.heap.size w w' ∧ w.heap.size ≤ w'.heap.size) (fun i M1 => l.length - i) (0) (M) (subL_cons rfl (subL_cons rfl (subL_cons rfl (subL_cons rfl (subL_nil))))) ?_ ?_
      · exact ⟨Nat.zero_le _, h4, hsl, hk, ht, hlow, hsub, hE, hB⟩
      rintro i M1 w31 ⟨hi, h4, hsl, hk, ht, hlow, hsub, hE, hB⟩
      refine c_seq ?_
      refine c_seq ?_
      refine c_reg ?_
      refine l_cons (o_p tbOk rfl rfl rfl ?_)
      refine l_cons (o_p tbOk rfl rfl rfl ?_)
      refine l_cons (o_len tbOk hsl rfl rfl rfl rfl rfl ?_)
      refine l_cons (o_p tbOk rfl rfl rfl ?_)
      refine l_nil ?_
      refine x_seq ?_
      refine c_ifP _ rfl (fun c13 => ?_) (fun c13 => ?_)
      · have hil : i < l.length := by rw [slots_len] at c13; omega
        refine c_skip ?_
        refine x_seq ?_
        refine c_seq ?_
        refine c_blk ?_
        refine c_seq ?_
        refine a_beg Ext rfl ?_
        intro w32 ew32
        replace hE := hE.trans (Below.mono ew32 hB)
        replace h4 := h4.ext ew32
        replace hsl := hsl.ext ew32
        replace hk := hk.ext ew32
        replace ht := Rep.ext ht ew32
        replace hlow := hlow.ext ew32
        replace hB := Nat.le_trans hB ew32.size
        have hS : Ext w32 w32 := ext_refl _
        have D_h4 := h4
        have D_hsl := hsl
        have D_hk := hk
        refine a_lds 0 tbOk (fun _ hs j v hv => (D_h4.ext hs).cell j v hv) rfl rfl rfl rfl rfl rfl rfl (by kernel_rfl) (fun _ _ _ h => h) hS ?_
        refine a_p 1 tbOk rfl rfl rfl rfl (by kernel_rfl) (fun _ _ _ h => h) hS ?_
        refine a_p 2 tbOk rfl rfl rfl rfl (by kernel_rfl) (fun _ _ _ h => h) hS ?_
        refine a_ixS 3 tbOk D_hsl (slots_get hil) rfl rfl rfl rfl rfl rfl rfl rfl rfl rfl (by kernel_rfl) (fun _ _ _ _ h => h) hS ?_
        intro ebs5 eos5 eus5 hrs5 hats5
        obtain ⟨rfl, szs5, sns5⟩ := hrs5
        replace hats5 : At _ w32 ebs5 eos5 [.string l[i].name, .int .i64 ((cntN (l.take i) l[i].name : Nat) : Int)] := hats5
        refine a_p 4 tbOk rfl rfl rfl rfl (by kernel_rfl) (fun _ _ _ h => h) hS ?_
        refine a_ld 5 tbOk (fun _ hs => (hats5.ext hs).cell 0 _ rfl) rfl rfl rfl rfl rfl rfl (by kernel_rfl) (fun _ _ _ h => h) hS ?_
        refine a_p 6 tbOk rfl rfl rfl rfl (by kernel_rfl) (fun _ _ _ h => h) hS ?_
        refine a_p 7 tbOk rfl rfl rfl rfl (by kernel_rfl) (fun _ _ _ h => h) hS ?_
        refine a_ixS 8 tbOk D_hsl (slots_get hil) rfl rfl rfl rfl rfl rfl rfl rfl rfl rfl (by kernel_rfl) (fun _ _ _ _ h => h) hS ?_
        intro ebs6 eos6 eus6 hrs6 hats6
        obtain ⟨rfl, szs6, sns6⟩ := hrs6
        replace hats6 : At _ w32 ebs6 eos6 [.string l[i].name, .int .i64 ((cntN (l.take i) l[i].name : Nat) : Int)] := hats6
        refine a_p 9 tbOk rfl rfl rfl rfl (by kernel_rfl) (fun _ _ _ h => h) hS ?_
        refine a_ld 10 tbOk (fun _ hs => (hats6.ext hs).cell 1 _ rfl) rfl rfl rfl rfl rfl rfl (by kernel_rfl) (fun _ _ _ h => h) hS ?_
        refine a_all [11, 15] (by kernel_rfl) rfl (all_cons (i := 11) rfl ?_ (all_cons (i := 15) rfl ?_ all_nil))
        · obtain ⟨⟨hpb, hp0⟩, _⟩ := slot_nth hrt el hil
          have k14 := nth_spec t l[i].name (cntN (l.take i) l[i].name : Nat) _ _ _ ht szs6 sns6 hlow hz
          obtain ⟨p, ep⟩ : ∃ p, nthF t l[i].name (cntN (l.take i) l[i].name : Nat) = p := ⟨_, rfl⟩
          rw [ep] at k14 hpb hp0
          refine o_call fo18 rfl rfl rfl (k14) ?_
          rintro _ w33 ⟨rfl, ew33⟩
          replace hS := hS.then ew33
          replace hE := hE.trans (Below.mono ew33 hB)
          replace h4 := h4.ext ew33
          replace hsl := hsl.ext ew33
          replace hk := hk.ext ew33
          replace ht := Rep.ext ht ew33
          replace hats5 := hats5.ext ew33
          replace hats6 := hats6.ext ew33
          replace hlow := hlow.ext ew33
          replace hB := Nat.le_trans hB ew33.size
          refine ⟨hS, ?_⟩
          refine a_p 12 tbOk rfl rfl rfl rfl (by kernel_rfl) (fun _ _ _ h => h) hS ?_
          refine a_p 13 tbOk rfl rfl rfl rfl (by kernel_rfl) (fun _ _ _ h => h) hS ?_
          refine a_p 14 tbOk rfl rfl rfl rfl (by kernel_rfl) (fun _ _ _ h => h) hS ?_
          refine a_one 15 rfl (by kernel_rfl) (o_new tbOk rfl rfl rfl ?_)
          intro b25 w34 qb25 ew34 hb25
          have gS_b25 := Nat.le_trans hS.size (Nat.le_of_eq qb25.symm)
          replace hS := hS.then ew34
          have sw34 := Stp.add ew34 hlow hB (Nat.le_of_eq qb25.symm) hb25.lt
          have h25 : MB w.heap.size (Rw.Add M1 b25) w34 b25 23 [.int .i64 0, .int .i64 0, .string ⟨#[]⟩] := MB.mk' hb25 qb25 hB
          replace hE := hE.trans sw34.below
          replace h4 := h4.stp sw34
          replace hsl := hsl.stp sw34
          replace hk := hk.stp sw34
          replace ht := Rep.stp ht sw34
          replace hats5 := hats5.stp sw34
          replace hats6 := hats6.stp sw34
          replace hsub := fun b h => sw34.sub b (hsub b h)
          replace hlow := sw34.low
          replace hB := Nat.le_trans hB sw34.upd.1
          refine ⟨hS, ?_⟩
          refine a_one 16 rfl (by kernel_rfl) (o_st tbOk h25.box rfl rfl rfl rfl (by intro u hu; simp [Value.cells] at hu; rcases hu with rfl | rfl | rfl <;> rfl) rfl rfl ?_)
          intro w35 hw35 qw35 bew35
          have uw35 : UpdB _ _ _ := ⟨qw35, bew35⟩
          have sw35 := uw35.stp h25.inM hlow h25.ge
          have frw35 := qw35.2
          replace hS := Below.trans hS (bew35 _ gS_b25)
          replace hE := hE.trans sw35.below
          replace h4 := h4.stp sw35
          replace hsl := hsl.stp sw35
          replace hk := hk.stp sw35
          replace ht := Rep.stp ht sw35
          replace hats5 := hats5.stp sw35
          replace hats6 := hats6.stp sw35
          replace hsub := fun b h => sw35.sub b (hsub b h)
          replace hlow := sw35.low
          replace hB := Nat.le_trans hB sw35.upd.1
          refine ⟨hS, ?_⟩
          replace h25 : MB w.heap.size _ w35 b25 _ [.int .i64 (p.1.base), .int .i64 (p.1.var), .string p.1.name] := ⟨hw35, h25.inM, h25.ge⟩
          refine a_p 17 tbOk rfl rfl rfl rfl (by kernel_rfl) (fun _ _ _ h => h) hS ?_
          refine a_end (by kernel_rfl) ?_
          refine x_seq ?_
          refine c_seq ?_
          refine c_reg ?_
          refine l_cons (o_p tbOk rfl rfl rfl ?_)
          refine l_cons (o_conv (y := p.2) tbOk rfl rfl rfl rfl rfl (IntWalk.i64_in _ (by omega)) rfl rfl ?_)
          refine l_cons (o_p tbOk rfl rfl rfl ?_)
          refine l_cons (o_p tbOk rfl rfl rfl ?_)
          refine l_splitN 180 _ rfl (fun hp2 => ?_) (fun hp2 => ?_)
          · exact absurd hp0 hp2
          refine l_cons (o_p tbOk rfl rfl rfl ?_)
          refine l_cons (o_ld tbOk (h25.cell 0 _ rfl) rfl rfl rfl rfl rfl ?_)
          refine l_cons (o_p tbOk rfl rfl rfl ?_)
          refine l_cons (o_p tbOk rfl rfl rfl ?_)
          refine l_cons (o_p tbOk rfl rfl rfl ?_)
          refine l_nil ?_
          refine x_seq ?_
          refine c_ifN _ rfl (fun c15 => ?_) (fun c15 => ?_)
          · exact absurd hpb c15
          refine c_skip ?_
          refine x_blk ?_
          refine x_seq ?_
          refine c_reg ?_
          refine l_cons (o_p tbOk rfl rfl rfl ?_)
          refine l_cons (o_ar rfl rfl rfl (IntWalk.i64_in _ (by omega)) rfl rfl ?_)
          refine l_cons (o_p tbOk rfl rfl rfl ?_)
          refine l_nil ?_
          exact x_round2 (i + 1) ((Rw.Add M1 b25)) (subL_cons rfl (subL_cons rfl (subL_cons rfl (subL_cons (get_num rfl (by omega)) (subL_nil))))) ⟨by omega, h4, hsl, hk, ht, hlow, hsub, hE, hB⟩ (by omega)
        refine o_new tbOk rfl rfl rfl ?_
        intro b25 w36 qb25 ew36 hb25
        have gS_b25 := Nat.le_trans hS.size (Nat.le_of_eq qb25.symm)
        replace hS := hS.then ew36
        have sw36 := Stp.add ew36 hlow hB (Nat.le_of_eq qb25.symm) hb25.lt
        have h25 : MB w.heap.size (Rw.Add M1 b25) w36 b25 23 [.int .i64 0, .int .i64 0, .string ⟨#[]⟩] := MB.mk' hb25 qb25 hB
        replace hE := hE.trans sw36.below
        replace h4 := h4.stp sw36
        replace hsl := hsl.stp sw36
        replace hk := hk.stp sw36
        replace ht := Rep.stp ht sw36
        replace hats5 := hats5.stp sw36
        replace hats6 := hats6.stp sw36
        replace hsub := fun b h => sw36.sub b (hsub b h)
        replace hlow := sw36.low
        replace hB := Nat.le_trans hB sw36.upd.1
        refine ⟨hS, ?_⟩
        obtain ⟨⟨hpb, hp0⟩, _⟩ := slot_nth hrt el hil
        have k16 := nth_spec t l[i].name (cntN (l.take i) l[i].name : Nat) _ _ _ ht szs6 sns6 hlow hz
        obtain ⟨p, ep⟩ : ∃ p, nthF t l[i].name (cntN (l.take i) l[i].name : Nat) = p := ⟨_, rfl⟩
        rw [ep] at k16 hpb hp0
        refine a_one 11 rfl (by kernel_rfl) (o_call fo18 rfl rfl rfl (k16) ?_)
        rintro _ w37 ⟨rfl, ew37⟩
        replace hS := hS.then ew37
        replace h25 := h25.ext hlow hB ew37
        replace hE := hE.trans (Below.mono ew37 hB)
        replace h4 := h4.ext ew37
        replace hsl := hsl.ext ew37
        replace hk := hk.ext ew37
        replace ht := Rep.ext ht ew37
        replace hats5 := hats5.ext ew37
        replace hats6 := hats6.ext ew37
        replace hlow := hlow.ext ew37
        replace hB := Nat.le_trans hB ew37.size
        refine ⟨hS, ?_⟩
        refine a_p 12 tbOk rfl rfl rfl rfl (by kernel_rfl) (fun _ _ _ h => h) hS ?_
        refine a_p 13 tbOk rfl rfl rfl rfl (by kernel_rfl) (fun _ _ _ h => h) hS ?_
        refine a_p 14 tbOk rfl rfl rfl rfl (by kernel_rfl) (fun _ _ _ h => h) hS ?_
        refine a_one 16 rfl (by kernel_rfl) (o_st tbOk h25.box rfl rfl rfl rfl (by intro u hu; simp [Value.cells] at hu; rcases hu with rfl | rfl | rfl <;> rfl) rfl rfl ?_)
        intro w38 hw38 qw38 bew38
        have uw38 : UpdB _ _ _ := ⟨qw38, bew38⟩
        have sw38 := uw38.stp h25.inM hlow h25.ge
        have frw38 := qw38.2
        replace hS := Below.trans hS (bew38 _ gS_b25)
        replace hE := hE.trans sw38.below
        replace h4 := h4.stp sw38
        replace hsl := hsl.stp sw38
        replace hk := hk.stp sw38
        replace ht := Rep.stp ht sw38
        replace hats5 := hats5.stp sw38
        replace hats6 := hats6.stp sw38
        replace hsub := fun b h => sw38.sub b (hsub b h)
        replace hlow := sw38.low
        replace hB := Nat.le_trans hB sw38.upd.1
        refine ⟨hS, ?_⟩
        replace h25 : MB w.heap.size _ w38 b25 _ [.int .i64 (p.1.base), .int .i64 (p.1.var), .string p.1.name] := ⟨hw38, h25.inM, h25.ge⟩
        refine a_p 17 tbOk rfl rfl rfl rfl (by kernel_rfl) (fun _ _ _ h => h) hS ?_
        refine a_end (by kernel_rfl) ?_
        refine x_seq ?_
        refine c_seq ?_
        refine c_reg ?_
        refine l_cons (o_p tbOk rfl rfl rfl ?_)
        refine l_cons (o_conv (y := p.2) tbOk rfl rfl rfl rfl rfl (IntWalk.i64_in _ (by omega)) rfl rfl ?_)
        refine l_cons (o_p tbOk rfl rfl rfl ?_)
        refine l_cons (o_p tbOk rfl rfl rfl ?_)
        refine l_splitN 180 _ rfl (fun hp2 => ?_) (fun hp2 => ?_)
        · exact absurd hp0 hp2
        refine l_cons (o_p tbOk rfl rfl rfl ?_)
        refine l_cons (o_ld tbOk (h25.cell 0 _ rfl) rfl rfl rfl rfl rfl ?_)
        refine l_cons (o_p tbOk rfl rfl rfl ?_)
        refine l_cons (o_p tbOk rfl rfl rfl ?_)
        refine l_cons (o_p tbOk rfl rfl rfl ?_)
        refine l_nil ?_
        refine x_seq ?_
        refine c_ifN _ rfl (fun c17 => ?_) (fun c17 => ?_)
        · exact absurd hpb c17
        refine c_skip ?_
        refine x_blk ?_
        refine x_seq ?_
        refine c_reg ?_
        refine l_cons (o_p tbOk rfl rfl rfl ?_)
        refine l_cons (o_ar rfl rfl rfl (IntWalk.i64_in _ (by omega)) rfl rfl ?_)
        refine l_cons (o_p tbOk rfl rfl rfl ?_)
        refine l_nil ?_
        exact x_round2 (i + 1) ((Rw.Add M1 b25)) (subL_cons rfl (subL_cons rfl (subL_cons rfl (subL_cons (get_num rfl (by omega)) (subL_nil))))) ⟨by omega, h4, hsl, hk, ht, hlow, hsub, hE, hB⟩ (by omega)
      refine c_exit ?_
      refine x_seqE ?_
      refine x_seqE ?_
      refine x_blkE ?_
      refine x_seq ?_
      refine c_seq ?_
      refine c_reg ?_
      refine l_cons (o_p tbOk rfl rfl rfl ?_)
      refine l_cons (o_conv (y := 0) tbOk rfl rfl rfl rfl rfl rfl rfl rfl ?_)
      refine l_cons (o_p tbOk rfl rfl rfl ?_)
      refine l_cons (o_p tbOk rfl rfl rfl ?_)
      refine l_nil ?_
      refine x_seq ?_
      refine c_ret ?_
      refine x_ret1 rfl rfl ?_
      exact ⟨by simp, hE⟩
    refine c_skip ?_
    refine x_seq ?_
    refine c_seq ?_
    refine c_reg ?_
    refine l_cons (o_lds tbOk (fun j v hv => h4.cell j v hv) rfl rfl rfl rfl rfl rfl ?_)
    obtain ⟨l, el⟩ : ∃ l, (flatF t).1 = l := ⟨_, rfl⟩
    have k18 := slots_spec t _ _ _ ht hlow hz
    rw [hrt, el] at k18
    have hll : l.length ≤ 2000000 := by have := flatF_len t; rw [el] at this; omega
    refine l_cons (o_call fo16 rfl rfl rfl (k18) ?_)
    rintro _ w39 ⟨⟨sv, rfl, hsl⟩, ew39⟩
    replace hE := hE.trans (Below.mono ew39 hB)
    replace ht := Rep.ext ht ew39
    replace hk := hk.ext ew39
    replace hs := Rep.ext hs ew39
    replace hks := hks.ext ew39
    replace h4 := h4.ext ew39
    replace h5 := h5.ext ew39
    replace hslbl0 := hslbl0.ext ew39
    replace hW := Rep.ext hW ew39
    replace hkW := hkW.ext ew39
    replace h9 := h9.ext ew39
    replace h10 := h10.ext ew39
    replace h12 := h12.ext ew39
    replace h14 := h14.ext ew39
    replace hslbl1 := hslbl1.ext ew39
    replace hslbl2 := hslbl2.ext ew39
    replace hx := hx.ext ew39
    replace hatv3 := hatv3.ext ew39
    replace hlow := hlow.ext ew39
    replace hB := Nat.le_trans hB ew39.size
    refine l_cons (o_p tbOk rfl rfl rfl ?_)
    refine l_cons (o_p tbOk rfl rfl rfl ?_)
    refine l_cons (o_p tbOk rfl rfl rfl ?_)
    refine l_cons (o_p tbOk rfl rfl rfl ?_)
    refine l_cons (o_p tbOk rfl rfl rfl ?_)
    refine l_nil ?_
    refine x_seq ?_
    refine c_seq ?_
    refine c_seq ?_
    refine c_reg ?_
    refine l_cons (o_p tbOk rfl rfl rfl ?_)
    refine l_nil ?_
    refine x_seq ?_
    refine c_blk ?_
    refine c_loop2 (X := Nat) (Y := Nat → Prop) (fun i M1 => [(4, .pointer (some ⟨b4, 0, none⟩)), (22, sv), (23, .int .u8 0), (24, .int .i64 (i : Nat))]) (fun i M1 w' => i ≤ l.length ∧ At M1 w' b4 0 [.int .u8 t.op, .string t.name, .int .i64 t.n, kv] ∧ Sl M1 w' sv (slotsF l) ∧ Sl M1 w' kv t.kids ∧ Rep.R M1 w' (.agg #[.int .u8 t.op, .string t.name, .int .i64 t.n, kv]) t ∧ Low M1 w' ∧ (∀ b, M b → M1 b) ∧ Below w.heap.size w w' ∧ w.heap.size ≤ w'.heap.size) (fun i M1 => l.length - i) (0) (M) (subL_cons rfl (subL_cons rfl (subL_cons rfl (subL_cons rfl (subL_nil))))) ?_ ?_
    · exact ⟨Nat.zero_le _, h4, hsl, hk, ht, hlow, hsub, hE, hB⟩
    rintro i M1 w40 ⟨hi, h4, hsl, hk, ht, hlow, hsub, hE, hB⟩
    refine c_seq ?_
    refine c_seq ?_
    refine c_reg ?_
    refine l_cons (o_p tbOk rfl rfl rfl ?_)
    refine l_cons (o_p tbOk rfl rfl rfl ?_)
    refine l_cons (o_len tbOk hsl rfl rfl rfl rfl rfl ?_)
    refine l_cons (o_p tbOk rfl rfl rfl ?_)
    refine l_nil ?_
    refine x_seq ?_
    refine c_ifP _ rfl (fun c19 => ?_) (fun c19 => ?_)
    · have hil : i < l.length := by rw [slots_len] at c19; omega
      refine c_skip ?_
      refine x_seq ?_
      refine c_seq ?_
      refine c_blk ?_
      refine c_seq ?_
      refine a_beg Ext rfl ?_
      intro w41 ew41
      replace hE := hE.trans (Below.mono ew41 hB)
      replace h4 := h4.ext ew41
      replace hsl := hsl.ext ew41
      replace hk := hk.ext ew41
      replace ht := Rep.ext ht ew41
      replace hlow := hlow.ext ew41
      replace hB := Nat.le_trans hB ew41.size
      have hS : Ext w41 w41 := ext_refl _
      have D_h4 := h4
      have D_hsl := hsl
      have D_hk := hk
      refine a_lds 0 tbOk (fun _ hs j v hv => (D_h4.ext hs).cell j v hv) rfl rfl rfl rfl rfl rfl rfl (by kernel_rfl) (fun _ _ _ h => h) hS ?_
      refine a_p 1 tbOk rfl rfl rfl rfl (by kernel_rfl) (fun _ _ _ h => h) hS ?_
      refine a_p 2 tbOk rfl rfl rfl rfl (by kernel_rfl) (fun _ _ _ h => h) hS ?_
      refine a_ixS 3 tbOk D_hsl (slots_get hil) rfl rfl rfl rfl rfl rfl rfl rfl rfl rfl (by kernel_rfl) (fun _ _ _ _ h => h) hS ?_
      intro ebs4 eos4 eus4 hrs4 hats4
      obtain ⟨rfl, szs4, sns4⟩ := hrs4
      replace hats4 : At _ w41 ebs4 eos4 [.string l[i].name, .int .i64 ((cntN (l.take i) l[i].name : Nat) : Int)] := hats4
      refine a_p 4 tbOk rfl rfl rfl rfl (by kernel_rfl) (fun _ _ _ h => h) hS ?_
      refine a_ld 5 tbOk (fun _ hs => (hats4.ext hs).cell 0 _ rfl) rfl rfl rfl rfl rfl rfl (by kernel_rfl) (fun _ _ _ h => h) hS ?_
      refine a_p 6 tbOk rfl rfl rfl rfl (by kernel_rfl) (fun _ _ _ h => h) hS ?_
      refine a_p 7 tbOk rfl rfl rfl rfl (by kernel_rfl) (fun _ _ _ h => h) hS ?_
      refine a_ixS 8 tbOk D_hsl (slots_get hil) rfl rfl rfl rfl rfl rfl rfl rfl rfl rfl (by kernel_rfl) (fun _ _ _ _ h => h) hS ?_
      intro ebs5 eos5 eus5 hrs5 hats5
      obtain ⟨rfl, szs5, sns5⟩ := hrs5
      replace hats5 : At _ w41 ebs5 eos5 [.string l[i].name, .int .i64 ((cntN (l.take i) l[i].name : Nat) : Int)] := hats5
      refine a_p 9 tbOk rfl rfl rfl rfl (by kernel_rfl) (fun _ _ _ h => h) hS ?_
      refine a_ld 10 tbOk (fun _ hs => (hats5.ext hs).cell 1 _ rfl) rfl rfl rfl rfl rfl rfl (by kernel_rfl) (fun _ _ _ h => h) hS ?_
      refine a_all [11, 15] (by kernel_rfl) rfl (all_cons (i := 11) rfl ?_ (all_cons (i := 15) rfl ?_ all_nil))
      · obtain ⟨⟨hpb, hp0⟩, _⟩ := slot_nth hrt el hil
        have k20 := nth_spec t l[i].name (cntN (l.take i) l[i].name : Nat) _ _ _ ht szs5 sns5 hlow hz
        obtain ⟨p, ep⟩ : ∃ p, nthF t l[i].name (cntN (l.take i) l[i].name : Nat) = p := ⟨_, rfl⟩
        rw [ep] at k20 hpb hp0
        refine o_call fo18 rfl rfl rfl (k20) ?_
        rintro _ w42 ⟨rfl, ew42⟩
        replace hS := hS.then ew42
        replace hE := hE.trans (Below.mono ew42 hB)
        replace h4 := h4.ext ew42
        replace hsl := hsl.ext ew42
        replace hk := hk.ext ew42
        replace ht := Rep.ext ht ew42
        replace hats4 := hats4.ext ew42
        replace hats5 := hats5.ext ew42
        replace hlow := hlow.ext ew42
        replace hB := Nat.le_trans hB ew42.size
        refine ⟨hS, ?_⟩
        refine a_p 12 tbOk rfl rfl rfl rfl (by kernel_rfl) (fun _ _ _ h => h) hS ?_
        refine a_p 13 tbOk rfl rfl rfl rfl (by kernel_rfl) (fun _ _ _ h => h) hS ?_
        refine a_p 14 tbOk rfl rfl rfl rfl (by kernel_rfl) (fun _ _ _ h => h) hS ?_
        refine a_one 15 rfl (by kernel_rfl) (o_new tbOk rfl rfl rfl ?_)
        intro b25 w43 qb25 ew43 hb25
        have gS_b25 := Nat.le_trans hS.size (Nat.le_of_eq qb25.symm)
        replace hS := hS.then ew43
        have sw43 := Stp.add ew43 hlow hB (Nat.le_of_eq qb25.symm) hb25.lt
        have h25 : MB w.heap.size (Rw.Add M1 b25) w43 b25 23 [.int .i64 0, .int .i64 0, .string ⟨#[]⟩] := MB.mk' hb25 qb25 hB
        replace hE := hE.trans sw43.below
        replace h4 := h4.stp sw43
        replace hsl := hsl.stp sw43
        replace hk := hk.stp sw43
        replace ht := Rep.stp ht sw43
        replace hats4 := hats4.stp sw43
        replace hats5 := hats5.stp sw43
        replace hsub := fun b h => sw43.sub b (hsub b h)
        replace hlow := sw43.low
        replace hB := Nat.le_trans hB sw43.upd.1
        refine ⟨hS, ?_⟩
        refine a_one 16 rfl (by kernel_rfl) (o_st tbOk h25.box rfl rfl rfl rfl (by intro u hu; simp [Value.cells] at hu; rcases hu with rfl | rfl | rfl <;> rfl) rfl rfl ?_)
        intro w44 hw44 qw44 bew44
        have uw44 : UpdB _ _ _ := ⟨qw44, bew44⟩
        have sw44 := uw44.stp h25.inM hlow h25.ge
        have frw44 := qw44.2
        replace hS := Below.trans hS (bew44 _ gS_b25)
        replace hE := hE.trans sw44.below
        replace h4 := h4.stp sw44
        replace hsl := hsl.stp sw44
        replace hk := hk.stp sw44
        replace ht := Rep.stp ht sw44
        replace hats4 := hats4.stp sw44
        replace hats5 := hats5.stp sw44
        replace hsub := fun b h => sw44.sub b (hsub b h)
        replace hlow := sw44.low
        replace hB := Nat.le_trans hB sw44.upd.1
        refine ⟨hS, ?_⟩
        replace h25 : MB w.heap.size _ w44 b25 _ [.int .i64 (p.1.base), .int .i64 (p.1.var), .string p.1.name] := ⟨hw44, h25.inM, h25.ge⟩
        refine a_p 17 tbOk rfl rfl rfl rfl (by kernel_rfl) (fun _ _ _ h => h) hS ?_
        refine a_end (by kernel_rfl) ?_
        refine x_seq ?_
        refine c_seq ?_
        refine c_reg ?_
        refine l_cons (o_p tbOk rfl rfl rfl ?_)
        refine l_cons (o_conv (y := p.2) tbOk rfl rfl rfl rfl rfl (IntWalk.i64_in _ (by omega)) rfl rfl ?_)
        refine l_cons (o_p tbOk rfl rfl rfl ?_)
        refine l_cons (o_p tbOk rfl rfl rfl ?_)
        refine l_splitN 180 _ rfl (fun hp2 => ?_) (fun hp2 => ?_)
        · exact absurd hp0 hp2
        refine l_cons (o_p tbOk rfl rfl rfl ?_)
        refine l_cons (o_ld tbOk (h25.cell 0 _ rfl) rfl rfl rfl rfl rfl ?_)
        refine l_cons (o_p tbOk rfl rfl rfl ?_)
        refine l_cons (o_p tbOk rfl rfl rfl ?_)
        refine l_cons (o_p tbOk rfl rfl rfl ?_)
        refine l_nil ?_
        refine x_seq ?_
        refine c_ifN _ rfl (fun c21 => ?_) (fun c21 => ?_)
        · exact absurd hpb c21
        refine c_skip ?_
        refine x_blk ?_
        refine x_seq ?_
        refine c_reg ?_
        refine l_cons (o_p tbOk rfl rfl rfl ?_)
        refine l_cons (o_ar rfl rfl rfl (IntWalk.i64_in _ (by omega)) rfl rfl ?_)
        refine l_cons (o_p tbOk rfl rfl rfl ?_)
        refine l_nil ?_
        exact x_round2 (i + 1) ((Rw.Add M1 b25)) (subL_cons rfl (subL_cons rfl (subL_cons rfl (subL_cons (get_num rfl (by omega)) (subL_nil))))) ⟨by omega, h4, hsl, hk, ht, hlow, hsub, hE, hB⟩ (by omega)
      refine o_new tbOk rfl rfl rfl ?_
      intro b25 w45 qb25 ew45 hb25
      have gS_b25 := Nat.le_trans hS.size (Nat.le_of_eq qb25.symm)
      replace hS := hS.then ew45
      have sw45 := Stp.add ew45 hlow hB (Nat.le_of_eq qb25.symm) hb25.lt
      have h25 : MB w.heap.size (Rw.Add M1 b25) w45 b25 23 [.int .i64 0, .int .i64 0, .string ⟨#[]⟩] := MB.mk' hb25 qb25 hB
      replace hE := hE.trans sw45.below
      replace h4 := h4.stp sw45
      replace hsl := hsl.stp sw45
      replace hk := hk.stp sw45
      replace ht := Rep.stp ht sw45
      replace hats4 := hats4.stp sw45
      replace hats5 := hats5.stp sw45
      replace hsub := fun b h => sw45.sub b (hsub b h)
      replace hlow := sw45.low
      replace hB := Nat.le_trans hB sw45.upd.1
      refine ⟨hS, ?_⟩
      obtain ⟨⟨hpb, hp0⟩, _⟩ := slot_nth hrt el hil
      have k22 := nth_spec t l[i].name (cntN (l.take i) l[i].name : Nat) _ _ _ ht szs5 sns5 hlow hz
      obtain ⟨p, ep⟩ : ∃ p, nthF t l[i].name (cntN (l.take i) l[i].name : Nat) = p := ⟨_, rfl⟩
      rw [ep] at k22 hpb hp0
      refine a_one 11 rfl (by kernel_rfl) (o_call fo18 rfl rfl rfl (k22) ?_)
      rintro _ w46 ⟨rfl, ew46⟩
      replace hS := hS.then ew46
      replace h25 := h25.ext hlow hB ew46
      replace hE := hE.trans (Below.mono ew46 hB)
      replace h4 := h4.ext ew46
      replace hsl := hsl.ext ew46
      replace hk := hk.ext ew46
      replace ht := Rep.ext ht ew46
      replace hats4 := hats4.ext ew46
      replace hats5 := hats5.ext ew46
      replace hlow := hlow.ext ew46
      replace hB := Nat.le_trans hB ew46.size
      refine ⟨hS, ?_⟩
      refine a_p 12 tbOk rfl rfl rfl rfl (by kernel_rfl) (fun _ _ _ h => h) hS ?_
      refine a_p 13 tbOk rfl rfl rfl rfl (by kernel_rfl) (fun _ _ _ h => h) hS ?_
      refine a_p 14 tbOk rfl rfl rfl rfl (by kernel_rfl) (fun _ _ _ h => h) hS ?_
      refine a_one 16 rfl (by kernel_rfl) (o_st tbOk h25.box rfl rfl rfl rfl (by intro u hu; simp [Value.cells] at hu; rcases hu with rfl | rfl | rfl <;> rfl) rfl rfl ?_)
      intro w47 hw47 qw47 bew47
      have uw47 : UpdB _ _ _ := ⟨qw47, bew47⟩
      have sw47 := uw47.stp h25.inM hlow h25.ge
      have frw47 := qw47.2
      replace hS := Below.trans hS (bew47 _ gS_b25)
      replace hE := hE.trans sw47.below
      replace h4 := h4.stp sw47
      replace hsl := hsl.stp sw47
      replace hk := hk.stp sw47
      replace ht := Rep.stp ht sw47
      replace hats4 := hats4.stp sw47
      replace hats5 := hats5.stp sw47
      replace hsub := fun b h => sw47.sub b (hsub b h)
      replace hlow := sw47.low
      replace hB := Nat.le_trans hB sw47.upd.1
      refine ⟨hS, ?_⟩
      replace h25 : MB w.heap.size _ w47 b25 _ [.int .i64 (p.1.base), .int .i64 (p.1.var), .string p.1.name] := ⟨hw47, h25.inM, h25.ge⟩
      refine a_p 17 tbOk rfl rfl rfl rfl (by kernel_rfl) (fun _ _ _ h => h) hS ?_
      refine a_end (by kernel_rfl) ?_
      refine x_seq ?_
      refine c_seq ?_
      refine c_reg ?_
      refine l_cons (o_p tbOk rfl rfl rfl ?_)
      refine l_cons (o_conv (y := p.2) tbOk rfl rfl rfl rfl rfl (IntWalk.i64_in _ (by omega)) rfl rfl ?_)
      refine l_cons (o_p tbOk rfl rfl rfl ?_)
      refine l_cons (o_p tbOk rfl rfl rfl ?_)
      refine l_splitN 180 _ rfl (fun hp2 => ?_) (fun hp2 => ?_)
      · exact absurd hp0 hp2
      refine l_cons (o_p tbOk rfl rfl rfl ?_)
      refine l_cons (o_ld tbOk (h25.cell 0 _ rfl) rfl rfl rfl rfl rfl ?_)
      refine l_cons (o_p tbOk rfl rfl rfl ?_)
      refine l_cons (o_p tbOk rfl rfl rfl ?_)
      refine l_cons (o_p tbOk rfl rfl rfl ?_)
      refine l_nil ?_
      refine x_seq ?_
      refine c_ifN _ rfl (fun c23 => ?_) (fun c23 => ?_)
      · exact absurd hpb c23
      refine c_skip ?_
      refine x_blk ?_
      refine x_seq ?_
      refine c_reg ?_
      refine l_cons (o_p tbOk rfl rfl rfl ?_)
      refine l_cons (o_ar rfl rfl rfl (IntWalk.i64_in _ (by omega)) rfl rfl ?_)
      refine l_cons (o_p tbOk rfl rfl rfl ?_)
      refine l_nil ?_
      exact x_round2 (i + 1) ((Rw.Add M1 b25)) (subL_cons rfl (subL_cons rfl (subL_cons rfl (subL_cons (get_num rfl (by omega)) (subL_nil))))) ⟨by omega, h4, hsl, hk, ht, hlow, hsub, hE, hB⟩ (by omega)
    refine c_exit ?_
    refine x_seqE ?_
    refine x_seqE ?_
    refine x_blkE ?_
    refine x_seq ?_
    refine c_seq ?_
    refine c_reg ?_
    refine l_cons (o_p tbOk rfl rfl rfl ?_)
    refine l_cons (o_conv (y := 0) tbOk rfl rfl rfl rfl rfl rfl rfl rfl ?_)
    refine l_cons (o_p tbOk rfl rfl rfl ?_)
    refine l_cons (o_p tbOk rfl rfl rfl ?_)
    refine l_nil ?_
    refine x_seq ?_
    refine c_ret ?_
    refine x_ret1 rfl rfl ?_
    exact ⟨by simp, hE⟩
  refine l_cons (o_skip rfl rfl ?_)
  refine l_cons (o_skip rfl rfl ?_)
  refine l_cons (o_skip rfl rfl ?_)
  refine l_cons (o_p tbOk rfl rfl rfl ?_)
  refine l_nil ?_
  refine x_seq ?_
  refine c_ifF rfl ?_
  refine c_skip ?_
  refine x_seq ?_
  refine c_seq ?_
  refine c_reg ?_
  refine l_cons (o_lds tbOk (fun j v hv => h4.cell j v hv) rfl rfl rfl rfl rfl rfl ?_)
  obtain ⟨l, el⟩ : ∃ l, (flatF t).1 = l := ⟨_, rfl⟩
  have k24 := slots_spec t _ _ _ ht hlow hz
  rw [hrt, el] at k24
  have hll : l.length ≤ 2000000 := by have := flatF_len t; rw [el] at this; omega
  refine l_cons (o_call fo16 rfl rfl rfl (k24) ?_)
  rintro _ w48 ⟨⟨sv, rfl, hsl⟩, ew48⟩
  replace hE := hE.trans (Below.mono ew48 hB)
  replace ht := Rep.ext ht ew48
  replace hk := hk.ext ew48
  replace hs := Rep.ext hs ew48
  replace hks := hks.ext ew48
  replace h4 := h4.ext ew48
  replace h5 := h5.ext ew48
  replace hslbl0 := hslbl0.ext ew48
  replace hW := Rep.ext hW ew48
  replace hkW := hkW.ext ew48
  replace h9 := h9.ext ew48
  replace h10 := h10.ext ew48
  replace h12 := h12.ext ew48
  replace h14 := h14.ext ew48
  replace hslbl1 := hslbl1.ext ew48
  replace hslbl2 := hslbl2.ext ew48
  replace hx := hx.ext ew48
  replace hatv3 := hatv3.ext ew48
  replace hlow := hlow.ext ew48
  replace hB := Nat.le_trans hB ew48.size
  refine l_cons (o_p tbOk rfl rfl rfl ?_)
  refine l_cons (o_p tbOk rfl rfl rfl ?_)
  refine l_cons (o_p tbOk rfl rfl rfl ?_)
  refine l_cons (o_p tbOk rfl rfl rfl ?_)
  refine l_cons (o_p tbOk rfl rfl rfl ?_)
  refine l_nil ?_
  refine x_seq ?_
  refine c_seq ?_
  refine c_seq ?_
  refine c_reg ?_
  refine l_cons (o_p tbOk rfl rfl rfl ?_)
  refine l_nil ?_
  refine x_seq ?_
  refine c_blk ?_
  refine c_loop2 (X := Nat) (Y := Nat → Prop) (fun i M1 => [(4, .pointer (some ⟨b4, 0, none⟩)), (22, sv), (23, .int .u8 0), (24, .int .i64 (i : Nat))]) (fun i M1 w' => i ≤ l.length ∧ At M1 w' b4 0 [.int .u8 t.op, .string t.name, .int .i64 t.n, kv] ∧ Sl M1 w' sv (slotsF l) ∧ Sl M1 w' kv t.kids ∧ Rep.R M1 w' (.agg #[.int .u8 t.op, .string t.name, .int .i64 t.n, kv]) t ∧ Low M1 w' ∧ (∀ b, M b → M1 b) ∧ Below w.heap.size w w' ∧ w.heap.size ≤ w'.heap.size) (fun i M1 => l.length - i) (0) (M) (subL_cons rfl (subL_cons rfl (subL_cons rfl (subL_cons rfl (subL_nil))))) ?_ ?_
  · exact ⟨Nat.zero_le _, h4, hsl, hk, ht, hlow, hsub, hE, hB⟩
  rintro i M1 w49 ⟨hi, h4, hsl, hk, ht, hlow, hsub, hE, hB⟩
  refine c_seq ?_
  refine c_seq ?_
  refine c_reg ?_
  refine l_cons (o_p tbOk rfl rfl rfl ?_)
  refine l_cons (o_p tbOk rfl rfl rfl ?_)
  refine l_cons (o_len tbOk hsl rfl rfl rfl rfl rfl ?_)
  refine l_cons (o_p tbOk rfl rfl rfl ?_)
  refine l_nil ?_
  refine x_seq ?_
  refine c_ifP _ rfl (fun c25 => ?_) (fun c25 => ?_)
  · have hil : i < l.length := by rw [slots_len] at c25; omega
    refine c_skip ?_
    refine x_seq ?_
    refine c_seq ?_
    refine c_blk ?_
    refine c_seq ?_
    refine a_beg Ext rfl ?_
    intro w50 ew50
    replace hE := hE.trans (Below.mono ew50 hB)
    replace h4 := h4.ext ew50
    replace hsl := hsl.ext ew50
    replace hk := hk.ext ew50
    replace ht := Rep.ext ht ew50
    replace hlow := hlow.ext ew50
    replace hB := Nat.le_trans hB ew50.size
    have hS : Ext w50 w50 := ext_refl _
    have D_h4 := h4
    have D_hsl := hsl
    have D_hk := hk
    refine a_lds 0 tbOk (fun _ hs j v hv => (D_h4.ext hs).cell j v hv) rfl rfl rfl rfl rfl rfl rfl (by kernel_rfl) (fun _ _ _ h => h) hS ?_
    refine a_p 1 tbOk rfl rfl rfl rfl (by kernel_rfl) (fun _ _ _ h => h) hS ?_
    refine a_p 2 tbOk rfl rfl rfl rfl (by kernel_rfl) (fun _ _ _ h => h) hS ?_
    refine a_ixS 3 tbOk D_hsl (slots_get hil) rfl rfl rfl rfl rfl rfl rfl rfl rfl rfl (by kernel_rfl) (fun _ _ _ _ h => h) hS ?_
    intro ebs4 eos4 eus4 hrs4 hats4
    obtain ⟨rfl, szs4, sns4⟩ := hrs4
    replace hats4 : At _ w50 ebs4 eos4 [.string l[i].name, .int .i64 ((cntN (l.take i) l[i].name : Nat) : Int)] := hats4
    refine a_p 4 tbOk rfl rfl rfl rfl (by kernel_rfl) (fun _ _ _ h => h) hS ?_
    refine a_ld 5 tbOk (fun _ hs => (hats4.ext hs).cell 0 _ rfl) rfl rfl rfl rfl rfl rfl (by kernel_rfl) (fun _ _ _ h => h) hS ?_
    refine a_p 6 tbOk rfl rfl rfl rfl (by kernel_rfl) (fun _ _ _ h => h) hS ?_
    refine a_p 7 tbOk rfl rfl rfl rfl (by kernel_rfl) (fun _ _ _ h => h) hS ?_
    refine a_ixS 8 tbOk D_hsl (slots_get hil) rfl rfl rfl rfl rfl rfl rfl rfl rfl rfl (by kernel_rfl) (fun _ _ _ _ h => h) hS ?_
    intro ebs5 eos5 eus5 hrs5 hats5
    obtain ⟨rfl, szs5, sns5⟩ := hrs5
    replace hats5 : At _ w50 ebs5 eos5 [.string l[i].name, .int .i64 ((cntN (l.take i) l[i].name : Nat) : Int)] := hats5
    refine a_p 9 tbOk rfl rfl rfl rfl (by kernel_rfl) (fun _ _ _ h => h) hS ?_
    refine a_ld 10 tbOk (fun _ hs => (hats5.ext hs).cell 1 _ rfl) rfl rfl rfl rfl rfl rfl (by kernel_rfl) (fun _ _ _ h => h) hS ?_
    refine a_all [11, 15] (by kernel_rfl) rfl (all_cons (i := 11) rfl ?_ (all_cons (i := 15) rfl ?_ all_nil))
    · obtain ⟨⟨hpb, hp0⟩, _⟩ := slot_nth hrt el hil
      have k26 := nth_spec t l[i].name (cntN (l.take i) l[i].name : Nat) _ _ _ ht szs5 sns5 hlow hz
      obtain ⟨p, ep⟩ : ∃ p, nthF t l[i].name (cntN (l.take i) l[i].name : Nat) = p := ⟨_, rfl⟩
      rw [ep] at k26 hpb hp0
      refine o_call fo18 rfl rfl rfl (k26) ?_
      rintro _ w51 ⟨rfl, ew51⟩
      replace hS := hS.then ew51
      replace hE := hE.trans (Below.mono ew51 hB)
      replace h4 := h4.ext ew51
      replace hsl := hsl.ext ew51
      replace hk := hk.ext ew51
      replace ht := Rep.ext ht ew51
      replace hats4 := hats4.ext ew51
      replace hats5 := hats5.ext ew51
      replace hlow := hlow.ext ew51
      replace hB := Nat.le_trans hB ew51.size
      refine ⟨hS, ?_⟩
      refine a_p 12 tbOk rfl rfl rfl rfl (by kernel_rfl) (fun _ _ _ h => h) hS ?_
      refine a_p 13 tbOk rfl rfl rfl rfl (by kernel_rfl) (fun _ _ _ h => h) hS ?_
      refine a_p 14 tbOk rfl rfl rfl rfl (by kernel_rfl) (fun _ _ _ h => h) hS ?_
      refine a_one 15 rfl (by kernel_rfl) (o_new tbOk rfl rfl rfl ?_)
      intro b25 w52 qb25 ew52 hb25
      have gS_b25 := Nat.le_trans hS.size (Nat.le_of_eq qb25.symm)
      replace hS := hS.then ew52
      have sw52 := Stp.add ew52 hlow hB (Nat.le_of_eq qb25.symm) hb25.lt
      have h25 : MB w.heap.size (Rw.Add M1 b25) w52 b25 23 [.int .i64 0, .int .i64 0, .string ⟨#[]⟩] := MB.mk' hb25 qb25 hB
      replace hE := hE.trans sw52.below
      replace h4 := h4.stp sw52
      replace hsl := hsl.stp sw52
      replace hk := hk.stp sw52
      replace ht := Rep.stp ht sw52
      replace hats4 := hats4.stp sw52
      replace hats5 := hats5.stp sw52
      replace hsub := fun b h => sw52.sub b (hsub b h)
      replace hlow := sw52.low
      replace hB := Nat.le_trans hB sw52.upd.1
      refine ⟨hS, ?_⟩
      refine a_one 16 rfl (by kernel_rfl) (o_st tbOk h25.box rfl rfl rfl rfl (by intro u hu; simp [Value.cells] at hu; rcases hu with rfl | rfl | rfl <;> rfl) rfl rfl ?_)
      intro w53 hw53 qw53 bew53
      have uw53 : UpdB _ _ _ := ⟨qw53, bew53⟩
      have sw53 := uw53.stp h25.inM hlow h25.ge
      have frw53 := qw53.2
      replace hS := Below.trans hS (bew53 _ gS_b25)
      replace hE := hE.trans sw53.below
      replace h4 := h4.stp sw53
      replace hsl := hsl.stp sw53
      replace hk := hk.stp sw53
      replace ht := Rep.stp ht sw53
      replace hats4 := hats4.stp sw53
      replace hats5 := hats5.stp sw53
      replace hsub := fun b h => sw53.sub b (hsub b h)
      replace hlow := sw53.low
      replace hB := Nat.le_trans hB sw53.upd.1
      refine ⟨hS, ?_⟩
      replace h25 : MB w.heap.size _ w53 b25 _ [.int .i64 (p.1.base), .int .i64 (p.1.var), .string p.1.name] := ⟨hw53, h25.inM, h25.ge⟩
      refine a_p 17 tbOk rfl rfl rfl rfl (by kernel_rfl) (fun _ _ _ h => h) hS ?_
      refine a_end (by kernel_rfl) ?_
      refine x_seq ?_
      refine c_seq ?_
      refine c_reg ?_
      refine l_cons (o_p tbOk rfl rfl rfl ?_)
      refine l_cons (o_conv (y := p.2) tbOk rfl rfl rfl rfl rfl (IntWalk.i64_in _ (by omega)) rfl rfl ?_)
      refine l_cons (o_p tbOk rfl rfl rfl ?_)
      refine l_cons (o_p tbOk rfl rfl rfl ?_)
      refine l_splitN 180 _ rfl (fun hp2 => ?_) (fun hp2 => ?_)
      · exact absurd hp0 hp2
      refine l_cons (o_p tbOk rfl rfl rfl ?_)
      refine l_cons (o_ld tbOk (h25.cell 0 _ rfl) rfl rfl rfl rfl rfl ?_)
      refine l_cons (o_p tbOk rfl rfl rfl ?_)
      refine l_cons (o_p tbOk rfl rfl rfl ?_)
      refine l_cons (o_p tbOk rfl rfl rfl ?_)
      refine l_nil ?_
      refine x_seq ?_
      refine c_ifN _ rfl (fun c27 => ?_) (fun c27 => ?_)
      · exact absurd hpb c27
      refine c_skip ?_
      refine x_blk ?_
      refine x_seq ?_
      refine c_reg ?_
      refine l_cons (o_p tbOk rfl rfl rfl ?_)
      refine l_cons (o_ar rfl rfl rfl (IntWalk.i64_in _ (by omega)) rfl rfl ?_)
      refine l_cons (o_p tbOk rfl rfl rfl ?_)
      refine l_nil ?_
      exact x_round2 (i + 1) ((Rw.Add M1 b25)) (subL_cons rfl (subL_cons rfl (subL_cons rfl (subL_cons (get_num rfl (by omega)) (subL_nil))))) ⟨by omega, h4, hsl, hk, ht, hlow, hsub, hE, hB⟩ (by omega)
    refine o_new tbOk rfl rfl rfl ?_
    intro b25 w54 qb25 ew54 hb25
    have gS_b25 := Nat.le_trans hS.size (Nat.le_of_eq qb25.symm)
    replace hS := hS.then ew54
    have sw54 := Stp.add ew54 hlow hB (Nat.le_of_eq qb25.symm) hb25.lt
    have h25 : MB w.heap.size (Rw.Add M1 b25) w54 b25 23 [.int .i64 0, .int .i64 0, .string ⟨#[]⟩] := MB.mk' hb25 qb25 hB
    replace hE := hE.trans sw54.below
    replace h4 := h4.stp sw54
    replace hsl := hsl.stp sw54
    replace hk := hk.stp sw54
    replace ht := Rep.stp ht sw54
    replace hats4 := hats4.stp sw54
    replace hats5 := hats5.stp sw54
    replace hsub := fun b h => sw54.sub b (hsub b h)
    replace hlow := sw54.low
    replace hB := Nat.le_trans hB sw54.upd.1
    refine ⟨hS, ?_⟩
    obtain ⟨⟨hpb, hp0⟩, _⟩ := slot_nth hrt el hil
    have k28 := nth_spec t l[i].name (cntN (l.take i) l[i].name : Nat) _ _ _ ht szs5 sns5 hlow hz
    obtain ⟨p, ep⟩ : ∃ p, nthF t l[i].name (cntN (l.take i) l[i].name : Nat) = p := ⟨_, rfl⟩
    rw [ep] at k28 hpb hp0
    refine a_one 11 rfl (by kernel_rfl) (o_call fo18 rfl rfl rfl (k28) ?_)
    rintro _ w55 ⟨rfl, ew55⟩
    replace hS := hS.then ew55
    replace h25 := h25.ext hlow hB ew55
    replace hE := hE.trans (Below.mono ew55 hB)
    replace h4 := h4.ext ew55
    replace hsl := hsl.ext ew55
    replace hk := hk.ext ew55
    replace ht := Rep.ext ht ew55
    replace hats4 := hats4.ext ew55
    replace hats5 := hats5.ext ew55
    replace hlow := hlow.ext ew55
    replace hB := Nat.le_trans hB ew55.size
    refine ⟨hS, ?_⟩
    refine a_p 12 tbOk rfl rfl rfl rfl (by kernel_rfl) (fun _ _ _ h => h) hS ?_
    refine a_p 13 tbOk rfl rfl rfl rfl (by kernel_rfl) (fun _ _ _ h => h) hS ?_
    refine a_p 14 tbOk rfl rfl rfl rfl (by kernel_rfl) (fun _ _ _ h => h) hS ?_
    refine a_one 16 rfl (by kernel_rfl) (o_st tbOk h25.box rfl rfl rfl rfl (by intro u hu; simp [Value.cells] at hu; rcases hu with rfl | rfl | rfl <;> rfl) rfl rfl ?_)
    intro w56 hw56 qw56 bew56
    have uw56 : UpdB _ _ _ := ⟨qw56, bew56⟩
    have sw56 := uw56.stp h25.inM hlow h25.ge
    have frw56 := qw56.2
    replace hS := Below.trans hS (bew56 _ gS_b25)
    replace hE := hE.trans sw56.below
    replace h4 := h4.stp sw56
    replace hsl := hsl.stp sw56
    replace hk := hk.stp sw56
    replace ht := Rep.stp ht sw56
    replace hats4 := hats4.stp sw56
    replace hats5 := hats5.stp sw56
    replace hsub := fun b h => sw56.sub b (hsub b h)
    replace hlow := sw56.low
    replace hB := Nat.le_trans hB sw56.upd.1
    refine ⟨hS, ?_⟩
    replace h25 : MB w.heap.size _ w56 b25 _ [.int .i64 (p.1.base), .int .i64 (p.1.var), .string p.1.name] := ⟨hw56, h25.inM, h25.ge⟩
    refine a_p 17 tbOk rfl rfl rfl rfl (by kernel_rfl) (fun _ _ _ h => h) hS ?_
    refine a_end (by kernel_rfl) ?_
    refine x_seq ?_
    refine c_seq ?_
    refine c_reg ?_
    refine l_cons (o_p tbOk rfl rfl rfl ?_)
    refine l_cons (o_conv (y := p.2) tbOk rfl rfl rfl rfl rfl (IntWalk.i64_in _ (by omega)) rfl rfl ?_)
    refine l_cons (o_p tbOk rfl rfl rfl ?_)
    refine l_cons (o_p tbOk rfl rfl rfl ?_)
    refine l_splitN 180 _ rfl (fun hp2 => ?_) (fun hp2 => ?_)
    · exact absurd hp0 hp2
    refine l_cons (o_p tbOk rfl rfl rfl ?_)
    refine l_cons (o_ld tbOk (h25.cell 0 _ rfl) rfl rfl rfl rfl rfl ?_)
    refine l_cons (o_p tbOk rfl rfl rfl ?_)
    refine l_cons (o_p tbOk rfl rfl rfl ?_)
    refine l_cons (o_p tbOk rfl rfl rfl ?_)
    refine l_nil ?_
    refine x_seq ?_
    refine c_ifN _ rfl (fun c29 => ?_) (fun c29 => ?_)
    · exact absurd hpb c29
    refine c_skip ?_
    refine x_blk ?_
    refine x_seq ?_
    refine c_reg ?_
    refine l_cons (o_p tbOk rfl rfl rfl ?_)
    refine l_cons (o_ar rfl rfl rfl (IntWalk.i64_in _ (by omega)) rfl rfl ?_)
    refine l_cons (o_p tbOk rfl rfl rfl ?_)
    refine l_nil ?_
    exact x_round2 (i + 1) ((Rw.Add M1 b25)) (subL_cons rfl (subL_cons rfl (subL_cons rfl (subL_cons (get_num rfl (by omega)) (subL_nil))))) ⟨by omega, h4, hsl, hk, ht, hlow, hsub, hE, hB⟩ (by omega)
  refine c_exit ?_
  refine x_seqE ?_
  refine x_seqE ?_
  refine x_blkE ?_
  refine x_seq ?_
  refine c_seq ?_
  refine c_reg ?_
  refine l_cons (o_p tbOk rfl rfl rfl ?_)
  refine l_cons (o_conv (y := 0) tbOk rfl rfl rfl rfl rfl rfl rfl rfl ?_)
  refine l_cons (o_p tbOk rfl rfl rfl ?_)
  refine l_cons (o_p tbOk rfl rfl rfl ?_)
  refine l_nil ?_
  refine x_seq ?_
  refine c_ret ?_
  refine x_ret1 rfl rfl ?_
  exact ⟨by simp, hE⟩

end Go.Proofs.Ytohfnpmehgpphaa
