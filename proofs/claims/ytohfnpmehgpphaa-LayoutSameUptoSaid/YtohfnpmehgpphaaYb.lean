/- Walks: what places come to; the law LayoutResolves. Printed by wip/walks/layout2.py. -/
import Derived.Test.YtohfnpmehgpphaaYa
namespace Go.Proofs.Ytohfnpmehgpphaa
open Go Rw Go.RowKit
set_option maxRecDepth 100000

theorem lits23 {a b : Int} {s : ByteArray} (ha : I64 a) (hb : I64 b) (hs : s.size < 140737488355328) : Try.prog.keyLits 2 23 [.int .i64 a, .int .i64 b, .string s] = some [.int .i64 a, .int .i64 b, .string s.data.toList] :=
  pl_lits Try.underlying23 ⟨rfl, rfl, by decide⟩ ⟨rfl, rfl, by decide⟩ ⟨rfl, rfl, by decide⟩ Try.underlying3 (by kernel_rfl) Try.underlying9 (by kernel_rfl) (by kernel_rfl) ha hb hs
theorem formed23 (a b c : Value) : (Value.agg #[a, b, c]).formed Try.prog 23 = true := by
  have h : Try.prog.cellsOf 23 = 3 := by kernel_rfl
  simp [Value.formed, Try.underlying23, h]
theorem key23 : Try.prog.keyTypeAt 4 23 = true := by kernel_rfl
theorem guard23 : Try.prog.eqGuardType Try.prog.depth 23 = false := by kernel_rfl

theorem lits35 {a b : Int} {s : ByteArray} (ha : I64 a) (hb : I64 b) (hs : s.size < 140737488355328) : Try.prog.keyLits 2 35 [.int .i64 a, .int .i64 b, .string s] = some [.int .i64 a, .int .i64 b, .string s.data.toList] :=
  pl_lits Try.underlying35 ⟨rfl, rfl, by decide⟩ ⟨rfl, rfl, by decide⟩ ⟨rfl, rfl, by decide⟩ Try.underlying3 (by kernel_rfl) Try.underlying9 (by kernel_rfl) (by kernel_rfl) ha hb hs
theorem formed35 (a b c : Value) : (Value.agg #[a, b, c]).formed Try.prog 35 = true := by
  have h : Try.prog.cellsOf 35 = 3 := by kernel_rfl
  simp [Value.formed, Try.underlying35, h]
theorem key35 : Try.prog.keyTypeAt 4 35 = true := by kernel_rfl
theorem guard35 : Try.prog.eqGuardType Try.prog.depth 35 = false := by kernel_rfl

/-- alive: true. -/
theorem alive_spec (M : Nat → Prop) (w : World) (hlow : Low M w) :
    Calls Try.prog 12 #[] w (Ret fun r w' => r = .bool true ∧ Ext w w') := by
  have hE : Below w.heap.size w w := Below.refl _ _
  have hB : w.heap.size ≤ w.heap.size := Nat.le_refl _
  refine c_enter (n := 18) Try.func12 rfl rfl rfl ?_
  refine c_seq ?_
  refine c_reg ?_
  refine l_cons (o_p tbOk rfl rfl rfl ?_)
  refine l_nil ?_
  refine x_seq ?_
  refine c_seq ?_
  refine c_reg ?_
  refine l_cons (o_build (cells := [.int .u8 1, .string ⟨#[]⟩, .int .i64 0, .slice none 0 0]) bd40 rfl rfl rfl rfl rfl ?_)
  refine l_cons (o_build (cells := [.int .u8 10, .string ⟨#[]⟩, .int .i64 7, .slice none 0 0]) bd40 rfl rfl rfl rfl rfl ?_)
  have hn1 : Rep.R M w (.agg #[.int .u8 1, .string ⟨#[]⟩, .int .i64 0, .slice none 0 0]) (Ty.mk 1 ⟨#[]⟩ 0 []) := ty_mk (by decide) (by decide) ⟨by decide, by decide⟩ sl_nil
  have hn2 : Rep.R M w (.agg #[.int .u8 10, .string ⟨#[]⟩, .int .i64 7, .slice none 0 0]) (Ty.mk 10 ⟨#[]⟩ 7 []) := ty_mk (by decide) (by decide) ⟨by decide, by decide⟩ sl_nil
  refine l_cons (o_call fo52 rfl rfl rfl (field_spec _ _ _ _ _ _ _ (by decide) hn1 hn2 hlow) ?_)
  rintro vf w1 ⟨hf, ew1⟩
  replace hf : Rep.R M w1 vf tyRow2 := hf
  replace hE := hE.trans (Below.mono ew1 hB)
  replace hlow := hlow.ext ew1
  replace hB := Nat.le_trans hB ew1.size
  have ha := at_spec tyRow2 ⟨#[99]⟩ M w1 vf hf (by decide) hlow psz_row2
  rw [at_row2] at ha
  refine l_cons (o_call fo17 rfl rfl rfl (ha) ?_)
  rintro _ w2 ⟨rfl, ew2⟩
  replace hE := hE.trans (Below.mono ew2 hB)
  replace hf := Rep.ext hf ew2
  replace hlow := hlow.ext ew2
  replace hB := Nat.le_trans hB ew2.size
  refine l_cons (o_p tbOk rfl rfl rfl ?_)
  refine l_cons (o_p tbOk rfl rfl rfl ?_)
  refine l_cons (o_p tbOk rfl rfl rfl ?_)
  refine l_cons (o_new tbOk rfl rfl rfl ?_)
  intro b1 w3 qb1 ew3 hb1
  have nb1 := nM_of hlow qb1
  refine l_cons (o_st tbOk hb1 rfl rfl rfl rfl (by intro u hu; simp [Value.cells] at hu; rcases hu with rfl | rfl | rfl <;> rfl) rfl rfl ?_)
  intro w4 h1 uw4 bew4
  have ew4 : Ext w2 w4 := ew3.trans (bew4 _ (Nat.le_of_eq qb1.symm))
  replace hE := hE.trans (Below.mono ew4 hB)
  replace hf := Rep.ext hf ew4
  replace hlow := hlow.ext ew4
  replace hB := Nat.le_trans hB ew4.size
  replace h1 : Box w4 b1 23 [.int .i64 (1), .int .i64 (7), .string ⟨#[99]⟩] := h1
  replace h1 := h1.at nb1
  refine l_cons (o_p tbOk rfl rfl rfl ?_)
  refine l_nil ?_
  refine x_seq ?_
  refine c_seq ?_
  refine c_reg ?_
  refine l_cons (o_p tbOk rfl rfl rfl ?_)
  refine l_cons (o_conv (y := 0) tbOk rfl rfl rfl rfl rfl rfl rfl rfl ?_)
  refine l_cons (o_p tbOk rfl rfl rfl ?_)
  refine l_cons (o_p tbOk rfl rfl rfl ?_)
  refine l_cons (o_lds tbOk (fun j v hv => h1.cell j v hv) rfl rfl rfl rfl rfl rfl ?_)
  refine l_cons (o_build (cells := [.int .i64 (1), .int .i64 (7), .string ⟨#[99]⟩]) bd23 rfl rfl rfl rfl rfl ?_)
  refine l_cons (o_eqs (p := (⟨1, 7, ⟨#[99]⟩⟩ : Pl) = ⟨1, 7, ⟨#[99]⟩⟩) rfl rfl key23 guard23 (formed23 _ _ _) (formed23 _ _ _) (lits23 ⟨by decide, by decide⟩ ⟨by decide, by decide⟩ (by decide)) (lits23 ⟨by decide, by decide⟩ ⟨by decide, by decide⟩ (by decide)) pl_eq_iff rfl rfl ?_)
  refine l_cons (o_p tbOk rfl rfl rfl ?_)
  refine l_cons (o_p tbOk rfl rfl rfl ?_)
  refine l_nil ?_
  refine x_seq ?_
  refine c_ret ?_
  refine x_ret1 rfl rfl ?_
  exact ⟨by simp, hE⟩

/-- Evidence of this variable and name? -/
theorem res1_spec (p : Pl) (e : Ev) (b : Nat) (M : Nat → Prop) (w : World) (h1 : At NoM w b 0 [.int .i64 (p.base), .int .i64 (p.var), .string p.name]) (hlow : Low M w) :
    Calls Try.prog 54 #[.agg #[.int .i64 e.var, .string e.name, .int .i64 e.n], .pointer (some ⟨b, 0, none⟩)] w (Ret fun r w' => r = .bool (evM p e) ∧ Ext w w') := by
  have hE : Below w.heap.size w w := Below.refl _ _
  have hB : w.heap.size ≤ w.heap.size := Nat.le_refl _
  refine c_enter (n := 16) Try.func54 rfl rfl rfl ?_
  refine c_seq ?_
  refine c_reg ?_
  refine l_cons (o_box rfl rfl rfl ?_)
  intro b2 w1 hb_b2 ew1 h2
  replace h2 := h2.at (nM_of hlow hb_b2)
  replace hE := hE.trans (Below.mono ew1 hB)
  replace h1 := h1.ext ew1
  replace hlow := hlow.ext ew1
  replace hB := Nat.le_trans hB ew1.size
  replace h2 : At _ _ b2 0 [.int .i64 e.var, .string e.name, .int .i64 e.n] := h2
  refine l_cons (o_p tbOk rfl rfl rfl ?_)
  refine l_nil ?_
  refine x_seq ?_
  refine c_seq ?_
  refine c_reg ?_
  refine l_cons (o_p tbOk rfl rfl rfl ?_)
  refine l_cons (o_ld tbOk (h2.cell 0 _ rfl) rfl rfl rfl rfl rfl ?_)
  refine l_cons (o_p tbOk rfl rfl rfl ?_)
  refine l_cons (o_ld tbOk (h1.cell 1 _ rfl) rfl rfl rfl rfl rfl ?_)
  refine l_cons (o_p tbOk rfl rfl rfl ?_)
  refine l_cons (o_p tbOk rfl rfl rfl ?_)
  refine l_splitP 9 _ rfl (fun c1 => ?_) (fun c1 => ?_)
  · refine l_cons (o_p tbOk rfl rfl rfl ?_)
    refine l_cons (o_ld tbOk (h2.cell 1 _ rfl) rfl rfl rfl rfl rfl ?_)
    refine l_cons (o_p tbOk rfl rfl rfl ?_)
    refine l_cons (o_ld tbOk (h1.cell 2 _ rfl) rfl rfl rfl rfl rfl ?_)
    refine l_cons (o_p tbOk rfl rfl rfl ?_)
    refine l_cons (o_p tbOk rfl rfl rfl ?_)
    refine l_cons (o_p tbOk rfl rfl rfl ?_)
    refine l_nil ?_
    refine x_seq ?_
    refine c_ret ?_
    refine x_ret1 rfl rfl ?_
    exact ⟨by simp [evM, *], hE⟩
  refine l_cons (o_skip rfl rfl ?_)
  refine l_cons (o_skip rfl rfl ?_)
  refine l_cons (o_skip rfl rfl ?_)
  refine l_cons (o_skip rfl rfl ?_)
  refine l_cons (o_skip rfl rfl ?_)
  refine l_cons (o_p tbOk rfl rfl rfl ?_)
  refine l_cons (o_p tbOk rfl rfl rfl ?_)
  refine l_nil ?_
  refine x_seq ?_
  refine c_ret ?_
  refine x_ret1 rfl rfl ?_
  exact ⟨by simp [evM, *], hE⟩

/-- IndexFunc: the first evidence. -/
theorem index_spec (p : Pl) (l : List Ev) (b : Nat) (M : Nat → Prop) (w : World) (v : Value) (h1 : At NoM w b 0 [.int .i64 (p.base), .int .i64 (p.var), .string p.name]) (hs : Sl M w v l) (hlow : Low M w) :
    Calls Try.prog 53 #[v, .func (.func 54) #[] #[.pointer (some ⟨b, 0, none⟩)]] w (Ret fun r w' => (∃ z : Int, r = .int .i64 z ∧ ((∃ i, ∃ hi : i < l.length, z = (i : Nat) ∧ evM p l[i] = true ∧ (∀ (k : Nat) (x : Ev), k < i → l[k]? = some x → evM p x = false)) ∨ (z = -1 ∧ (∀ (k : Nat) (x : Ev), k < l.length → l[k]? = some x → evM p x = false)))) ∧ Ext w w') := by
  have hE : Below w.heap.size w w := Below.refl _ _
  have hB : w.heap.size ≤ w.heap.size := Nat.le_refl _
  have hL := hs.lt
  refine c_enter (n := 19) Try.func53 rfl rfl rfl ?_
  refine c_seq ?_
  refine c_reg ?_
  refine l_cons (o_p tbOk rfl rfl rfl ?_)
  refine l_nil ?_
  refine x_seq ?_
  refine c_seq ?_
  refine c_seq ?_
  refine c_reg ?_
  refine l_cons (o_p tbOk rfl rfl rfl ?_)
  refine l_cons (o_len tbOk hs rfl rfl rfl rfl rfl ?_)
  refine l_cons (o_p tbOk rfl rfl rfl ?_)
  refine l_nil ?_
  refine x_seq ?_
  refine c_blk ?_
  refine c_loop (X := Nat) (fun i => [(0, v), (1, .func (.func 54) #[] #[.pointer (some ⟨b, 0, none⟩)]), (7, .int .i64 (l.length : Int)), (8, .int .i64 (i : Nat))]) (fun i w' => i ≤ l.length ∧ (∀ (k : Nat) (x : Ev), k < i → l[k]? = some x → evM p x = false) ∧ At NoM w' b 0 [.int .i64 (p.base), .int .i64 (p.var), .string p.name] ∧ Sl M w' v l ∧ Low M w' ∧ Below w.heap.size w w' ∧ w.heap.size ≤ w'.heap.size) (fun i => l.length - i) (0) (subL_cons rfl (subL_cons rfl (subL_cons rfl (subL_cons rfl (subL_nil))))) ?_ ?_
  · exact ⟨Nat.zero_le _, fun k x h => by omega, h1, hs, hlow, hE, hB⟩
  rintro i w1 ⟨hi, hnb, h1, hs, hlow, hE, hB⟩
  refine c_seq ?_
  refine c_reg ?_
  refine l_cons (o_p tbOk rfl rfl rfl ?_)
  refine l_nil ?_
  refine x_seq ?_
  refine c_seq ?_
  refine c_ifP _ rfl (fun c1 => ?_) (fun c1 => ?_)
  · have hil : i < l.length := by omega
    refine c_skip ?_
    refine x_seq ?_
    refine c_seq ?_
    refine c_blk ?_
    refine c_seq ?_
    refine c_reg ?_
    refine l_cons (o_p tbOk rfl rfl rfl ?_)
    refine l_cons (o_p tbOk rfl rfl rfl ?_)
    refine l_nil ?_
    refine x_seq ?_
    refine c_seq ?_
    refine c_reg ?_
    refine l_cons (o_p tbOk rfl rfl rfl ?_)
    refine l_cons (o_p tbOk rfl rfl rfl ?_)
    refine l_cons (o_p tbOk rfl rfl rfl ?_)
    refine l_cons (o_ixS tbOk hs (List.getElem?_eq_getElem hil) rfl rfl rfl rfl rfl rfl rfl rfl rfl ?_)
    intro ebx eox eux hrx hatx
    obtain ⟨rfl, evx, enx, eNx⟩ := hrx
    replace hatx : At _ w1 ebx eox [.int .i64 l[i].var, .string l[i].name, .int .i64 l[i].n] := hatx
    refine l_cons (o_lds tbOk (fun j v hv => hatx.cell j v hv) rfl rfl rfl rfl rfl rfl ?_)
    refine l_cons (o_dyn rfl fo54 rfl rfl rfl (res1_spec p l[i] b M _ h1 hlow) ?_)
    rintro _ w2 ⟨rfl, ew2⟩
    replace hE := hE.trans (Below.mono ew2 hB)
    replace h1 := h1.ext ew2
    replace hs := hs.ext ew2
    replace hatx := hatx.ext ew2
    replace hlow := hlow.ext ew2
    replace hB := Nat.le_trans hB ew2.size
    refine l_nil ?_
    refine x_seq ?_
    refine c_if _ rfl (fun c2 => ?_) (fun c2 => ?_)
    · refine c_seq ?_
      refine c_reg ?_
      refine l_cons (o_p tbOk rfl rfl rfl ?_)
      refine l_cons (o_p tbOk rfl rfl rfl ?_)
      refine l_nil ?_
      refine x_seq ?_
      refine c_ret ?_
      refine x_blkR ?_
      refine x_seqR ?_
      refine x_seqR ?_
      refine x_blkR ?_
      refine x_seqR ?_
      refine x_ret1 rfl rfl ?_
      exact ⟨⟨_, rfl, .inl ⟨i, hil, rfl, c2, hnb⟩⟩, hE⟩
    refine c_skip ?_
    refine x_blk ?_
    refine x_seq ?_
    refine c_reg ?_
    refine l_cons (o_ar rfl rfl rfl (IntWalk.i64_in _ (by omega)) rfl rfl ?_)
    refine l_cons (o_p tbOk rfl rfl rfl ?_)
    refine l_nil ?_
    exact x_round (i + 1) (subL_cons rfl (subL_cons rfl (subL_cons rfl (subL_cons (get_num rfl (by omega)) (subL_nil))))) ⟨by omega, evM_step hil hnb c2, h1, hs, hlow, hE, hB⟩ (by omega)
  refine c_exit ?_
  refine x_seqE ?_
  refine x_seqE ?_
  refine x_blkE ?_
  refine x_seq ?_
  refine c_seq ?_
  refine c_reg ?_
  refine l_cons (o_p tbOk rfl rfl rfl ?_)
  refine l_nil ?_
  refine x_seq ?_
  refine c_ret ?_
  refine x_ret1 rfl rfl ?_
  obtain rfl : i = l.length := by omega
  exact ⟨⟨_, rfl, .inr ⟨rfl, hnb⟩⟩, hE⟩

/-- Resolve: what a place comes to. -/
theorem resolve_spec (p : Pl) (l : List Ev) (M : Nat → Prop) (w : World) (v : Value) (hs : Sl M w v l) (hb : Near p.base) (hl : ∀ e ∈ l, Near e.n) (hlow : Low M w) :
    Calls Try.prog 13 #[.agg #[.int .i64 (p.base), .int .i64 (p.var), .string p.name], v] w (Ret fun r w' => r = .tuple #[.int .i64 (resF p l).1, .int .u8 (resF p l).2] ∧ Ext w w') := by
  have hE : Below w.heap.size w w := Below.refl _ _
  have hB : w.heap.size ≤ w.heap.size := Nat.le_refl _
  unfold Near at hb
  refine c_enter (n := 25) Try.func13 rfl rfl rfl ?_
  refine c_seq ?_
  refine c_reg ?_
  refine l_cons (o_box rfl rfl rfl ?_)
  intro b2 w1 hb_b2 ew1 h2
  replace h2 := h2.at (nM_of hlow hb_b2)
  replace hE := hE.trans (Below.mono ew1 hB)
  replace hs := hs.ext ew1
  replace hlow := hlow.ext ew1
  replace hB := Nat.le_trans hB ew1.size
  replace h2 : At _ _ b2 0 [.int .i64 (p.base), .int .i64 (p.var), .string p.name] := h2
  refine l_cons (o_p tbOk rfl rfl rfl ?_)
  refine l_cons (o_p tbOk rfl rfl rfl ?_)
  refine l_nil ?_
  refine x_seq ?_
  refine c_seq ?_
  refine c_seq ?_
  refine c_reg ?_
  refine l_cons (o_p tbOk rfl rfl rfl ?_)
  refine l_cons (o_ld tbOk (h2.cell 1 _ rfl) rfl rfl rfl rfl rfl ?_)
  refine l_cons (o_p tbOk rfl rfl rfl ?_)
  refine l_nil ?_
  refine x_seq ?_
  refine c_ifP _ rfl (fun hv => ?_) (fun hv => ?_)
  · refine c_seq ?_
    refine c_reg ?_
    refine l_cons (o_p tbOk rfl rfl rfl ?_)
    refine l_cons (o_ld tbOk (h2.cell 0 _ rfl) rfl rfl rfl rfl rfl ?_)
    refine l_cons (o_p tbOk rfl rfl rfl ?_)
    refine l_cons (o_p tbOk rfl rfl rfl ?_)
    refine l_nil ?_
    refine x_seq ?_
    refine c_ret ?_
    refine x_seqR ?_
    refine x_ret2 rfl rfl rfl ?_
    rw [resF_neg hv]
    exact ⟨rfl, hE⟩
  refine c_skip ?_
  refine x_seq ?_
  refine c_seq ?_
  refine c_reg ?_
  refine l_cons (o_p tbOk rfl rfl rfl ?_)
  refine l_cons (o_p tbOk rfl rfl rfl ?_)
  have k2 : At NoM w1 b2 0 _ := ⟨h2.lt, fun h => h, h2.cell⟩
  refine l_cons (o_call fo53 rfl rfl rfl (index_spec p l b2 M _ v k2 hs hlow) ?_)
  rintro _ w2 ⟨⟨z, rfl, hz⟩, ew2⟩
  replace hE := hE.trans (Below.mono ew2 hB)
  replace hs := hs.ext ew2
  replace h2 := h2.ext ew2
  replace hlow := hlow.ext ew2
  replace hB := Nat.le_trans hB ew2.size
  refine l_cons (o_p tbOk rfl rfl rfl ?_)
  refine l_nil ?_
  refine x_seq ?_
  refine c_seq ?_
  refine c_seq ?_
  refine c_reg ?_
  refine l_cons (o_p tbOk rfl rfl rfl ?_)
  refine l_cons (o_p tbOk rfl rfl rfl ?_)
  refine l_nil ?_
  refine x_seq ?_
  refine c_ifP _ rfl (fun hc => ?_) (fun hc => ?_)
  · have hnb : (∀ (k : Nat) (x : Ev), k < l.length → l[k]? = some x → evM p x = false) := by
      rcases hz with ⟨i, hi, rfl, _⟩ | ⟨_, h⟩
      · omega
      · exact h
    refine c_seq ?_
    refine c_reg ?_
    refine l_cons (o_p tbOk rfl rfl rfl ?_)
    refine l_cons (o_p tbOk rfl rfl rfl ?_)
    refine l_nil ?_
    refine x_seq ?_
    refine c_ret ?_
    refine x_seqR ?_
    refine x_ret2 rfl rfl rfl ?_
    rw [resF_none hv hnb]
    exact ⟨rfl, hE⟩
  obtain ⟨i, hil, rfl, hm, hnb⟩ : ∃ i, ∃ hi : i < l.length, z = (i : Nat) ∧ evM p l[i] = true ∧ (∀ (k : Nat) (x : Ev), k < i → l[k]? = some x → evM p x = false) := by
    rcases hz with h | ⟨h, _⟩
    · exact h
    · omega
  have hln := hl _ (List.getElem_mem hil)
  unfold Near at hln
  refine c_skip ?_
  refine x_seq ?_
  refine c_seq ?_
  refine a_beg Ext rfl ?_
  intro w3 ew3
  replace hE := hE.trans (Below.mono ew3 hB)
  replace hs := hs.ext ew3
  replace h2 := h2.ext ew3
  replace hlow := hlow.ext ew3
  replace hB := Nat.le_trans hB ew3.size
  have hS : Ext w3 w3 := ext_refl _
  have D_hs := hs
  have D_h2 := h2
  refine a_p 0 tbOk rfl rfl rfl rfl (by kernel_rfl) (fun _ _ _ h => h) hS ?_
  refine a_ld 1 tbOk (fun _ hs => (D_h2.ext hs).cell 0 _ rfl) rfl rfl rfl rfl rfl rfl (by kernel_rfl) (fun _ _ _ h => h) hS ?_
  refine a_p 2 tbOk rfl rfl rfl rfl (by kernel_rfl) (fun _ _ _ h => h) hS ?_
  refine a_p 3 tbOk rfl rfl rfl rfl (by kernel_rfl) (fun _ _ _ h => h) hS ?_
  refine a_ixS 4 tbOk D_hs (List.getElem?_eq_getElem hil) rfl rfl rfl rfl rfl rfl rfl rfl rfl rfl (by kernel_rfl) (fun _ _ _ _ h => h) hS ?_
  intro ebx eox eux hrx hatx
  obtain ⟨rfl, evx, enx, eNx⟩ := hrx
  replace hatx : At _ w3 ebx eox [.int .i64 l[i].var, .string l[i].name, .int .i64 l[i].n] := hatx
  refine a_p 5 tbOk rfl rfl rfl rfl (by kernel_rfl) (fun _ _ _ h => h) hS ?_
  refine a_ld 6 tbOk (fun _ hs => (hatx.ext hs).cell 2 _ rfl) rfl rfl rfl rfl rfl rfl (by kernel_rfl) (fun _ _ _ h => h) hS ?_
  refine a_ar 7 rfl rfl rfl rfl (IntWalk.i64_in _ (by omega)) rfl rfl (by kernel_rfl) (fun _ _ _ h => h) hS ?_
  refine a_p 8 tbOk rfl rfl rfl rfl (by kernel_rfl) (fun _ _ _ h => h) hS ?_
  refine a_p 9 tbOk rfl rfl rfl rfl (by kernel_rfl) (fun _ _ _ h => h) hS ?_
  refine a_end (by kernel_rfl) ?_
  refine x_seq ?_
  refine c_ret ?_
  refine x_ret2 rfl rfl rfl ?_
  rw [resF_at hv hil hm hnb]
  exact ⟨rfl, hE⟩

/-- The document's Resolve. -/
theorem refResolve_spec (p : Pl) (l : List Ev) (M : Nat → Prop) (w : World) (v : Value) (hs : Sl M w v l) (hb : Near p.base) (hl : ∀ e ∈ l, Near e.n) (hlow : Low M w) :
    Calls Try.prog 14 #[.agg #[.int .i64 (p.base), .int .i64 (p.var), .string p.name], v] w (Ret fun r w' => r = .tuple #[.int .i64 (resF p l).1, .int .i64 (resF p l).2] ∧ Ext w w') := by
  have hE : Below w.heap.size w w := Below.refl _ _
  have hB : w.heap.size ≤ w.heap.size := Nat.le_refl _
  unfold Near at hb
  have hL := hs.lt
  refine c_enter (n := 44) Try.func14 rfl rfl rfl ?_
  refine c_seq ?_
  refine c_reg ?_
  refine l_cons (o_box rfl rfl rfl ?_)
  intro b2 w1 hb_b2 ew1 h2
  replace h2 := h2.at (nM_of hlow hb_b2)
  replace hE := hE.trans (Below.mono ew1 hB)
  replace hs := hs.ext ew1
  replace hlow := hlow.ext ew1
  replace hB := Nat.le_trans hB ew1.size
  replace h2 : At _ _ b2 0 [.int .i64 (p.base), .int .i64 (p.var), .string p.name] := h2
  refine l_cons (o_p tbOk rfl rfl rfl ?_)
  refine l_cons (o_p tbOk rfl rfl rfl ?_)
  refine l_nil ?_
  refine x_seq ?_
  refine c_seq ?_
  refine c_seq ?_
  refine c_reg ?_
  refine l_cons (o_p tbOk rfl rfl rfl ?_)
  refine l_cons (o_ld tbOk (h2.cell 1 _ rfl) rfl rfl rfl rfl rfl ?_)
  refine l_cons (o_p tbOk rfl rfl rfl ?_)
  refine l_nil ?_
  refine x_seq ?_
  refine c_ifP _ rfl (fun hv => ?_) (fun hv => ?_)
  · refine c_seq ?_
    refine c_reg ?_
    refine l_cons (o_p tbOk rfl rfl rfl ?_)
    refine l_cons (o_ld tbOk (h2.cell 0 _ rfl) rfl rfl rfl rfl rfl ?_)
    refine l_cons (o_p tbOk rfl rfl rfl ?_)
    refine l_cons (o_p tbOk rfl rfl rfl ?_)
    refine l_nil ?_
    refine x_seq ?_
    refine c_ret ?_
    refine x_seqR ?_
    refine x_ret2 rfl rfl rfl ?_
    rw [resF_neg hv]
    exact ⟨rfl, hE⟩
  refine c_skip ?_
  refine x_seq ?_
  refine c_seq ?_
  refine c_seq ?_
  refine c_reg ?_
  refine l_cons (o_p tbOk rfl rfl rfl ?_)
  refine l_nil ?_
  refine x_seq ?_
  refine c_blk ?_
  refine c_loop (X := Nat) (fun i => [(1, v), (2, .pointer (some ⟨b2, 0, none⟩)), (6, .int .i64 (i : Nat))]) (fun i w' => i ≤ l.length ∧ (∀ (k : Nat) (x : Ev), k < i → l[k]? = some x → evM p x = false) ∧ At M w' b2 0 [.int .i64 (p.base), .int .i64 (p.var), .string p.name] ∧ Sl M w' v l ∧ Low M w' ∧ Below w.heap.size w w' ∧ w.heap.size ≤ w'.heap.size) (fun i => l.length - i) (0) (subL_cons rfl (subL_cons rfl (subL_cons rfl (subL_nil)))) ?_ ?_
  · exact ⟨Nat.zero_le _, fun k x h => by omega, h2, hs, hlow, hE, hB⟩
  rintro i w2 ⟨hi, hnb, h2, hs, hlow, hE, hB⟩
  refine c_seq ?_
  refine c_seq ?_
  refine c_reg ?_
  refine l_cons (o_p tbOk rfl rfl rfl ?_)
  refine l_cons (o_p tbOk rfl rfl rfl ?_)
  refine l_cons (o_len tbOk hs rfl rfl rfl rfl rfl ?_)
  refine l_cons (o_p tbOk rfl rfl rfl ?_)
  refine l_nil ?_
  refine x_seq ?_
  refine c_ifP _ rfl (fun c2 => ?_) (fun c2 => ?_)
  · have hil : i < l.length := by omega
    have hln := hl _ (List.getElem_mem hil)
    unfold Near at hln
    refine c_skip ?_
    refine x_seq ?_
    refine c_seq ?_
    refine c_blk ?_
    refine c_seq ?_
    refine a_beg Ext rfl ?_
    intro w3 ew3
    replace hE := hE.trans (Below.mono ew3 hB)
    replace h2 := h2.ext ew3
    replace hs := hs.ext ew3
    replace hlow := hlow.ext ew3
    replace hB := Nat.le_trans hB ew3.size
    have hS : Ext w3 w3 := ext_refl _
    have D_h2 := h2
    have D_hs := hs
    refine a_p 0 tbOk rfl rfl rfl rfl (by kernel_rfl) (fun _ _ _ h => h) hS ?_
    refine a_p 1 tbOk rfl rfl rfl rfl (by kernel_rfl) (fun _ _ _ h => h) hS ?_
    refine a_ixS 2 tbOk D_hs (List.getElem?_eq_getElem hil) rfl rfl rfl rfl rfl rfl rfl rfl rfl rfl (by kernel_rfl) (fun _ _ _ _ h => h) hS ?_
    intro ebx1 eox1 eux1 hrx1 hatx1
    obtain ⟨rfl, evx1, enx1, eNx1⟩ := hrx1
    replace hatx1 : At _ w3 ebx1 eox1 [.int .i64 l[i].var, .string l[i].name, .int .i64 l[i].n] := hatx1
    refine a_p 3 tbOk rfl rfl rfl rfl (by kernel_rfl) (fun _ _ _ h => h) hS ?_
    refine a_ld 4 tbOk (fun _ hs => (hatx1.ext hs).cell 0 _ rfl) rfl rfl rfl rfl rfl rfl (by kernel_rfl) (fun _ _ _ h => h) hS ?_
    refine a_p 5 tbOk rfl rfl rfl rfl (by kernel_rfl) (fun _ _ _ h => h) hS ?_
    refine a_ld 6 tbOk (fun _ hs => (D_h2.ext hs).cell 1 _ rfl) rfl rfl rfl rfl rfl rfl (by kernel_rfl) (fun _ _ _ h => h) hS ?_
    refine a_p 7 tbOk rfl rfl rfl rfl (by kernel_rfl) (fun _ _ _ h => h) hS ?_
    refine a_p 8 tbOk rfl rfl rfl rfl (by kernel_rfl) (fun _ _ _ h => h) hS ?_
    refine a_splitP 26 _ rfl (fun c3 => ?_) (fun c3 => ?_)
    · refine a_p 9 tbOk rfl rfl rfl rfl (by kernel_rfl) (fun _ _ _ h => h) hS ?_
      refine a_p 10 tbOk rfl rfl rfl rfl (by kernel_rfl) (fun _ _ _ h => h) hS ?_
      refine a_ixS 11 tbOk D_hs (List.getElem?_eq_getElem hil) rfl rfl rfl rfl rfl rfl rfl rfl rfl rfl (by kernel_rfl) (fun _ _ _ _ h => h) hS ?_
      intro ebx2 eox2 eux2 hrx2 hatx2
      obtain ⟨rfl, evx2, enx2, eNx2⟩ := hrx2
      replace hatx2 : At _ w3 ebx2 eox2 [.int .i64 l[i].var, .string l[i].name, .int .i64 l[i].n] := hatx2
      refine a_p 12 tbOk rfl rfl rfl rfl (by kernel_rfl) (fun _ _ _ h => h) hS ?_
      refine a_ld 13 tbOk (fun _ hs => (hatx2.ext hs).cell 1 _ rfl) rfl rfl rfl rfl rfl rfl (by kernel_rfl) (fun _ _ _ h => h) hS ?_
      refine a_p 14 tbOk rfl rfl rfl rfl (by kernel_rfl) (fun _ _ _ h => h) hS ?_
      refine a_ld 15 tbOk (fun _ hs => (D_h2.ext hs).cell 2 _ rfl) rfl rfl rfl rfl rfl rfl (by kernel_rfl) (fun _ _ _ h => h) hS ?_
      refine a_p 16 tbOk rfl rfl rfl rfl (by kernel_rfl) (fun _ _ _ h => h) hS ?_
      refine a_p 17 tbOk rfl rfl rfl rfl (by kernel_rfl) (fun _ _ _ h => h) hS ?_
      refine a_end (by kernel_rfl) ?_
      refine x_seq ?_
      refine c_ifP _ rfl (fun c4 => ?_) (fun c4 => ?_)
      · have hm : evM p l[i] = true := by simp [evM, *]
        refine c_seq ?_
        refine a_beg Ext rfl ?_
        intro w4 ew4
        replace hE := hE.trans (Below.mono ew4 hB)
        replace h2 := h2.ext ew4
        replace hs := hs.ext ew4
        replace hatx1 := hatx1.ext ew4
        replace hatx2 := hatx2.ext ew4
        replace hlow := hlow.ext ew4
        replace hB := Nat.le_trans hB ew4.size
        have hS : Ext w4 w4 := ext_refl _
        have D_h2 := h2
        have D_hs := hs
        have D_hatx1 := hatx1
        have D_hatx2 := hatx2
        refine a_p 0 tbOk rfl rfl rfl rfl (by kernel_rfl) (fun _ _ _ h => h) hS ?_
        refine a_ld 1 tbOk (fun _ hs => (D_h2.ext hs).cell 0 _ rfl) rfl rfl rfl rfl rfl rfl (by kernel_rfl) (fun _ _ _ h => h) hS ?_
        refine a_p 2 tbOk rfl rfl rfl rfl (by kernel_rfl) (fun _ _ _ h => h) hS ?_
        refine a_p 3 tbOk rfl rfl rfl rfl (by kernel_rfl) (fun _ _ _ h => h) hS ?_
        refine a_ixS 4 tbOk D_hs (List.getElem?_eq_getElem hil) rfl rfl rfl rfl rfl rfl rfl rfl rfl rfl (by kernel_rfl) (fun _ _ _ _ h => h) hS ?_
        intro ebx3 eox3 eux3 hrx3 hatx3
        obtain ⟨rfl, evx3, enx3, eNx3⟩ := hrx3
        replace hatx3 : At _ w4 ebx3 eox3 [.int .i64 l[i].var, .string l[i].name, .int .i64 l[i].n] := hatx3
        refine a_p 5 tbOk rfl rfl rfl rfl (by kernel_rfl) (fun _ _ _ h => h) hS ?_
        refine a_ld 6 tbOk (fun _ hs => (hatx3.ext hs).cell 2 _ rfl) rfl rfl rfl rfl rfl rfl (by kernel_rfl) (fun _ _ _ h => h) hS ?_
        refine a_ar 7 rfl rfl rfl rfl (IntWalk.i64_in _ (by omega)) rfl rfl (by kernel_rfl) (fun _ _ _ h => h) hS ?_
        refine a_p 8 tbOk rfl rfl rfl rfl (by kernel_rfl) (fun _ _ _ h => h) hS ?_
        refine a_p 9 tbOk rfl rfl rfl rfl (by kernel_rfl) (fun _ _ _ h => h) hS ?_
        refine a_end (by kernel_rfl) ?_
        refine x_seq ?_
        refine c_ret ?_
        refine x_blkR ?_
        refine x_seqR ?_
        refine x_seqR ?_
        refine x_blkR ?_
        refine x_seqR ?_
        refine x_ret2 rfl rfl rfl ?_
        rw [resF_at hv hil hm hnb]
        exact ⟨rfl, hE⟩
      refine c_skip ?_
      refine x_blk ?_
      refine x_seq ?_
      refine c_reg ?_
      refine l_cons (o_p tbOk rfl rfl rfl ?_)
      refine l_cons (o_ar rfl rfl rfl (IntWalk.i64_in _ (by omega)) rfl rfl ?_)
      refine l_cons (o_p tbOk rfl rfl rfl ?_)
      refine l_nil ?_
      exact x_round (i + 1) (subL_cons rfl (subL_cons rfl (subL_cons (get_num rfl (by omega)) (subL_nil)))) ⟨by omega, evM_step hil hnb (by simp [evM, *]), h2, hs, hlow, hE, hB⟩ (by omega)
    refine a_skip 9 rfl rfl rfl (by kernel_rfl) (fun _ _ _ h => h) hS ?_
    refine a_skip 10 rfl rfl rfl (by kernel_rfl) (fun _ _ _ h => h) hS ?_
    refine a_skip 11 rfl rfl rfl (by kernel_rfl) (fun _ _ _ h => h) hS ?_
    refine a_skip 12 rfl rfl rfl (by kernel_rfl) (fun _ _ _ h => h) hS ?_
    refine a_skip 13 rfl rfl rfl (by kernel_rfl) (fun _ _ _ h => h) hS ?_
    refine a_skip 14 rfl rfl rfl (by kernel_rfl) (fun _ _ _ h => h) hS ?_
    refine a_skip 15 rfl rfl rfl (by kernel_rfl) (fun _ _ _ h => h) hS ?_
    refine a_skip 16 rfl rfl rfl (by kernel_rfl) (fun _ _ _ h => h) hS ?_
    refine a_p 17 tbOk rfl rfl rfl rfl (by kernel_rfl) (fun _ _ _ h => h) hS ?_
    refine a_end (by kernel_rfl) ?_
    refine x_seq ?_
    refine c_ifF rfl ?_
    refine c_skip ?_
    refine x_blk ?_
    refine x_seq ?_
    refine c_reg ?_
    refine l_cons (o_p tbOk rfl rfl rfl ?_)
    refine l_cons (o_ar rfl rfl rfl (IntWalk.i64_in _ (by omega)) rfl rfl ?_)
    refine l_cons (o_p tbOk rfl rfl rfl ?_)
    refine l_nil ?_
    exact x_round (i + 1) (subL_cons rfl (subL_cons rfl (subL_cons (get_num rfl (by omega)) (subL_nil)))) ⟨by omega, evM_step hil hnb (by simp [evM, *]), h2, hs, hlow, hE, hB⟩ (by omega)
  refine c_exit ?_
  refine x_seqE ?_
  refine x_seqE ?_
  refine x_blkE ?_
  refine x_seq ?_
  refine c_seq ?_
  refine c_reg ?_
  refine l_cons (o_p tbOk rfl rfl rfl ?_)
  refine l_cons (o_p tbOk rfl rfl rfl ?_)
  refine l_nil ?_
  refine x_seq ?_
  refine c_ret ?_
  refine x_ret2 rfl rfl rfl ?_
  obtain rfl : i = l.length := by omega
  rw [resF_none hv hnb]
  exact ⟨rfl, hE⟩

/-- LayoutResolves: true. -/
theorem layoutResolves_spec (p : Pl) (l : List Ev) (M : Nat → Prop) (w : World) (v u : Value) (hp : Rep.R M w v p) (hs : Sl M w u l) (hlow0 : Low M w) :
    Calls Try.prog 3 #[v, u] w (Ret fun r w' => r = .bool true ∧ Ext w w') := by
  have hlow := hlow0
  have hB : w.heap.size ≤ w.heap.size := Nat.le_refl _
  have hE : Below w.heap.size w w := Below.refl _ _
  have hsub : ∀ b, M b → M b := fun _ h => h
  obtain ⟨rfl, hpb, hpv, hpn⟩ := hp
  have hL := hs.lt
  refine c_enter (n := 74) Try.func3 rfl rfl rfl ?_
  refine c_seq ?_
  refine c_reg ?_
  refine l_cons (o_box rfl rfl rfl ?_)
  intro b2 w1 hb_b2 ew1 h2
  replace h2 := h2.at (nM_of hlow hb_b2)
  replace hE := hE.trans (Below.mono ew1 hB)
  replace hs := hs.ext ew1
  replace hlow := hlow.ext ew1
  replace hB := Nat.le_trans hB ew1.size
  replace h2 : At _ _ b2 0 [.int .i64 (p.base), .int .i64 (p.var), .string p.name] := h2
  refine l_cons (o_p tbOk rfl rfl rfl ?_)
  refine l_nil ?_
  refine x_seq ?_
  refine c_seq ?_
  refine c_seq ?_
  refine c_reg ?_
  refine l_cons (o_call fo12 rfl rfl rfl (alive_spec _ _ hlow) ?_)
  rintro _ w2 ⟨rfl, ew2⟩
  replace hE := hE.trans (Below.mono ew2 hB)
  replace hs := hs.ext ew2
  replace h2 := h2.ext ew2
  replace hlow := hlow.ext ew2
  replace hB := Nat.le_trans hB ew2.size
  refine l_cons (o_p tbOk rfl rfl rfl ?_)
  refine l_nil ?_
  refine x_seq ?_
  refine c_ifB _ rfl (fun c1 => ?_) (fun c1 => ?_)
  · exact absurd c1 (by simp)
  refine c_skip ?_
  refine x_seq ?_
  refine c_seq ?_
  refine c_seq ?_
  refine c_reg ?_
  refine l_cons (o_p tbOk rfl rfl rfl ?_)
  refine l_cons (o_len tbOk hs rfl rfl rfl rfl rfl ?_)
  refine l_cons (o_p tbOk rfl rfl rfl ?_)
  refine l_cons (o_p tbOk rfl rfl rfl ?_)
  refine l_splitP 16 _ rfl (fun c2 => ?_) (fun c2 => ?_)
  · refine l_cons (o_skip rfl rfl ?_)
    refine l_cons (o_skip rfl rfl ?_)
    refine l_cons (o_skip rfl rfl ?_)
    refine l_cons (o_p tbOk rfl rfl rfl ?_)
    refine l_cons (o_p tbOk rfl rfl rfl ?_)
    refine l_cons (o_skip rfl rfl ?_)
    refine l_cons (o_skip rfl rfl ?_)
    refine l_cons (o_skip rfl rfl ?_)
    refine l_cons (o_p tbOk rfl rfl rfl ?_)
    refine l_nil ?_
    refine x_seq ?_
    refine c_ifT rfl ?_
    refine c_seq ?_
    refine c_reg ?_
    refine l_cons (o_p tbOk rfl rfl rfl ?_)
    refine l_nil ?_
    refine x_seq ?_
    refine c_ret ?_
    refine x_seqR ?_
    refine x_ret1 rfl rfl ?_
    exact ⟨by simp, hE⟩
  refine l_cons (o_p tbOk rfl rfl rfl ?_)
  refine l_cons (o_ld tbOk (h2.cell 0 _ rfl) rfl rfl rfl rfl rfl ?_)
  refine l_cons (o_p tbOk rfl rfl rfl ?_)
  refine l_cons (o_p tbOk rfl rfl rfl ?_)
  refine l_cons (o_p tbOk rfl rfl rfl ?_)
  refine l_splitP 21 _ rfl (fun c3 => ?_) (fun c3 => ?_)
  · refine l_cons (o_skip rfl rfl ?_)
    refine l_cons (o_skip rfl rfl ?_)
    refine l_cons (o_skip rfl rfl ?_)
    refine l_cons (o_p tbOk rfl rfl rfl ?_)
    refine l_nil ?_
    refine x_seq ?_
    refine c_ifT rfl ?_
    refine c_seq ?_
    refine c_reg ?_
    refine l_cons (o_p tbOk rfl rfl rfl ?_)
    refine l_nil ?_
    refine x_seq ?_
    refine c_ret ?_
    refine x_seqR ?_
    refine x_ret1 rfl rfl ?_
    exact ⟨by simp, hE⟩
  refine l_cons (o_p tbOk rfl rfl rfl ?_)
  refine l_cons (o_ld tbOk (h2.cell 0 _ rfl) rfl rfl rfl rfl rfl ?_)
  refine l_cons (o_p tbOk rfl rfl rfl ?_)
  refine l_cons (o_p tbOk rfl rfl rfl ?_)
  refine l_nil ?_
  refine x_seq ?_
  refine c_ifP _ rfl (fun c4 => ?_) (fun c4 => ?_)
  · refine c_seq ?_
    refine c_reg ?_
    refine l_cons (o_p tbOk rfl rfl rfl ?_)
    refine l_nil ?_
    refine x_seq ?_
    refine c_ret ?_
    refine x_seqR ?_
    refine x_ret1 rfl rfl ?_
    exact ⟨by simp, hE⟩
  refine c_skip ?_
  refine x_seq ?_
  refine c_seq ?_
  refine c_reg ?_
  refine l_cons (o_p tbOk rfl rfl rfl ?_)
  refine l_nil ?_
  refine x_seq ?_
  refine c_seq ?_
  refine c_seq ?_
  refine c_reg ?_
  refine l_cons (o_p tbOk rfl rfl rfl ?_)
  refine l_nil ?_
  refine x_seq ?_
  refine c_blk ?_
  have hl100 : l.length ≤ 100 := by omega
  have hpn2 : Near p.base := ⟨by omega, by omega⟩
  refine c_loop3 (X := Nat) (Y := Value) (Z := Nat → Prop) (fun i wv M1 => [(1, u), (2, .pointer (some ⟨b2, 0, none⟩)), (5, wv), (6, .int .i64 (i : Nat))]) (fun i wv M1 w' => i ≤ l.length ∧ (∀ e ∈ l.take i, Near e.n) ∧ OwnSl 29 w.heap.size M1 w' wv (l.take i) ∧ At M1 w' b2 0 [.int .i64 (p.base), .int .i64 (p.var), .string p.name] ∧ Sl M1 w' u l ∧ Low M1 w' ∧ (∀ b, M b → M1 b) ∧ Below w.heap.size w w' ∧ w.heap.size ≤ w'.heap.size) (fun i wv M1 => l.length - i) (0) (.slice none 0 0) (M) (subL_cons rfl (subL_cons rfl (subL_cons rfl (subL_cons rfl (subL_nil))))) ?_ ?_
  · exact ⟨Nat.zero_le _, by simp, own_nil, h2, hs, hlow, hsub, hE, hB⟩
  rintro i wv M1 w3 ⟨hi, hnear, hm, h2, hs, hlow, hsub, hE, hB⟩
  refine c_seq ?_
  refine c_seq ?_
  refine c_reg ?_
  refine l_cons (o_p tbOk rfl rfl rfl ?_)
  refine l_cons (o_p tbOk rfl rfl rfl ?_)
  refine l_cons (o_len tbOk hs rfl rfl rfl rfl rfl ?_)
  refine l_cons (o_p tbOk rfl rfl rfl ?_)
  refine l_nil ?_
  refine x_seq ?_
  refine c_ifP _ rfl (fun c5 => ?_) (fun c5 => ?_)
  · have hil : i < l.length := by omega
    refine c_skip ?_
    refine x_seq ?_
    refine c_seq ?_
    refine c_blk ?_
    refine c_seq ?_
    refine c_seq ?_
    refine c_reg ?_
    refine l_cons (o_p tbOk rfl rfl rfl ?_)
    refine l_cons (o_p tbOk rfl rfl rfl ?_)
    refine l_cons (o_ixS tbOk hs (List.getElem?_eq_getElem hil) rfl rfl rfl rfl rfl rfl rfl rfl rfl ?_)
    intro ebx1 eox1 eux1 hrx1 hatx1
    obtain ⟨rfl, evx1, enx1, eNx1⟩ := hrx1
    replace hatx1 : At _ w3 ebx1 eox1 [.int .i64 l[i].var, .string l[i].name, .int .i64 l[i].n] := hatx1
    refine l_cons (o_p tbOk rfl rfl rfl ?_)
    refine l_cons (o_ld tbOk (hatx1.cell 2 _ rfl) rfl rfl rfl rfl rfl ?_)
    refine l_cons (o_p tbOk rfl rfl rfl ?_)
    refine l_cons (o_p tbOk rfl rfl rfl ?_)
    refine l_splitP 38 _ rfl (fun c6 => ?_) (fun c6 => ?_)
    · refine l_cons (o_skip rfl rfl ?_)
      refine l_cons (o_skip rfl rfl ?_)
      refine l_cons (o_skip rfl rfl ?_)
      refine l_cons (o_skip rfl rfl ?_)
      refine l_cons (o_skip rfl rfl ?_)
      refine l_cons (o_skip rfl rfl ?_)
      refine l_cons (o_p tbOk rfl rfl rfl ?_)
      refine l_nil ?_
      refine x_seq ?_
      refine c_ifT rfl ?_
      refine c_seq ?_
      refine c_reg ?_
      refine l_cons (o_p tbOk rfl rfl rfl ?_)
      refine l_nil ?_
      refine x_seq ?_
      refine c_ret ?_
      refine x_seqR ?_
      refine x_blkR ?_
      refine x_seqR ?_
      refine x_seqR ?_
      refine x_blkR ?_
      refine x_seqR ?_
      refine x_ret1 rfl rfl ?_
      exact ⟨by simp, hE⟩
    refine l_cons (o_p tbOk rfl rfl rfl ?_)
    refine l_cons (o_p tbOk rfl rfl rfl ?_)
    refine l_cons (o_ixS tbOk hs (List.getElem?_eq_getElem hil) rfl rfl rfl rfl rfl rfl rfl rfl rfl ?_)
    intro ebx2 eox2 eux2 hrx2 hatx2
    obtain ⟨rfl, evx2, enx2, eNx2⟩ := hrx2
    replace hatx2 : At _ w3 ebx2 eox2 [.int .i64 l[i].var, .string l[i].name, .int .i64 l[i].n] := hatx2
    refine l_cons (o_p tbOk rfl rfl rfl ?_)
    refine l_cons (o_ld tbOk (hatx2.cell 2 _ rfl) rfl rfl rfl rfl rfl ?_)
    refine l_cons (o_p tbOk rfl rfl rfl ?_)
    refine l_cons (o_p tbOk rfl rfl rfl ?_)
    refine l_nil ?_
    refine x_seq ?_
    refine c_ifP _ rfl (fun c7 => ?_) (fun c7 => ?_)
    · refine c_seq ?_
      refine c_reg ?_
      refine l_cons (o_p tbOk rfl rfl rfl ?_)
      refine l_nil ?_
      refine x_seq ?_
      refine c_ret ?_
      refine x_seqR ?_
      refine x_blkR ?_
      refine x_seqR ?_
      refine x_seqR ?_
      refine x_blkR ?_
      refine x_seqR ?_
      refine x_ret1 rfl rfl ?_
      exact ⟨by simp, hE⟩
    refine c_skip ?_
    refine x_seq ?_
    refine c_reg ?_
    refine l_cons (o_p tbOk rfl rfl rfl ?_)
    refine l_cons (o_p tbOk rfl rfl rfl ?_)
    refine l_cons (o_p tbOk rfl rfl rfl ?_)
    refine l_cons (o_ixS tbOk hs (List.getElem?_eq_getElem hil) rfl rfl rfl rfl rfl rfl rfl rfl rfl ?_)
    intro ebx3 eox3 eux3 hrx3 hatx3
    obtain ⟨rfl, evx3, enx3, eNx3⟩ := hrx3
    replace hatx3 : At _ w3 ebx3 eox3 [.int .i64 l[i].var, .string l[i].name, .int .i64 l[i].n] := hatx3
    refine l_cons (o_lds tbOk (fun j v hv => hatx3.cell j v hv) rfl rfl rfl rfl rfl rfl ?_)
    have hnx : ∀ e ∈ l.take (i + 1), Near e.n := by
      intro e he
      rw [List.take_succ_eq_append_getElem hil] at he
      rcases List.mem_append.1 he with h | h
      · exact hnear e h
      · obtain rfl : e = l[i] := by simpa using h
        exact ⟨by omega, by omega⟩
    refine l_cons (o_bs tbOk rfl rfl rfl rfl rfl rfl rfl (sz1 rfl) rfl rfl rfl ?_)
    intro bw4 w4 qbw4 ew4 hbw4
    have nbw4 := nM_of hlow qbw4
    replace hm := hm.ext hlow hB ew4
    replace hE := hE.trans (Below.mono ew4 hB)
    replace h2 := h2.ext ew4
    replace hs := hs.ext ew4
    replace hatx1 := hatx1.ext ew4
    replace hatx2 := hatx2.ext ew4
    replace hatx3 := hatx3.ext ew4
    replace hlow := hlow.ext ew4
    replace hB := Nat.le_trans hB ew4.size
    refine l_cons (o_app1 tbOk hm hbw4 nbw4 ⟨rfl, evx3, enx3, eNx3⟩ hlow hB rfl rfl rfl rfl rfl rfl rfl (by simp; omega) (by show (_ + _) * 32 ≤ _; simp; omega) rfl rfl ?_)
    intro vw5 w5 Mw5 hw5 sw5 frw5 blw5
    replace hE := hE.trans sw5.below
    replace h2 := h2.stp sw5
    replace hs := hs.stp sw5
    replace hatx1 := hatx1.stp sw5
    replace hatx2 := hatx2.stp sw5
    replace hatx3 := hatx3.stp sw5
    replace hsub := fun b h => sw5.sub b (hsub b h)
    replace hlow := sw5.low
    replace hB := Nat.le_trans hB sw5.upd.1
    replace hm := hw5
    clear hw5
    refine l_cons (o_p tbOk rfl rfl rfl ?_)
    refine l_nil ?_
    refine x_blk ?_
    refine x_seq ?_
    refine c_reg ?_
    refine l_cons (o_p tbOk rfl rfl rfl ?_)
    refine l_cons (o_ar rfl rfl rfl (IntWalk.i64_in _ (by omega)) rfl rfl ?_)
    refine l_cons (o_p tbOk rfl rfl rfl ?_)
    refine l_nil ?_
    exact x_round3 (i + 1) (vw5) (Mw5) (subL_cons rfl (subL_cons rfl (subL_cons rfl (subL_cons (get_num rfl (by omega)) (subL_nil))))) ⟨by omega, hnx, by rw [List.take_succ_eq_append_getElem hil]; exact hm, h2, hs, hlow, hsub, hE, hB⟩ (by omega)
  obtain rfl : i = l.length := by omega
  rw [List.take_of_length_le (Nat.le_refl _)] at hnear hm
  refine c_exit ?_
  refine x_seqE ?_
  refine x_seqE ?_
  refine x_blkE ?_
  refine x_seq ?_
  refine c_seq ?_
  refine c_reg ?_
  refine l_cons (o_lds tbOk (fun j v hv => h2.cell j v hv) rfl rfl rfl rfl rfl rfl ?_)
  refine l_cons (o_p tbOk rfl rfl rfl ?_)
  refine l_cons (o_call fo13 rfl rfl rfl (resolve_spec p l _ _ _ hs hpn2 hnear hlow) ?_)
  rintro _ w6 ⟨rfl, ew6⟩
  replace hm := hm.ext hlow hB ew6
  replace hE := hE.trans (Below.mono ew6 hB)
  replace h2 := h2.ext ew6
  replace hs := hs.ext ew6
  replace hlow := hlow.ext ew6
  replace hB := Nat.le_trans hB ew6.size
  refine l_cons (o_p tbOk rfl rfl rfl ?_)
  refine l_cons (o_p tbOk rfl rfl rfl ?_)
  refine l_cons (o_p tbOk rfl rfl rfl ?_)
  refine l_cons (o_p tbOk rfl rfl rfl ?_)
  refine l_cons (o_p tbOk rfl rfl rfl ?_)
  refine l_nil ?_
  refine x_seq ?_
  refine c_seq ?_
  refine c_reg ?_
  refine l_cons (o_lds tbOk (fun j v hv => h2.cell j v hv) rfl rfl rfl rfl rfl rfl ?_)
  refine l_cons (o_p tbOk rfl rfl rfl ?_)
  have hw := hm.froze hL
  replace h2 := h2.wk (fun b _ h => less_sub (v := wv) b h)
  replace hs := hs.wk (fun b _ h => less_sub (v := wv) b h)
  replace hlow : Low (Less M1 wv) w6 := fun b h => hlow b h.1
  replace hsub : ∀ b, _ → Less M1 wv b := fun b h => ⟨hsub b h, fun e => by have := (hm.lt b e).1; have := hlow0 b h; omega⟩
  refine l_cons (o_call fo14 rfl rfl rfl (refResolve_spec p l _ _ _ hw hpn2 hnear hlow) ?_)
  rintro _ w7 ⟨rfl, ew7⟩
  replace hE := hE.trans (Below.mono ew7 hB)
  replace h2 := h2.ext ew7
  replace hs := hs.ext ew7
  replace hw := hw.ext ew7
  replace hlow := hlow.ext ew7
  replace hB := Nat.le_trans hB ew7.size
  refine l_cons (o_p tbOk rfl rfl rfl ?_)
  refine l_cons (o_p tbOk rfl rfl rfl ?_)
  refine l_cons (o_p tbOk rfl rfl rfl ?_)
  refine l_cons (o_p tbOk rfl rfl rfl ?_)
  refine l_cons (o_p tbOk rfl rfl rfl ?_)
  refine l_nil ?_
  refine x_seq ?_
  refine c_seq ?_
  refine c_reg ?_
  refine l_cons (o_p tbOk rfl rfl rfl ?_)
  refine l_cons (o_p tbOk rfl rfl rfl ?_)
  refine l_cons (o_p tbOk rfl rfl rfl ?_)
  refine l_cons (o_p tbOk rfl rfl rfl ?_)
  refine l_splitP 68 _ rfl (fun c8 => ?_) (fun c8 => ?_)
  · refine l_cons (o_p tbOk rfl rfl rfl ?_)
    have hcode := resF_code p l
    refine l_cons (o_conv (y := (resF p l).2) tbOk rfl rfl rfl rfl rfl (IntWalk.i64_in _ (by omega)) rfl rfl ?_)
    refine l_cons (o_p tbOk rfl rfl rfl ?_)
    refine l_cons (o_p tbOk rfl rfl rfl ?_)
    refine l_cons (o_p tbOk rfl rfl rfl ?_)
    refine l_cons (o_p tbOk rfl rfl rfl ?_)
    refine l_nil ?_
    refine x_seq ?_
    refine c_ret ?_
    refine x_ret1 rfl rfl ?_
    exact ⟨by simp, hE⟩
  exact absurd rfl c8

end Go.Proofs.Ytohfnpmehgpphaa
