/- Walks: the document's relations between types. Printed by wip/walks/prec2.py. -/
import Derived.Test.YtpoahmeacjggfaaPa
import Derived.Test.YtpoahmeacjggfaaSlh
namespace Go.Proofs.Ytpoahmeacjggfaa
open Go Rw Go.RowKit
set_option maxRecDepth 100000

/-- Count: how many fields of a name. -/
theorem count_spec (l : List Fld) (s : ByteArray) (M : Nat → Prop) (w : World) (v : Value) (hs : Sl M w v l) (hlow : Low M w) :
    Calls Try.prog 107 #[v, .string s] w (Ret fun r w' => r = .int .i64 (cntN l s : Nat) ∧ Ext w w') := by
  have hE : Below w.heap.size w w := Below.refl _ _
  have hB : w.heap.size ≤ w.heap.size := Nat.le_refl _
  have hL := hs.lt
  refine c_enter (n := 23) Try.func107 rfl rfl rfl ?_
  refine c_seq ?_
  refine c_reg ?_
  refine l_cons (o_p tbOk rfl rfl rfl ?_)
  refine l_nil ?_
  refine x_seq ?_
  refine c_seq ?_
  refine c_reg ?_
  refine l_cons (o_p tbOk rfl rfl rfl ?_)
  refine l_nil ?_
  refine x_seq ?_
  refine c_seq ?_
  refine c_seq ?_
  refine c_reg ?_
  refine l_cons (o_p tbOk rfl rfl rfl ?_)
  refine l_nil ?_
  refine x_seq ?_
  refine c_blk ?_
  refine c_loop (X := Nat) (fun i => [(0, v), (1, .string s), (5, .int .i64 (cntN (l.take i) s : Nat)), (6, .int .i64 (i : Nat))]) (fun i w' => i ≤ l.length ∧ Sl M w' v l ∧ Low M w' ∧ Below w.heap.size w w' ∧ w.heap.size ≤ w'.heap.size) (fun i => l.length - i) (0) (subL_cons rfl (subL_cons rfl (subL_cons rfl (subL_cons rfl (subL_nil))))) ?_ ?_
  · exact ⟨Nat.zero_le _, hs, hlow, hE, hB⟩
  rintro i w1 ⟨hi, hs, hlow, hE, hB⟩
  refine c_seq ?_
  refine c_seq ?_
  refine c_reg ?_
  refine l_cons (o_p tbOk rfl rfl rfl ?_)
  refine l_cons (o_p tbOk rfl rfl rfl ?_)
  refine l_cons (o_len tbOk hs rfl rfl rfl rfl rfl ?_)
  refine l_cons (o_p tbOk rfl rfl rfl ?_)
  refine l_nil ?_
  refine x_seq ?_
  refine c_ifP _ rfl (fun hc => ?_) (fun hc => ?_)
  · have hil : i < l.length := by omega
    have hcl := cntN_take_le l i s
    refine c_skip ?_
    refine x_seq ?_
    refine c_seq ?_
    refine c_blk ?_
    refine c_seq ?_
    refine c_reg ?_
    refine l_cons (o_p tbOk rfl rfl rfl ?_)
    refine l_cons (o_p tbOk rfl rfl rfl ?_)
    refine l_cons (o_ixS tbOk hs (List.getElem?_eq_getElem hil) rfl rfl rfl rfl rfl rfl rfl rfl rfl ?_)
    intro ebq eoq euq hrq hatq
    obtain ⟨szq, kvq, rfl, hyq⟩ := fld_open hrq
    replace hatq : At _ w1 ebq eoq [.string l[i].name, .int .u8 l[i].ty.op, .string l[i].ty.name, .int .i64 l[i].ty.n, kvq] := hatq
    refine l_cons (o_p tbOk rfl rfl rfl ?_)
    refine l_cons (o_ld tbOk (hatq.cell 0 _ rfl) rfl rfl rfl rfl rfl ?_)
    refine l_cons (o_p tbOk rfl rfl rfl ?_)
    refine l_cons (o_p tbOk rfl rfl rfl ?_)
    refine l_nil ?_
    refine x_seq ?_
    refine c_ifP _ rfl (fun hnm => ?_) (fun hnm => ?_)
    · refine c_reg ?_
      refine l_cons (o_p tbOk rfl rfl rfl ?_)
      refine l_cons (o_ar rfl rfl rfl (IntWalk.i64_in _ (by omega)) rfl rfl ?_)
      refine l_cons (o_p tbOk rfl rfl rfl ?_)
      refine l_nil ?_
      refine x_blk ?_
      refine x_seq ?_
      refine c_reg ?_
      refine l_cons (o_p tbOk rfl rfl rfl ?_)
      refine l_cons (o_ar rfl rfl rfl (IntWalk.i64_in _ (by omega)) rfl rfl ?_)
      refine l_cons (o_p tbOk rfl rfl rfl ?_)
      refine l_nil ?_
      exact x_round (i + 1) (subL_cons rfl (subL_cons rfl (subL_cons (get_num rfl (by rw [cntN_takeY hil hnm]; omega)) (subL_cons (get_num rfl (by omega)) (subL_nil))))) ⟨by omega, hs, hlow, hE, hB⟩ (by omega)
    · refine c_skip ?_
      refine x_blk ?_
      refine x_seq ?_
      refine c_reg ?_
      refine l_cons (o_p tbOk rfl rfl rfl ?_)
      refine l_cons (o_ar rfl rfl rfl (IntWalk.i64_in _ (by omega)) rfl rfl ?_)
      refine l_cons (o_p tbOk rfl rfl rfl ?_)
      refine l_nil ?_
      exact x_round (i + 1) (subL_cons rfl (subL_cons rfl (subL_cons (get_num rfl (by rw [cntN_takeN hil hnm])) (subL_cons (get_num rfl (by omega)) (subL_nil))))) ⟨by omega, hs, hlow, hE, hB⟩ (by omega)
  · refine c_exit ?_
    refine x_seqE ?_
    refine x_seqE ?_
    refine x_blkE ?_
    refine x_seq ?_
    refine c_seq ?_
    refine c_reg ?_
    refine l_cons (o_p tbOk rfl rfl rfl ?_)
    refine l_cons (o_p tbOk rfl rfl rfl ?_)
    refine l_nil ?_
    refine x_seq ?_
    refine c_ret ?_
    refine x_ret1 rfl rfl ?_
    obtain rfl : i = l.length := by omega
    rw [List.take_of_length_le (Nat.le_refl _)]
    exact ⟨rfl, hE⟩

/-- Nth: the place of the n-th field of a name. -/
theorem nthR_spec (l : List Fld) (s : ByteArray) (n : Nat) (M : Nat → Prop) (w : World) (v : Value) (hn : n ≤ 2000000) (hsr : Srt l) (hs : Sl M w v l) (hlow : Low M w) :
    Calls Try.prog 106 #[v, .string s, .int .i64 (n : Nat)] w (Ret fun r w' => r = .int .i64 (nthZ l s n) ∧ Ext w w') := by
  have hE : Below w.heap.size w w := Below.refl _ _
  have hB : w.heap.size ≤ w.heap.size := Nat.le_refl _
  have hL := hs.lt
  refine c_enter (n := 26) Try.func106 rfl rfl rfl ?_
  refine c_seq ?_
  refine c_reg ?_
  refine l_cons (o_p tbOk rfl rfl rfl ?_)
  refine l_nil ?_
  refine x_seq ?_
  refine c_seq ?_
  refine c_seq ?_
  refine c_reg ?_
  refine l_cons (o_p tbOk rfl rfl rfl ?_)
  refine l_nil ?_
  refine x_seq ?_
  refine c_blk ?_
  refine c_loop (X := Nat) (fun i => [(0, v), (1, .string s), (2, .int .i64 ((n : Int) - (cntN (l.take i) s : Nat))), (7, .int .i64 (i : Nat))]) (fun i w' => i ≤ l.length ∧ cntN (l.take i) s ≤ n ∧ Sl M w' v l ∧ Low M w' ∧ Below w.heap.size w w' ∧ w.heap.size ≤ w'.heap.size) (fun i => l.length - i) (0) (subL_cons rfl (subL_cons rfl (subL_cons (get_num rfl (by show (n : Int) = (n : Int) - ((0 : Nat) : Int); omega)) (subL_cons rfl (subL_nil))))) ?_ ?_
  · exact ⟨Nat.zero_le _, Nat.zero_le _, hs, hlow, hE, hB⟩
  rintro i w1 ⟨hi, hcn, hs, hlow, hE, hB⟩
  refine c_seq ?_
  refine c_seq ?_
  refine c_reg ?_
  refine l_cons (o_p tbOk rfl rfl rfl ?_)
  refine l_cons (o_p tbOk rfl rfl rfl ?_)
  refine l_cons (o_len tbOk hs rfl rfl rfl rfl rfl ?_)
  refine l_cons (o_p tbOk rfl rfl rfl ?_)
  refine l_nil ?_
  refine x_seq ?_
  refine c_ifP _ rfl (fun hc => ?_) (fun hc => ?_)
  · have hil : i < l.length := by omega
    refine c_skip ?_
    refine x_seq ?_
    refine c_seq ?_
    refine c_blk ?_
    refine c_seq ?_
    refine c_reg ?_
    refine l_cons (o_p tbOk rfl rfl rfl ?_)
    refine l_cons (o_p tbOk rfl rfl rfl ?_)
    refine l_cons (o_ixS tbOk hs (List.getElem?_eq_getElem hil) rfl rfl rfl rfl rfl rfl rfl rfl rfl ?_)
    intro ebq eoq euq hrq hatq
    obtain ⟨szq, kvq, rfl, hyq⟩ := fld_open hrq
    replace hatq : At _ w1 ebq eoq [.string l[i].name, .int .u8 l[i].ty.op, .string l[i].ty.name, .int .i64 l[i].ty.n, kvq] := hatq
    refine l_cons (o_p tbOk rfl rfl rfl ?_)
    refine l_cons (o_ld tbOk (hatq.cell 0 _ rfl) rfl rfl rfl rfl rfl ?_)
    refine l_cons (o_p tbOk rfl rfl rfl ?_)
    refine l_cons (o_p tbOk rfl rfl rfl ?_)
    refine l_nil ?_
    refine x_seq ?_
    refine c_ifP _ rfl (fun hnm => ?_) (fun hnm => ?_)
    · refine c_seq ?_
      refine c_seq ?_
      refine c_reg ?_
      refine l_cons (o_p tbOk rfl rfl rfl ?_)
      refine l_cons (o_p tbOk rfl rfl rfl ?_)
      refine l_nil ?_
      refine x_seq ?_
      refine c_ifP _ rfl (fun hz => ?_) (fun hz => ?_)
      · have e1 := srt_idx hsr hil
        have e2 := cnt_at hil
        rw [hnm] at e1 e2
        refine c_seq ?_
        refine c_reg ?_
        refine l_cons (o_p tbOk rfl rfl rfl ?_)
        refine l_cons (o_p tbOk rfl rfl rfl ?_)
        refine l_nil ?_
        refine x_seq ?_
        refine c_ret ?_
        refine x_seqR ?_
        refine x_blkR ?_
        refine x_seqR ?_
        refine x_seqR ?_
        refine x_blkR ?_
        refine x_seqR ?_
        refine x_ret1 rfl rfl ?_
        rw [nthZ_yes (by omega), show lessN l s + n = i by omega]
        exact ⟨rfl, hE⟩
      · refine c_skip ?_
        refine x_seq ?_
        refine c_reg ?_
        refine l_cons (o_p tbOk rfl rfl rfl ?_)
        refine l_cons (o_ar rfl rfl rfl (IntWalk.i64_in _ (by omega)) rfl rfl ?_)
        refine l_cons (o_p tbOk rfl rfl rfl ?_)
        refine l_nil ?_
        refine x_blk ?_
        refine x_seq ?_
        refine c_reg ?_
        refine l_cons (o_p tbOk rfl rfl rfl ?_)
        refine l_cons (o_ar rfl rfl rfl (IntWalk.i64_in _ (by omega)) rfl rfl ?_)
        refine l_cons (o_p tbOk rfl rfl rfl ?_)
        refine l_nil ?_
        exact x_round (i + 1) (subL_cons rfl (subL_cons rfl (subL_cons (get_num rfl (by rw [cntN_takeY hil hnm]; omega)) (subL_cons (get_num rfl (by omega)) (subL_nil))))) ⟨by omega, by rw [cntN_takeY hil hnm]; omega, hs, hlow, hE, hB⟩ (by omega)
    · refine c_skip ?_
      refine x_blk ?_
      refine x_seq ?_
      refine c_reg ?_
      refine l_cons (o_p tbOk rfl rfl rfl ?_)
      refine l_cons (o_ar rfl rfl rfl (IntWalk.i64_in _ (by omega)) rfl rfl ?_)
      refine l_cons (o_p tbOk rfl rfl rfl ?_)
      refine l_nil ?_
      exact x_round (i + 1) (subL_cons rfl (subL_cons rfl (subL_cons (get_num rfl (by rw [cntN_takeN hil hnm])) (subL_cons (get_num rfl (by omega)) (subL_nil))))) ⟨by omega, by rw [cntN_takeN hil hnm]; exact hcn, hs, hlow, hE, hB⟩ (by omega)
  · refine c_exit ?_
    refine x_seqE ?_
    refine x_seqE ?_
    refine x_blkE ?_
    refine x_seq ?_
    refine c_seq ?_
    refine c_reg ?_
    refine l_cons (o_p tbOk rfl rfl rfl ?_)
    refine l_nil ?_
    refine x_seq ?_
    refine c_ret ?_
    refine x_ret1 rfl rfl ?_
    obtain rfl : i = l.length := by omega
    rw [List.take_of_length_le (Nat.le_refl _)] at hcn
    rw [nthZ_no (by omega)]
    exact ⟨rfl, hE⟩

/-- The document's rows. -/
theorem refRows_of (less : Bool) (a b : Ty) (IH : ∀ x y, psz x < psz a → rightB x = true → rightB y = true → psz y ≤ 2000000 → ∀ (M : Nat → Prop) (w : World) (v u : Value), Rep.R M w v x → Rep.R M w u y → Low M w → Calls Try.prog 76 #[v, u, .bool less] w (Ret fun r w' => r = .bool (holdsF less x y) ∧ Ext w w')) (M : Nat → Prop) (w : World) (v u : Value) (hra : rowB a = true) (hrb : rowB b = true) (ha : Rep.R M w v a) (hb : Rep.R M w u b) (hlow : Low M w) (hza : psz a ≤ 2000000) (hzb : psz b ≤ 2000000) :
    Calls Try.prog 77 #[v, u, .bool less] w (Ret fun r w' => r = .bool (rowsF less a b) ∧ Ext w w') := by
  have hE : Below w.heap.size w w := Below.refl _ _
  have hB : w.heap.size ≤ w.heap.size := Nat.le_refl _
  obtain ⟨kva, rfl, opa, nma, n64a, hka⟩ := ty_open ha
  obtain ⟨kvb, rfl, opb, nmb, n64b, hkb⟩ := ty_open hb
  have hsa := (rowB_of hra).1
  have hsb := (rowB_of hrb).1
  refine c_enter (n := 129) Try.func77 rfl rfl rfl ?_
  refine c_seq ?_
  refine c_reg ?_
  refine l_cons (o_box rfl rfl rfl ?_)
  intro b3 w1 hb_b3 ew1 h3
  replace h3 : Box _ b3 25 [.int .u8 a.op, .string a.name, .int .i64 a.n, kva] := h3
  replace h3 := h3.at (nM_of hlow hb_b3)
  replace hE := hE.trans (Below.mono ew1 hB)
  replace ha := Rep.ext ha ew1
  replace hka := hka.ext ew1
  replace hb := Rep.ext hb ew1
  replace hkb := hkb.ext ew1
  replace hlow := hlow.ext ew1
  replace hB := Nat.le_trans hB ew1.size
  refine l_cons (o_box rfl rfl rfl ?_)
  intro b4 w2 hb_b4 ew2 h4
  replace h4 : Box _ b4 25 [.int .u8 b.op, .string b.name, .int .i64 b.n, kvb] := h4
  replace h4 := h4.at (nM_of hlow hb_b4)
  replace hE := hE.trans (Below.mono ew2 hB)
  replace ha := Rep.ext ha ew2
  replace hka := hka.ext ew2
  replace hb := Rep.ext hb ew2
  replace hkb := hkb.ext ew2
  replace h3 := h3.ext ew2
  replace hlow := hlow.ext ew2
  replace hB := Nat.le_trans hB ew2.size
  refine l_cons (o_p tbOk rfl rfl rfl ?_)
  refine l_nil ?_
  refine x_seq ?_
  refine c_seq ?_
  refine c_reg ?_
  refine l_cons (o_lds tbOk (fun j v hv => h3.cell j v hv) rfl rfl rfl rfl rfl rfl ?_)
  refine l_cons (o_call fo26 rfl rfl rfl (fields_spec a _ _ _ hsa ha hlow hza) ?_)
  rintro _ w3 ⟨⟨xl, vs, rfl, hfl, hvs⟩, ew3⟩
  rw [show fieldsF (spineF a).1 = (flatF a).1 by rw [flat_yes hra]] at hfl
  rw [show (spineF a).2 = (flatF a).2 by rw [flat_yes hra]] at hvs
  obtain ⟨l, el⟩ : ∃ l, (flatF a).1 = l := ⟨_, rfl⟩
  rw [el] at hfl
  obtain ⟨s, es⟩ : ∃ l, (flatF a).2 = l := ⟨_, rfl⟩
  rw [es] at hvs
  have hsl : Srt l := el ▸ flt_srt a
  have hll : l.length ≤ 2000000 := by have := flt_len a; rw [el] at this; omega
  have hrl : ∀ f ∈ l, rightB f.ty = true ∧ psz f.ty < psz a := fun f hf => ⟨flt_right hra (by rw [el]; exact hf), flt_psz (t := a) (by rw [el]; exact hf)⟩
  replace hE := hE.trans (Below.mono ew3 hB)
  replace ha := Rep.ext ha ew3
  replace hka := hka.ext ew3
  replace hb := Rep.ext hb ew3
  replace hkb := hkb.ext ew3
  replace h3 := h3.ext ew3
  replace h4 := h4.ext ew3
  replace hlow := hlow.ext ew3
  replace hB := Nat.le_trans hB ew3.size
  obtain ⟨kvs, rfl, ops, nms, n64s, hks⟩ := ty_open hvs
  refine l_cons (o_p tbOk rfl rfl rfl ?_)
  refine l_cons (o_p tbOk rfl rfl rfl ?_)
  refine l_cons (o_p tbOk rfl rfl rfl ?_)
  refine l_cons (o_new tbOk rfl rfl rfl ?_)
  intro b8 w4 qb8 ew4 hb8
  have nb8 := nM_of hlow qb8
  refine l_cons (o_p tbOk rfl rfl rfl ?_)
  refine l_cons (o_st tbOk hb8 rfl rfl rfl rfl (Rep.one hvs) rfl rfl ?_)
  intro w5 h8 uw5 bew5
  have ew5 : Ext w3 w5 := ew4.trans (bew5 _ (Nat.le_of_eq qb8.symm))
  replace hE := hE.trans (Below.mono ew5 hB)
  replace ha := Rep.ext ha ew5
  replace hka := hka.ext ew5
  replace hb := Rep.ext hb ew5
  replace hkb := hkb.ext ew5
  replace h3 := h3.ext ew5
  replace h4 := h4.ext ew5
  replace hfl := hfl.ext ew5
  replace hvs := Rep.ext hvs ew5
  replace hks := hks.ext ew5
  replace hlow := hlow.ext ew5
  replace hB := Nat.le_trans hB ew5.size
  replace h8 : Box w5 b8 25 [.int .u8 s.op, .string s.name, .int .i64 s.n, kvs] := h8
  replace h8 := h8.at nb8
  refine l_nil ?_
  refine x_seq ?_
  refine c_seq ?_
  refine c_reg ?_
  refine l_cons (o_lds tbOk (fun j v hv => h4.cell j v hv) rfl rfl rfl rfl rfl rfl ?_)
  refine l_cons (o_call fo26 rfl rfl rfl (fields_spec b _ _ _ hsb hb hlow hzb) ?_)
  rintro _ w6 ⟨⟨xm, vt, rfl, hfm, hvt⟩, ew6⟩
  rw [show fieldsF (spineF b).1 = (flatF b).1 by rw [flat_yes hrb]] at hfm
  rw [show (spineF b).2 = (flatF b).2 by rw [flat_yes hrb]] at hvt
  obtain ⟨m, em⟩ : ∃ l, (flatF b).1 = l := ⟨_, rfl⟩
  rw [em] at hfm
  obtain ⟨t, et⟩ : ∃ l, (flatF b).2 = l := ⟨_, rfl⟩
  rw [et] at hvt
  have hsm : Srt m := em ▸ flt_srt b
  have hlm : m.length ≤ 2000000 := by have := flt_len b; rw [em] at this; omega
  have hrm : ∀ f ∈ m, rightB f.ty = true ∧ psz f.ty < psz b := fun f hf => ⟨flt_right hrb (by rw [em]; exact hf), flt_psz (t := b) (by rw [em]; exact hf)⟩
  replace hE := hE.trans (Below.mono ew6 hB)
  replace ha := Rep.ext ha ew6
  replace hka := hka.ext ew6
  replace hb := Rep.ext hb ew6
  replace hkb := hkb.ext ew6
  replace h3 := h3.ext ew6
  replace h4 := h4.ext ew6
  replace hfl := hfl.ext ew6
  replace hvs := Rep.ext hvs ew6
  replace hks := hks.ext ew6
  replace h8 := h8.ext ew6
  replace hlow := hlow.ext ew6
  replace hB := Nat.le_trans hB ew6.size
  obtain ⟨kvt, rfl, opt, nmt, n64t, hkt⟩ := ty_open hvt
  refine l_cons (o_p tbOk rfl rfl rfl ?_)
  refine l_cons (o_p tbOk rfl rfl rfl ?_)
  refine l_cons (o_p tbOk rfl rfl rfl ?_)
  refine l_cons (o_new tbOk rfl rfl rfl ?_)
  intro b10 w7 qb10 ew7 hb10
  have nb10 := nM_of hlow qb10
  refine l_cons (o_p tbOk rfl rfl rfl ?_)
  refine l_cons (o_st tbOk hb10 rfl rfl rfl rfl (Rep.one hvt) rfl rfl ?_)
  intro w8 h10 uw8 bew8
  have ew8 : Ext w6 w8 := ew7.trans (bew8 _ (Nat.le_of_eq qb10.symm))
  replace hE := hE.trans (Below.mono ew8 hB)
  replace ha := Rep.ext ha ew8
  replace hka := hka.ext ew8
  replace hb := Rep.ext hb ew8
  replace hkb := hkb.ext ew8
  replace h3 := h3.ext ew8
  replace h4 := h4.ext ew8
  replace hfl := hfl.ext ew8
  replace hvs := Rep.ext hvs ew8
  replace hks := hks.ext ew8
  replace h8 := h8.ext ew8
  replace hfm := hfm.ext ew8
  replace hvt := Rep.ext hvt ew8
  replace hkt := hkt.ext ew8
  replace hlow := hlow.ext ew8
  replace hB := Nat.le_trans hB ew8.size
  replace h10 : Box w8 b10 25 [.int .u8 t.op, .string t.name, .int .i64 t.n, kvt] := h10
  replace h10 := h10.at nb10
  refine l_nil ?_
  refine x_seq ?_
  refine c_seq ?_
  refine c_seq ?_
  refine c_reg ?_
  refine l_cons (o_p tbOk rfl rfl rfl ?_)
  refine l_nil ?_
  refine x_seq ?_
  refine c_blk ?_
  clear h3 h4 ha hb hka hkb
  have hs3 := flt_tail hra
  have ht3 := flt_tail hrb
  rw [es] at hs3
  rw [et] at ht3
  refine c_loop (X := Nat) (fun i => [(2, .bool less), (7, xl), (8, .pointer (some ⟨b8, 0, none⟩)), (9, xm), (10, .pointer (some ⟨b10, 0, none⟩)), (11, .int .i64 (i : Nat))]) (fun i w' => i ≤ l.length ∧ (∀ j, j < i → okL (holdsF less) l m t j = true) ∧ At M w' b8 0 [.int .u8 s.op, .string s.name, .int .i64 s.n, kvs] ∧ At M w' b10 0 [.int .u8 t.op, .string t.name, .int .i64 t.n, kvt] ∧ Sl M w' xl l ∧ Sl M w' xm m ∧ Rep.R M w' (.agg #[.int .u8 s.op, .string s.name, .int .i64 s.n, kvs]) s ∧ Rep.R M w' (.agg #[.int .u8 t.op, .string t.name, .int .i64 t.n, kvt]) t ∧ Low M w' ∧ Below w.heap.size w w' ∧ w.heap.size ≤ w'.heap.size) (fun i => l.length - i) (0) (subL_cons rfl (subL_cons rfl (subL_cons rfl (subL_cons rfl (subL_cons rfl (subL_cons rfl (subL_nil))))))) ?_ ?_
  · exact ⟨Nat.zero_le _, fun j h => absurd h (Nat.not_lt_zero _), h8, h10, hfl, hfm, hvs, hvt, hlow, hE, hB⟩
  rintro i w9 ⟨hi, hokl, h8, h10, hfl, hfm, hvs, hvt, hlow, hE, hB⟩
  refine c_seq ?_
  refine c_seq ?_
  refine c_reg ?_
  refine l_cons (o_p tbOk rfl rfl rfl ?_)
  refine l_cons (o_p tbOk rfl rfl rfl ?_)
  refine l_cons (o_len tbOk hfl rfl rfl rfl rfl rfl ?_)
  refine l_cons (o_p tbOk rfl rfl rfl ?_)
  refine l_nil ?_
  refine x_seq ?_
  refine c_ifP _ rfl (fun hc => ?_) (fun hc => ?_)
  · have hil : i < l.length := by omega
    refine c_skip ?_
    refine x_seq ?_
    refine c_seq ?_
    refine c_blk ?_
    refine c_seq ?_
    refine a_beg Ext rfl ?_
    intro w10 ew10
    replace hE := hE.trans (Below.mono ew10 hB)
    replace h8 := h8.ext ew10
    replace h10 := h10.ext ew10
    replace hfl := hfl.ext ew10
    replace hfm := hfm.ext ew10
    replace hvs := Rep.ext hvs ew10
    replace hvt := Rep.ext hvt ew10
    replace hlow := hlow.ext ew10
    replace hB := Nat.le_trans hB ew10.size
    have hS : Ext w10 w10 := ext_refl _
    have D_h8 := h8
    have D_h10 := h10
    have D_hfl := hfl
    have D_hfm := hfm
    refine a_p 0 tbOk rfl rfl rfl rfl (by kernel_rfl) (fun _ _ _ h => h) hS ?_
    refine a_p 1 tbOk rfl rfl rfl rfl (by kernel_rfl) (fun _ _ _ h => h) hS ?_
    refine a_p 2 tbOk rfl rfl rfl rfl (by kernel_rfl) (fun _ _ _ h => h) hS ?_
    refine a_ixS 3 tbOk D_hfl (List.getElem?_eq_getElem hil) rfl rfl rfl rfl rfl rfl rfl rfl rfl rfl (by kernel_rfl) (fun _ _ _ _ h => h) hS ?_
    intro ebq0 eoq0 euq0 hrq0 hatq0
    obtain ⟨szq0, kvq0, rfl, hyq0⟩ := fld_open hrq0
    replace hatq0 : At _ w10 ebq0 eoq0 [.string l[i].name, .int .u8 l[i].ty.op, .string l[i].ty.name, .int .i64 l[i].ty.n, kvq0] := hatq0
    refine a_p 4 tbOk rfl rfl rfl rfl (by kernel_rfl) (fun _ _ _ h => h) hS ?_
    refine a_ld 5 tbOk (fun _ hs => (hatq0.ext hs).cell 0 _ rfl) rfl rfl rfl rfl rfl rfl (by kernel_rfl) (fun _ _ _ h => h) hS ?_
    refine a_p 6 tbOk rfl rfl rfl rfl (by kernel_rfl) (fun _ _ _ h => h) hS ?_
    refine a_p 7 tbOk rfl rfl rfl rfl (by kernel_rfl) (fun _ _ _ h => h) hS ?_
    refine a_p 9 tbOk rfl rfl rfl rfl (by kernel_rfl) (fun _ _ _ h => h) hS ?_
    refine a_p 10 tbOk rfl rfl rfl rfl (by kernel_rfl) (fun _ _ _ h => h) hS ?_
    refine a_ixS 11 tbOk D_hfl (List.getElem?_eq_getElem hil) rfl rfl rfl rfl rfl rfl rfl rfl rfl rfl (by kernel_rfl) (fun _ _ _ _ h => h) hS ?_
    intro ebq1 eoq1 euq1 hrq1 hatq1
    obtain ⟨szq1, kvq1, rfl, hyq1⟩ := fld_open hrq1
    replace hatq1 : At _ w10 ebq1 eoq1 [.string l[i].name, .int .u8 l[i].ty.op, .string l[i].ty.name, .int .i64 l[i].ty.n, kvq1] := hatq1
    refine a_p 12 tbOk rfl rfl rfl rfl (by kernel_rfl) (fun _ _ _ h => h) hS ?_
    refine a_ld 13 tbOk (fun _ hs => (hatq1.ext hs).cell 0 _ rfl) rfl rfl rfl rfl rfl rfl (by kernel_rfl) (fun _ _ _ h => h) hS ?_
    refine a_one 8 rfl (by kernel_rfl) (o_slh (j := i) tbOk hfl rfl rfl rfl hi rfl rfl rfl rfl rfl ?_)
    intro tv htk
    refine ⟨hS, ?_⟩
    refine a_one 14 rfl (by kernel_rfl) (o_call fo107 rfl rfl rfl (count_spec (l.take i) l[i].name _ _ _ htk hlow) ?_)
    rintro _ w11 ⟨rfl, ew11⟩
    replace hS := hS.then ew11
    replace hE := hE.trans (Below.mono ew11 hB)
    replace h8 := h8.ext ew11
    replace h10 := h10.ext ew11
    replace hfl := hfl.ext ew11
    replace hfm := hfm.ext ew11
    replace hvs := Rep.ext hvs ew11
    replace hvt := Rep.ext hvt ew11
    replace hrq0 := Rep.ext hrq0 ew11
    replace hyq0 := Rep.ext hyq0 ew11
    replace hatq0 := hatq0.ext ew11
    replace hrq1 := Rep.ext hrq1 ew11
    replace hyq1 := Rep.ext hyq1 ew11
    replace hatq1 := hatq1.ext ew11
    replace htk := htk.ext ew11
    replace hlow := hlow.ext ew11
    replace hB := Nat.le_trans hB ew11.size
    refine ⟨hS, ?_⟩
    have hcb : cntN (l.take i) l[i].name ≤ 2000000 := Nat.le_trans (cntN_take_le _ _ _) (by omega)
    refine a_bar 15 rfl (by kernel_rfl) (by kernel_rfl) (o_call fo106 rfl rfl rfl (nthR_spec m l[i].name (cntN (l.take i) l[i].name) _ _ _ hcb hsm hfm hlow) ?_)
    rintro _ w12 ⟨rfl, ew12⟩
    replace hS := hS.then ew12
    replace hE := hE.trans (Below.mono ew12 hB)
    replace h8 := h8.ext ew12
    replace h10 := h10.ext ew12
    replace hfl := hfl.ext ew12
    replace hfm := hfm.ext ew12
    replace hvs := Rep.ext hvs ew12
    replace hvt := Rep.ext hvt ew12
    replace hrq0 := Rep.ext hrq0 ew12
    replace hyq0 := Rep.ext hyq0 ew12
    replace hatq0 := hatq0.ext ew12
    replace hrq1 := Rep.ext hrq1 ew12
    replace hyq1 := Rep.ext hyq1 ew12
    replace hatq1 := hatq1.ext ew12
    replace htk := htk.ext ew12
    replace hlow := hlow.ext ew12
    replace hB := Nat.le_trans hB ew12.size
    refine a_p 16 tbOk rfl rfl rfl rfl (by kernel_rfl) (fun _ _ _ h => h) hS ?_
    refine a_end (by kernel_rfl) ?_
    refine x_seq ?_
    refine c_seq ?_
    refine a_beg Ext rfl ?_
    intro w13 ew13
    replace hE := hE.trans (Below.mono ew13 hB)
    replace h8 := h8.ext ew13
    replace h10 := h10.ext ew13
    replace hfl := hfl.ext ew13
    replace hfm := hfm.ext ew13
    replace hvs := Rep.ext hvs ew13
    replace hvt := Rep.ext hvt ew13
    replace hrq0 := Rep.ext hrq0 ew13
    replace hyq0 := Rep.ext hyq0 ew13
    replace hatq0 := hatq0.ext ew13
    replace hrq1 := Rep.ext hrq1 ew13
    replace hyq1 := Rep.ext hyq1 ew13
    replace hatq1 := hatq1.ext ew13
    replace htk := htk.ext ew13
    replace hlow := hlow.ext ew13
    replace hB := Nat.le_trans hB ew13.size
    have hS : Ext w13 w13 := ext_refl _
    have D_h8 := h8
    have D_h10 := h10
    have D_hfl := hfl
    have D_hfm := hfm
    have D_hatq0 := hatq0
    have D_hatq1 := hatq1
    have D_htk := htk
    refine a_p 0 tbOk rfl rfl rfl rfl (by kernel_rfl) (fun _ _ _ h => h) hS ?_
    refine a_p 1 tbOk rfl rfl rfl rfl (by kernel_rfl) (fun _ _ _ h => h) hS ?_
    refine a_p 2 tbOk rfl rfl rfl rfl (by kernel_rfl) (fun _ _ _ h => h) hS ?_
    refine a_splitP 48 _ rfl (fun hneg => ?_) (fun hneg => ?_)
    · have hcl : ¬ cntN (l.take i) l[i].name < cntN m l[i].name := fun h => by rw [nthZ_yes h] at hneg; omega
      refine a_p 3 tbOk rfl rfl rfl rfl (by kernel_rfl) (fun _ _ _ h => h) hS ?_
      refine a_ld 4 tbOk (fun _ hs => (D_h10.ext hs).cell 0 _ rfl) rfl rfl rfl rfl rfl rfl (by kernel_rfl) (fun _ _ _ h => h) hS ?_
      refine a_p 5 tbOk rfl rfl rfl rfl (by kernel_rfl) (fun _ _ _ h => h) hS ?_
      refine a_p 6 tbOk rfl rfl rfl rfl (by kernel_rfl) (fun _ _ _ h => h) hS ?_
      refine a_p 7 tbOk rfl rfl rfl rfl (by kernel_rfl) (fun _ _ _ h => h) hS ?_
      refine a_splitN 53 _ rfl (fun hto => ?_) (fun hto => ?_)
      · refine a_skip 8 rfl rfl rfl (by kernel_rfl) (fun _ _ _ h => h) hS ?_
        refine a_skip 9 rfl rfl rfl (by kernel_rfl) (fun _ _ _ h => h) hS ?_
        refine a_skip 10 rfl rfl rfl (by kernel_rfl) (fun _ _ _ h => h) hS ?_
        refine a_skip 11 rfl rfl rfl (by kernel_rfl) (fun _ _ _ h => h) hS ?_
        refine a_skip 12 rfl rfl rfl (by kernel_rfl) (fun _ _ _ h => h) hS ?_
        refine a_skip 13 rfl rfl rfl (by kernel_rfl) (fun _ _ _ h => h) hS ?_
        refine a_skip 14 rfl rfl rfl (by kernel_rfl) (fun _ _ _ h => h) hS ?_
        refine a_skip 15 rfl rfl rfl (by kernel_rfl) (fun _ _ _ h => h) hS ?_
        refine a_skip 16 rfl rfl rfl (by kernel_rfl) (fun _ _ _ h => h) hS ?_
        refine a_skip 17 rfl rfl rfl (by kernel_rfl) (fun _ _ _ h => h) hS ?_
        refine a_skip 18 rfl rfl rfl (by kernel_rfl) (fun _ _ _ h => h) hS ?_
        refine a_skip 19 rfl rfl rfl (by kernel_rfl) (fun _ _ _ h => h) hS ?_
        refine a_skip 20 rfl rfl rfl (by kernel_rfl) (fun _ _ _ h => h) hS ?_
        refine a_skip 21 rfl rfl rfl (by kernel_rfl) (fun _ _ _ h => h) hS ?_
        refine a_skip 22 rfl rfl rfl (by kernel_rfl) (fun _ _ _ h => h) hS ?_
        refine a_skip 23 rfl rfl rfl (by kernel_rfl) (fun _ _ _ h => h) hS ?_
        refine a_skip 24 rfl rfl rfl (by kernel_rfl) (fun _ _ _ h => h) hS ?_
        refine a_p 25 tbOk rfl rfl rfl rfl (by kernel_rfl) (fun _ _ _ h => h) hS ?_
        refine a_end (by kernel_rfl) ?_
        refine x_seq ?_
        refine c_ifT rfl ?_
        refine c_seq ?_
        refine c_reg ?_
        refine l_cons (o_p tbOk rfl rfl rfl ?_)
        refine l_nil ?_
        refine x_seq ?_
        refine c_ret ?_
        refine x_blkR ?_
        refine x_seqR ?_
        refine x_seqR ?_
        refine x_blkR ?_
        refine x_seqR ?_
        refine x_ret1 rfl rfl ?_
        rw [rows_noL el em hil (by rw [et, okL_no hil hcl]; exact decide_eq_false hto)]
        exact ⟨rfl, hE⟩
      · refine a_p 8 tbOk rfl rfl rfl rfl (by kernel_rfl) (fun _ _ _ h => h) hS ?_
        refine a_p 9 tbOk rfl rfl rfl rfl (by kernel_rfl) (fun _ _ _ h => h) hS ?_
        refine a_p 10 tbOk rfl rfl rfl rfl (by kernel_rfl) (fun _ _ _ h => h) hS ?_
        refine a_splitP 56 _ rfl (fun hz => ?_) (fun hz => ?_)
        · exact absurd hz (by omega)
        · refine a_skip 11 rfl rfl rfl (by kernel_rfl) (fun _ _ _ h => h) hS ?_
          refine a_skip 12 rfl rfl rfl (by kernel_rfl) (fun _ _ _ h => h) hS ?_
          refine a_skip 13 rfl rfl rfl (by kernel_rfl) (fun _ _ _ h => h) hS ?_
          refine a_skip 14 rfl rfl rfl (by kernel_rfl) (fun _ _ _ h => h) hS ?_
          refine a_skip 15 rfl rfl rfl (by kernel_rfl) (fun _ _ _ h => h) hS ?_
          refine a_skip 16 rfl rfl rfl (by kernel_rfl) (fun _ _ _ h => h) hS ?_
          refine a_skip 17 rfl rfl rfl (by kernel_rfl) (fun _ _ _ h => h) hS ?_
          refine a_skip 18 rfl rfl rfl (by kernel_rfl) (fun _ _ _ h => h) hS ?_
          refine a_skip 19 rfl rfl rfl (by kernel_rfl) (fun _ _ _ h => h) hS ?_
          refine a_skip 20 rfl rfl rfl (by kernel_rfl) (fun _ _ _ h => h) hS ?_
          refine a_skip 21 rfl rfl rfl (by kernel_rfl) (fun _ _ _ h => h) hS ?_
          refine a_skip 22 rfl rfl rfl (by kernel_rfl) (fun _ _ _ h => h) hS ?_
          refine a_skip 23 rfl rfl rfl (by kernel_rfl) (fun _ _ _ h => h) hS ?_
          refine a_p 24 tbOk rfl rfl rfl rfl (by kernel_rfl) (fun _ _ _ h => h) hS ?_
          refine a_p 25 tbOk rfl rfl rfl rfl (by kernel_rfl) (fun _ _ _ h => h) hS ?_
          refine a_end (by kernel_rfl) ?_
          refine x_seq ?_
          refine c_ifF rfl ?_
          refine c_skip ?_
          refine x_blk ?_
          refine x_seq ?_
          refine c_reg ?_
          refine l_cons (o_p tbOk rfl rfl rfl ?_)
          refine l_cons (o_ar rfl rfl rfl (IntWalk.i64_in _ (by omega)) rfl rfl ?_)
          refine l_cons (o_p tbOk rfl rfl rfl ?_)
          refine l_nil ?_
          exact x_round (i + 1) (subL_cons rfl (subL_cons rfl (subL_cons rfl (subL_cons rfl (subL_cons rfl (subL_cons (get_num rfl (by omega)) (subL_nil))))))) ⟨by omega, ok_step hokl (by rw [okL_no hil hcl]; exact decide_eq_true hto), h8, h10, hfl, hfm, hvs, hvt, hlow, hE, hB⟩ (by omega)
    · have hcl : cntN (l.take i) l[i].name < cntN m l[i].name := Decidable.byContradiction fun h => by rw [nthZ_no h] at hneg; exact hneg (by decide)
      obtain ⟨jj, hjj⟩ : ∃ jj, jj = lessN m l[i].name + cntN (l.take i) l[i].name := ⟨_, rfl⟩
      obtain ⟨hjm, _⟩ := (nth_iff hsm _ _).1 hcl
      rw [← hjj] at hjm
      refine a_skip 3 rfl rfl rfl (by kernel_rfl) (fun _ _ _ h => h) hS ?_
      refine a_skip 4 rfl rfl rfl (by kernel_rfl) (fun _ _ _ h => h) hS ?_
      refine a_skip 5 rfl rfl rfl (by kernel_rfl) (fun _ _ _ h => h) hS ?_
      refine a_p 6 tbOk rfl rfl rfl rfl (by kernel_rfl) (fun _ _ _ h => h) hS ?_
      refine a_p 7 tbOk rfl rfl rfl rfl (by kernel_rfl) (fun _ _ _ h => h) hS ?_
      refine a_p 8 tbOk rfl rfl rfl rfl (by kernel_rfl) (fun _ _ _ h => h) hS ?_
      refine a_p 9 tbOk rfl rfl rfl rfl (by kernel_rfl) (fun _ _ _ h => h) hS ?_
      refine a_p 10 tbOk rfl rfl rfl rfl (by kernel_rfl) (fun _ _ _ h => h) hS ?_
      refine a_splitP 56 _ rfl (fun hz => ?_) (fun hz => ?_)
      · refine a_p 11 tbOk rfl rfl rfl rfl (by kernel_rfl) (fun _ _ _ h => h) hS ?_
        refine a_p 12 tbOk rfl rfl rfl rfl (by kernel_rfl) (fun _ _ _ h => h) hS ?_
        refine a_ixS 13 tbOk D_hfl (List.getElem?_eq_getElem hil) rfl rfl rfl rfl rfl rfl rfl rfl rfl rfl (by kernel_rfl) (fun _ _ _ _ h => h) hS ?_
        intro ebq2 eoq2 euq2 hrq2 hatq2
        obtain ⟨szq2, kvq2, rfl, hyq2⟩ := fld_open hrq2
        replace hatq2 : At _ w13 ebq2 eoq2 [.string l[i].name, .int .u8 l[i].ty.op, .string l[i].ty.name, .int .i64 l[i].ty.n, kvq2] := hatq2
        refine a_p 14 tbOk rfl rfl rfl rfl (by kernel_rfl) (fun _ _ _ h => h) hS ?_
        refine a_lds 15 tbOk (fun _ hs j v hv => ((hatq2.ext hs)).drop 1 (sub := [.int .u8 l[i].ty.op, .string l[i].ty.name, .int .i64 l[i].ty.n, kvq2]) rfl j v hv) rfl rfl rfl rfl rfl rfl rfl (by kernel_rfl) (fun _ _ _ h => h) hS ?_
        refine a_p 16 tbOk rfl rfl rfl rfl (by kernel_rfl) (fun _ _ _ h => h) hS ?_
        refine a_p 17 tbOk rfl rfl rfl rfl (by kernel_rfl) (fun _ _ _ h => h) hS ?_
        refine a_ixS 18 tbOk D_hfm (List.getElem?_eq_getElem hjm) rfl rfl rfl (by rw [nthZ_yes hcl, hjj]) rfl rfl rfl rfl rfl rfl (by kernel_rfl) (fun _ _ _ _ h => h) hS ?_
        intro ebq3 eoq3 euq3 hrq3 hatq3
        obtain ⟨szq3, kvq3, rfl, hyq3⟩ := fld_open hrq3
        replace hatq3 : At _ w13 ebq3 eoq3 [.string m[jj].name, .int .u8 m[jj].ty.op, .string m[jj].ty.name, .int .i64 m[jj].ty.n, kvq3] := hatq3
        refine a_p 19 tbOk rfl rfl rfl rfl (by kernel_rfl) (fun _ _ _ h => h) hS ?_
        refine a_lds 20 tbOk (fun _ hs j v hv => ((hatq3.ext hs)).drop 1 (sub := [.int .u8 m[jj].ty.op, .string m[jj].ty.name, .int .i64 m[jj].ty.n, kvq3]) rfl j v hv) rfl rfl rfl rfl rfl rfl rfl (by kernel_rfl) (fun _ _ _ h => h) hS ?_
        refine a_p 21 tbOk rfl rfl rfl rfl (by kernel_rfl) (fun _ _ _ h => h) hS ?_
        refine a_bar 22 rfl (by kernel_rfl) (by kernel_rfl) (o_call fo76 rfl rfl rfl (IH l[i].ty m[jj].ty (by have := (hrl _ (List.getElem_mem hil)).2; omega) (hrl _ (List.getElem_mem hil)).1 (hrm _ (List.getElem_mem hjm)).1 (by have := (hrm _ (List.getElem_mem hjm)).2; omega) M _ _ _ hyq2 hyq3 hlow) ?_)
        rintro _ w14 ⟨rfl, ew14⟩
        replace hS := hS.then ew14
        replace hE := hE.trans (Below.mono ew14 hB)
        replace h8 := h8.ext ew14
        replace h10 := h10.ext ew14
        replace hfl := hfl.ext ew14
        replace hfm := hfm.ext ew14
        replace hvs := Rep.ext hvs ew14
        replace hvt := Rep.ext hvt ew14
        replace hrq0 := Rep.ext hrq0 ew14
        replace hyq0 := Rep.ext hyq0 ew14
        replace hatq0 := hatq0.ext ew14
        replace hrq1 := Rep.ext hrq1 ew14
        replace hyq1 := Rep.ext hyq1 ew14
        replace hatq1 := hatq1.ext ew14
        replace htk := htk.ext ew14
        replace hrq2 := Rep.ext hrq2 ew14
        replace hyq2 := Rep.ext hyq2 ew14
        replace hatq2 := hatq2.ext ew14
        replace hrq3 := Rep.ext hrq3 ew14
        replace hyq3 := Rep.ext hyq3 ew14
        replace hatq3 := hatq3.ext ew14
        replace hlow := hlow.ext ew14
        replace hB := Nat.le_trans hB ew14.size
        refine a_p 23 tbOk rfl rfl rfl rfl (by kernel_rfl) (fun _ _ _ h => h) hS ?_
        refine a_p 24 tbOk rfl rfl rfl rfl (by kernel_rfl) (fun _ _ _ h => h) hS ?_
        refine a_p 25 tbOk rfl rfl rfl rfl (by kernel_rfl) (fun _ _ _ h => h) hS ?_
        refine a_end (by kernel_rfl) ?_
        refine x_seq ?_
        refine c_ifB _ rfl (fun hho => ?_) (fun hho => ?_)
        · refine c_seq ?_
          refine c_reg ?_
          refine l_cons (o_p tbOk rfl rfl rfl ?_)
          refine l_nil ?_
          refine x_seq ?_
          refine c_ret ?_
          refine x_blkR ?_
          refine x_seqR ?_
          refine x_seqR ?_
          refine x_blkR ?_
          refine x_seqR ?_
          refine x_ret1 rfl rfl ?_
          rw [rows_noL el em hil (by rw [et, okL_yes hil hjm hcl hjj.symm]; exact hho)]
          exact ⟨rfl, hE⟩
        · refine c_skip ?_
          refine x_blk ?_
          refine x_seq ?_
          refine c_reg ?_
          refine l_cons (o_p tbOk rfl rfl rfl ?_)
          refine l_cons (o_ar rfl rfl rfl (IntWalk.i64_in _ (by omega)) rfl rfl ?_)
          refine l_cons (o_p tbOk rfl rfl rfl ?_)
          refine l_nil ?_
          exact x_round (i + 1) (subL_cons rfl (subL_cons rfl (subL_cons rfl (subL_cons rfl (subL_cons rfl (subL_cons (get_num rfl (by omega)) (subL_nil))))))) ⟨by omega, ok_step hokl (by rw [okL_yes hil hjm hcl hjj.symm]; exact hho), h8, h10, hfl, hfm, hvs, hvt, hlow, hE, hB⟩ (by omega)
      · exact absurd hz (by omega)
  · refine c_exit ?_
    refine x_seqE ?_
    refine x_seqE ?_
    refine x_blkE ?_
    refine x_seq ?_
    refine c_seq ?_
    refine c_seq ?_
    refine c_reg ?_
    refine l_cons (o_p tbOk rfl rfl rfl ?_)
    refine l_nil ?_
    refine x_seq ?_
    refine c_blk ?_
    replace hokl : ∀ j, j < l.length → okL (holdsF less) l m t j = true := fun j hj => hokl j (by omega)
    refine c_loop (X := Nat) (fun k => [(2, .bool less), (7, xl), (8, .pointer (some ⟨b8, 0, none⟩)), (9, xm), (10, .pointer (some ⟨b10, 0, none⟩)), (13, .int .i64 (k : Nat))]) (fun k w' => k ≤ m.length ∧ (∀ j, j < k → okM less l m s j = true) ∧ At M w' b8 0 [.int .u8 s.op, .string s.name, .int .i64 s.n, kvs] ∧ At M w' b10 0 [.int .u8 t.op, .string t.name, .int .i64 t.n, kvt] ∧ Sl M w' xl l ∧ Sl M w' xm m ∧ Rep.R M w' (.agg #[.int .u8 s.op, .string s.name, .int .i64 s.n, kvs]) s ∧ Rep.R M w' (.agg #[.int .u8 t.op, .string t.name, .int .i64 t.n, kvt]) t ∧ Low M w' ∧ Below w.heap.size w w' ∧ w.heap.size ≤ w'.heap.size) (fun k => m.length - k) (0) (subL_cons rfl (subL_cons rfl (subL_cons rfl (subL_cons rfl (subL_cons rfl (subL_cons rfl (subL_nil))))))) ?_ ?_
    · exact ⟨Nat.zero_le _, fun j h => absurd h (Nat.not_lt_zero _), h8, h10, hfl, hfm, hvs, hvt, hlow, hE, hB⟩
    rintro k w15 ⟨hk, hokm, h8, h10, hfl, hfm, hvs, hvt, hlow, hE, hB⟩
    refine c_seq ?_
    refine c_seq ?_
    refine c_reg ?_
    refine l_cons (o_p tbOk rfl rfl rfl ?_)
    refine l_cons (o_p tbOk rfl rfl rfl ?_)
    refine l_cons (o_len tbOk hfm rfl rfl rfl rfl rfl ?_)
    refine l_cons (o_p tbOk rfl rfl rfl ?_)
    refine l_nil ?_
    refine x_seq ?_
    refine c_ifP _ rfl (fun hc => ?_) (fun hc => ?_)
    · have hkl : k < m.length := by omega
      refine c_skip ?_
      refine x_seq ?_
      refine c_seq ?_
      refine c_blk ?_
      refine c_seq ?_
      refine a_beg Ext rfl ?_
      intro w16 ew16
      replace hE := hE.trans (Below.mono ew16 hB)
      replace h8 := h8.ext ew16
      replace h10 := h10.ext ew16
      replace hfl := hfl.ext ew16
      replace hfm := hfm.ext ew16
      replace hvs := Rep.ext hvs ew16
      replace hvt := Rep.ext hvt ew16
      replace hlow := hlow.ext ew16
      replace hB := Nat.le_trans hB ew16.size
      have hS : Ext w16 w16 := ext_refl _
      have D_h8 := h8
      have D_h10 := h10
      have D_hfl := hfl
      have D_hfm := hfm
      refine a_p 0 tbOk rfl rfl rfl rfl (by kernel_rfl) (fun _ _ _ h => h) hS ?_
      refine a_p 1 tbOk rfl rfl rfl rfl (by kernel_rfl) (fun _ _ _ h => h) hS ?_
      refine a_p 2 tbOk rfl rfl rfl rfl (by kernel_rfl) (fun _ _ _ h => h) hS ?_
      refine a_ixS 3 tbOk D_hfm (List.getElem?_eq_getElem hkl) rfl rfl rfl rfl rfl rfl rfl rfl rfl rfl (by kernel_rfl) (fun _ _ _ _ h => h) hS ?_
      intro ebq0 eoq0 euq0 hrq0 hatq0
      obtain ⟨szq0, kvq0, rfl, hyq0⟩ := fld_open hrq0
      replace hatq0 : At _ w16 ebq0 eoq0 [.string m[k].name, .int .u8 m[k].ty.op, .string m[k].ty.name, .int .i64 m[k].ty.n, kvq0] := hatq0
      refine a_p 4 tbOk rfl rfl rfl rfl (by kernel_rfl) (fun _ _ _ h => h) hS ?_
      refine a_ld 5 tbOk (fun _ hs => (hatq0.ext hs).cell 0 _ rfl) rfl rfl rfl rfl rfl rfl (by kernel_rfl) (fun _ _ _ h => h) hS ?_
      refine a_p 6 tbOk rfl rfl rfl rfl (by kernel_rfl) (fun _ _ _ h => h) hS ?_
      refine a_p 7 tbOk rfl rfl rfl rfl (by kernel_rfl) (fun _ _ _ h => h) hS ?_
      refine a_p 9 tbOk rfl rfl rfl rfl (by kernel_rfl) (fun _ _ _ h => h) hS ?_
      refine a_p 10 tbOk rfl rfl rfl rfl (by kernel_rfl) (fun _ _ _ h => h) hS ?_
      refine a_ixS 11 tbOk D_hfm (List.getElem?_eq_getElem hkl) rfl rfl rfl rfl rfl rfl rfl rfl rfl rfl (by kernel_rfl) (fun _ _ _ _ h => h) hS ?_
      intro ebq1 eoq1 euq1 hrq1 hatq1
      obtain ⟨szq1, kvq1, rfl, hyq1⟩ := fld_open hrq1
      replace hatq1 : At _ w16 ebq1 eoq1 [.string m[k].name, .int .u8 m[k].ty.op, .string m[k].ty.name, .int .i64 m[k].ty.n, kvq1] := hatq1
      refine a_p 12 tbOk rfl rfl rfl rfl (by kernel_rfl) (fun _ _ _ h => h) hS ?_
      refine a_ld 13 tbOk (fun _ hs => (hatq1.ext hs).cell 0 _ rfl) rfl rfl rfl rfl rfl rfl (by kernel_rfl) (fun _ _ _ h => h) hS ?_
      refine a_one 8 rfl (by kernel_rfl) (o_slh (j := k) tbOk hfm rfl rfl rfl hk rfl rfl rfl rfl rfl ?_)
      intro tv htk
      refine ⟨hS, ?_⟩
      refine a_one 14 rfl (by kernel_rfl) (o_call fo107 rfl rfl rfl (count_spec (m.take k) m[k].name _ _ _ htk hlow) ?_)
      rintro _ w17 ⟨rfl, ew17⟩
      replace hS := hS.then ew17
      replace hE := hE.trans (Below.mono ew17 hB)
      replace h8 := h8.ext ew17
      replace h10 := h10.ext ew17
      replace hfl := hfl.ext ew17
      replace hfm := hfm.ext ew17
      replace hvs := Rep.ext hvs ew17
      replace hvt := Rep.ext hvt ew17
      replace hrq0 := Rep.ext hrq0 ew17
      replace hyq0 := Rep.ext hyq0 ew17
      replace hatq0 := hatq0.ext ew17
      replace hrq1 := Rep.ext hrq1 ew17
      replace hyq1 := Rep.ext hyq1 ew17
      replace hatq1 := hatq1.ext ew17
      replace htk := htk.ext ew17
      replace hlow := hlow.ext ew17
      replace hB := Nat.le_trans hB ew17.size
      refine ⟨hS, ?_⟩
      have hcb : cntN (m.take k) m[k].name ≤ 2000000 := Nat.le_trans (cntN_take_le _ _ _) (by omega)
      refine a_bar 15 rfl (by kernel_rfl) (by kernel_rfl) (o_call fo106 rfl rfl rfl (nthR_spec l m[k].name (cntN (m.take k) m[k].name) _ _ _ hcb hsl hfl hlow) ?_)
      rintro _ w18 ⟨rfl, ew18⟩
      replace hS := hS.then ew18
      replace hE := hE.trans (Below.mono ew18 hB)
      replace h8 := h8.ext ew18
      replace h10 := h10.ext ew18
      replace hfl := hfl.ext ew18
      replace hfm := hfm.ext ew18
      replace hvs := Rep.ext hvs ew18
      replace hvt := Rep.ext hvt ew18
      replace hrq0 := Rep.ext hrq0 ew18
      replace hyq0 := Rep.ext hyq0 ew18
      replace hatq0 := hatq0.ext ew18
      replace hrq1 := Rep.ext hrq1 ew18
      replace hyq1 := Rep.ext hyq1 ew18
      replace hatq1 := hatq1.ext ew18
      replace htk := htk.ext ew18
      replace hlow := hlow.ext ew18
      replace hB := Nat.le_trans hB ew18.size
      refine a_p 16 tbOk rfl rfl rfl rfl (by kernel_rfl) (fun _ _ _ h => h) hS ?_
      refine a_p 17 tbOk rfl rfl rfl rfl (by kernel_rfl) (fun _ _ _ h => h) hS ?_
      refine a_splitP 95 _ rfl (fun hneg => ?_) (fun hneg => ?_)
      · have hcl : ¬ cntN (m.take k) m[k].name < cntN l m[k].name := fun h => by rw [nthZ_yes h] at hneg; omega
        refine a_p 18 tbOk rfl rfl rfl rfl (by kernel_rfl) (fun _ _ _ h => h) hS ?_
        refine a_p 19 tbOk rfl rfl rfl rfl (by kernel_rfl) (fun _ _ _ h => h) hS ?_
        refine a_split 97 _ rfl (fun hless => ?_) (fun hless => ?_)
        · refine a_skip 20 rfl rfl rfl (by kernel_rfl) (fun _ _ _ h => h) hS ?_
          refine a_skip 21 rfl rfl rfl (by kernel_rfl) (fun _ _ _ h => h) hS ?_
          refine a_skip 22 rfl rfl rfl (by kernel_rfl) (fun _ _ _ h => h) hS ?_
          refine a_p 23 tbOk rfl rfl rfl rfl (by kernel_rfl) (fun _ _ _ h => h) hS ?_
          refine a_p 24 tbOk rfl rfl rfl rfl (by kernel_rfl) (fun _ _ _ h => h) hS ?_
          refine a_end (by kernel_rfl) ?_
          refine x_seq ?_
          refine c_ifT rfl ?_
          refine c_seq ?_
          refine c_reg ?_
          refine l_cons (o_p tbOk rfl rfl rfl ?_)
          refine l_nil ?_
          refine x_seq ?_
          refine c_ret ?_
          refine x_blkR ?_
          refine x_seqR ?_
          refine x_seqR ?_
          refine x_blkR ?_
          refine x_seqR ?_
          refine x_ret1 rfl rfl ?_
          rw [rows_noM el em hkl (by rw [es, okM_no hkl hcl, hless]; rfl)]
          exact ⟨rfl, hE⟩
        · refine a_p 20 tbOk rfl rfl rfl rfl (by kernel_rfl) (fun _ _ _ h => h) hS ?_
          refine a_ld 21 tbOk (fun _ hs => (D_h8.ext hs).cell 0 _ rfl) rfl rfl rfl rfl rfl rfl (by kernel_rfl) (fun _ _ _ h => h) hS ?_
          refine a_p 22 tbOk rfl rfl rfl rfl (by kernel_rfl) (fun _ _ _ h => h) hS ?_
          refine a_p 23 tbOk rfl rfl rfl rfl (by kernel_rfl) (fun _ _ _ h => h) hS ?_
          refine a_p 24 tbOk rfl rfl rfl rfl (by kernel_rfl) (fun _ _ _ h => h) hS ?_
          refine a_end (by kernel_rfl) ?_
          refine x_seq ?_
          refine c_ifN _ rfl (fun hso => ?_) (fun hso => ?_)
          · refine c_seq ?_
            refine c_reg ?_
            refine l_cons (o_p tbOk rfl rfl rfl ?_)
            refine l_nil ?_
            refine x_seq ?_
            refine c_ret ?_
            refine x_blkR ?_
            refine x_seqR ?_
            refine x_seqR ?_
            refine x_blkR ?_
            refine x_seqR ?_
            refine x_ret1 rfl rfl ?_
            rw [rows_noM el em hkl (by rw [es, okM_no hkl hcl, hless, decide_eq_false hso]; rfl)]
            exact ⟨rfl, hE⟩
          · refine c_skip ?_
            refine x_blk ?_
            refine x_seq ?_
            refine c_reg ?_
            refine l_cons (o_p tbOk rfl rfl rfl ?_)
            refine l_cons (o_ar rfl rfl rfl (IntWalk.i64_in _ (by omega)) rfl rfl ?_)
            refine l_cons (o_p tbOk rfl rfl rfl ?_)
            refine l_nil ?_
            exact x_round (k + 1) (subL_cons rfl (subL_cons rfl (subL_cons rfl (subL_cons rfl (subL_cons rfl (subL_cons (get_num rfl (by omega)) (subL_nil))))))) ⟨by omega, ok_step hokm (by rw [okM_no hkl hcl, hless, decide_eq_true hso]; rfl), h8, h10, hfl, hfm, hvs, hvt, hlow, hE, hB⟩ (by omega)
      · have hcl : cntN (m.take k) m[k].name < cntN l m[k].name := Decidable.byContradiction fun h => by rw [nthZ_no h] at hneg; exact hneg (by decide)
        refine a_skip 18 rfl rfl rfl (by kernel_rfl) (fun _ _ _ h => h) hS ?_
        refine a_skip 19 rfl rfl rfl (by kernel_rfl) (fun _ _ _ h => h) hS ?_
        refine a_skip 20 rfl rfl rfl (by kernel_rfl) (fun _ _ _ h => h) hS ?_
        refine a_skip 21 rfl rfl rfl (by kernel_rfl) (fun _ _ _ h => h) hS ?_
        refine a_skip 22 rfl rfl rfl (by kernel_rfl) (fun _ _ _ h => h) hS ?_
        refine a_skip 23 rfl rfl rfl (by kernel_rfl) (fun _ _ _ h => h) hS ?_
        refine a_p 24 tbOk rfl rfl rfl rfl (by kernel_rfl) (fun _ _ _ h => h) hS ?_
        refine a_end (by kernel_rfl) ?_
        refine x_seq ?_
        refine c_ifF rfl ?_
        refine c_skip ?_
        refine x_blk ?_
        refine x_seq ?_
        refine c_reg ?_
        refine l_cons (o_p tbOk rfl rfl rfl ?_)
        refine l_cons (o_ar rfl rfl rfl (IntWalk.i64_in _ (by omega)) rfl rfl ?_)
        refine l_cons (o_p tbOk rfl rfl rfl ?_)
        refine l_nil ?_
        exact x_round (k + 1) (subL_cons rfl (subL_cons rfl (subL_cons rfl (subL_cons rfl (subL_cons rfl (subL_cons (get_num rfl (by omega)) (subL_nil))))))) ⟨by omega, ok_step hokm (okM_yes hkl hcl), h8, h10, hfl, hfm, hvs, hvt, hlow, hE, hB⟩ (by omega)
    · refine c_exit ?_
      refine x_seqE ?_
      refine x_seqE ?_
      refine x_blkE ?_
      refine x_seq ?_
      refine c_seq ?_
      refine c_reg ?_
      refine l_cons (o_p tbOk rfl rfl rfl ?_)
      refine l_cons (o_ld tbOk (h10.cell 0 _ rfl) rfl rfl rfl rfl rfl ?_)
      refine l_cons (o_p tbOk rfl rfl rfl ?_)
      refine l_cons (o_p tbOk rfl rfl rfl ?_)
      refine l_splitP 106 _ rfl (fun c1 => ?_) (fun c1 => ?_)
      · refine l_cons (o_skip rfl rfl ?_)
        refine l_cons (o_skip rfl rfl ?_)
        refine l_cons (o_skip rfl rfl ?_)
        refine l_cons (o_skip rfl rfl ?_)
        refine l_cons (o_skip rfl rfl ?_)
        refine l_cons (o_skip rfl rfl ?_)
        refine l_cons (o_skip rfl rfl ?_)
        refine l_cons (o_p tbOk rfl rfl rfl ?_)
        refine l_cons (o_p tbOk rfl rfl rfl ?_)
        refine l_cons (o_skip rfl rfl ?_)
        refine l_cons (o_skip rfl rfl ?_)
        refine l_cons (o_skip rfl rfl ?_)
        refine l_cons (o_skip rfl rfl ?_)
        refine l_cons (o_skip rfl rfl ?_)
        refine l_cons (o_skip rfl rfl ?_)
        refine l_cons (o_skip rfl rfl ?_)
        refine l_cons (o_skip rfl rfl ?_)
        refine l_cons (o_skip rfl rfl ?_)
        refine l_cons (o_skip rfl rfl ?_)
        refine l_cons (o_skip rfl rfl ?_)
        refine l_cons (o_skip rfl rfl ?_)
        refine l_cons (o_p tbOk rfl rfl rfl ?_)
        refine l_cons (o_p tbOk rfl rfl rfl ?_)
        refine l_nil ?_
        refine x_seq ?_
        refine c_ret ?_
        refine x_ret1 rfl rfl ?_
        rw [rows_all el em (fun j hj => by rw [et]; exact hokl j hj) (fun j hj => by rw [es]; exact hokm j (by omega)), es, et, tailF, dynF]
        exact ⟨by first | (simp [*]; done) | (simp [*]; omega), hE⟩
      · refine l_cons (o_p tbOk rfl rfl rfl ?_)
        refine l_cons (o_ld tbOk (h8.cell 0 _ rfl) rfl rfl rfl rfl rfl ?_)
        refine l_cons (o_p tbOk rfl rfl rfl ?_)
        refine l_cons (o_p tbOk rfl rfl rfl ?_)
        refine l_splitP 110 _ rfl (fun c2 => ?_) (fun c2 => ?_)
        · refine l_cons (o_p tbOk rfl rfl rfl ?_)
          refine l_cons (o_p tbOk rfl rfl rfl ?_)
          refine l_cons (o_p tbOk rfl rfl rfl ?_)
          refine l_cons (o_p tbOk rfl rfl rfl ?_)
          refine l_cons (o_p tbOk rfl rfl rfl ?_)
          refine l_splitB 115 _ rfl (fun c3 => ?_) (fun c3 => ?_)
          · refine l_cons (o_skip rfl rfl ?_)
            refine l_cons (o_skip rfl rfl ?_)
            refine l_cons (o_skip rfl rfl ?_)
            refine l_cons (o_skip rfl rfl ?_)
            refine l_cons (o_skip rfl rfl ?_)
            refine l_cons (o_skip rfl rfl ?_)
            refine l_cons (o_skip rfl rfl ?_)
            refine l_cons (o_skip rfl rfl ?_)
            refine l_cons (o_skip rfl rfl ?_)
            refine l_cons (o_skip rfl rfl ?_)
            refine l_cons (o_skip rfl rfl ?_)
            refine l_cons (o_skip rfl rfl ?_)
            refine l_cons (o_p tbOk rfl rfl rfl ?_)
            refine l_cons (o_p tbOk rfl rfl rfl ?_)
            refine l_nil ?_
            refine x_seq ?_
            refine c_ret ?_
            refine x_ret1 rfl rfl ?_
            rw [rows_all el em (fun j hj => by rw [et]; exact hokl j hj) (fun j hj => by rw [es]; exact hokm j (by omega)), es, et, tailF, dynF]
            exact ⟨by first | (simp [*]; done) | (simp [*]; omega), hE⟩
          · refine l_cons (o_p tbOk rfl rfl rfl ?_)
            refine l_cons (o_ld tbOk (h8.cell 0 _ rfl) rfl rfl rfl rfl rfl ?_)
            refine l_cons (o_p tbOk rfl rfl rfl ?_)
            refine l_cons (o_ld tbOk (h10.cell 0 _ rfl) rfl rfl rfl rfl rfl ?_)
            refine l_cons (o_p tbOk rfl rfl rfl ?_)
            refine l_cons (o_p tbOk rfl rfl rfl ?_)
            refine l_splitP 121 _ rfl (fun c4 => ?_) (fun c4 => ?_)
            · refine l_cons (o_p tbOk rfl rfl rfl ?_)
              refine l_cons (o_ld tbOk (h8.cell 2 _ rfl) rfl rfl rfl rfl rfl ?_)
              refine l_cons (o_p tbOk rfl rfl rfl ?_)
              refine l_cons (o_ld tbOk (h10.cell 2 _ rfl) rfl rfl rfl rfl rfl ?_)
              refine l_cons (o_p tbOk rfl rfl rfl ?_)
              refine l_cons (o_p tbOk rfl rfl rfl ?_)
              refine l_cons (o_p tbOk rfl rfl rfl ?_)
              refine l_cons (o_p tbOk rfl rfl rfl ?_)
              refine l_nil ?_
              refine x_seq ?_
              refine c_ret ?_
              refine x_ret1 rfl rfl ?_
              rw [rows_all el em (fun j hj => by rw [et]; exact hokl j hj) (fun j hj => by rw [es]; exact hokm j (by omega)), es, et, tailF, dynF]
              exact ⟨by first | (simp [*]; done) | (simp [*]; omega), hE⟩
            · refine l_cons (o_skip rfl rfl ?_)
              refine l_cons (o_skip rfl rfl ?_)
              refine l_cons (o_skip rfl rfl ?_)
              refine l_cons (o_skip rfl rfl ?_)
              refine l_cons (o_skip rfl rfl ?_)
              refine l_cons (o_p tbOk rfl rfl rfl ?_)
              refine l_cons (o_p tbOk rfl rfl rfl ?_)
              refine l_cons (o_p tbOk rfl rfl rfl ?_)
              refine l_nil ?_
              refine x_seq ?_
              refine c_ret ?_
              refine x_ret1 rfl rfl ?_
              rw [rows_all el em (fun j hj => by rw [et]; exact hokl j hj) (fun j hj => by rw [es]; exact hokm j (by omega)), es, et, tailF, dynF]
              exact ⟨by first | (simp [*]; done) | (simp [*]; omega), hE⟩
        · refine l_cons (o_skip rfl rfl ?_)
          refine l_cons (o_skip rfl rfl ?_)
          refine l_cons (o_p tbOk rfl rfl rfl ?_)
          refine l_cons (o_p tbOk rfl rfl rfl ?_)
          refine l_cons (o_p tbOk rfl rfl rfl ?_)
          refine l_cons (o_p tbOk rfl rfl rfl ?_)
          refine l_cons (o_ld tbOk (h8.cell 0 _ rfl) rfl rfl rfl rfl rfl ?_)
          refine l_cons (o_p tbOk rfl rfl rfl ?_)
          refine l_cons (o_ld tbOk (h10.cell 0 _ rfl) rfl rfl rfl rfl rfl ?_)
          refine l_cons (o_p tbOk rfl rfl rfl ?_)
          refine l_cons (o_p tbOk rfl rfl rfl ?_)
          refine l_splitP 121 _ rfl (fun c5 => ?_) (fun c5 => ?_)
          · refine l_cons (o_p tbOk rfl rfl rfl ?_)
            refine l_cons (o_ld tbOk (h8.cell 2 _ rfl) rfl rfl rfl rfl rfl ?_)
            refine l_cons (o_p tbOk rfl rfl rfl ?_)
            refine l_cons (o_ld tbOk (h10.cell 2 _ rfl) rfl rfl rfl rfl rfl ?_)
            refine l_cons (o_p tbOk rfl rfl rfl ?_)
            refine l_cons (o_p tbOk rfl rfl rfl ?_)
            refine l_cons (o_p tbOk rfl rfl rfl ?_)
            refine l_cons (o_p tbOk rfl rfl rfl ?_)
            refine l_nil ?_
            refine x_seq ?_
            refine c_ret ?_
            refine x_ret1 rfl rfl ?_
            rw [rows_all el em (fun j hj => by rw [et]; exact hokl j hj) (fun j hj => by rw [es]; exact hokm j (by omega)), es, et, tailF, dynF]
            exact ⟨by first | (simp [*]; done) | (simp [*]; omega), hE⟩
          · refine l_cons (o_skip rfl rfl ?_)
            refine l_cons (o_skip rfl rfl ?_)
            refine l_cons (o_skip rfl rfl ?_)
            refine l_cons (o_skip rfl rfl ?_)
            refine l_cons (o_skip rfl rfl ?_)
            refine l_cons (o_p tbOk rfl rfl rfl ?_)
            refine l_cons (o_p tbOk rfl rfl rfl ?_)
            refine l_cons (o_p tbOk rfl rfl rfl ?_)
            refine l_nil ?_
            refine x_seq ?_
            refine c_ret ?_
            refine x_ret1 rfl rfl ?_
            rw [rows_all el em (fun j hj => by rw [et]; exact hokl j hj) (fun j hj => by rw [es]; exact hokm j (by omega)), es, et, tailF, dynF]
            exact ⟨by first | (simp [*]; done) | (simp [*]; omega), hE⟩

theorem dyn_right {less : Bool} {a b : Ty} (ha : a.op < 8) (hb : b.op < 8) : dynF less a b = (decide (b.op = 3) || (!less && decide (a.op = 3))) := by
  unfold dynF
  rw [decide_eq_false (show ¬ b.op = 9 by omega), decide_eq_false (show ¬ a.op = 9 by omega), Bool.or_false, Bool.or_false]
/-- The document's Holds. -/
theorem refHolds_of (less : Bool) (a b : Ty) (IH : ∀ x y, psz x < psz a → rightB x = true → rightB y = true → psz y ≤ 2000000 → ∀ (M : Nat → Prop) (w : World) (v u : Value), Rep.R M w v x → Rep.R M w u y → Low M w → Calls Try.prog 76 #[v, u, .bool less] w (Ret fun r w' => r = .bool (holdsF less x y) ∧ Ext w w')) (M : Nat → Prop) (w : World) (v u : Value) (hra : rightB a = true) (hrb : rightB b = true) (ha : Rep.R M w v a) (hb : Rep.R M w u b) (hlow : Low M w) (hza : psz a ≤ 2000000) (hzb : psz b ≤ 2000000) :
    Calls Try.prog 76 #[v, u, .bool less] w (Ret fun r w' => r = .bool (holdsF less a b) ∧ Ext w w') := by
  have hE : Below w.heap.size w w := Below.refl _ _
  have hB : w.heap.size ≤ w.heap.size := Nat.le_refl _
  obtain ⟨kva, rfl, opa, nma, n64a, hka⟩ := ty_open ha
  obtain ⟨kvb, rfl, opb, nmb, n64b, hkb⟩ := ty_open hb
  have oa := right_op hra
  have ob := right_op hrb
  have hdr := dyn_right (less := less) oa ob
  refine c_enter (n := 76) Try.func76 rfl rfl rfl ?_
  refine c_seq ?_
  refine c_reg ?_
  refine l_cons (o_box rfl rfl rfl ?_)
  intro b3 w1 hb_b3 ew1 h3
  replace h3 : Box _ b3 25 [.int .u8 a.op, .string a.name, .int .i64 a.n, kva] := h3
  replace h3 := h3.at (nM_of hlow hb_b3)
  replace hE := hE.trans (Below.mono ew1 hB)
  replace ha := Rep.ext ha ew1
  replace hka := hka.ext ew1
  replace hb := Rep.ext hb ew1
  replace hkb := hkb.ext ew1
  replace hlow := hlow.ext ew1
  replace hB := Nat.le_trans hB ew1.size
  refine l_cons (o_box rfl rfl rfl ?_)
  intro b4 w2 hb_b4 ew2 h4
  replace h4 : Box _ b4 25 [.int .u8 b.op, .string b.name, .int .i64 b.n, kvb] := h4
  replace h4 := h4.at (nM_of hlow hb_b4)
  replace hE := hE.trans (Below.mono ew2 hB)
  replace ha := Rep.ext ha ew2
  replace hka := hka.ext ew2
  replace hb := Rep.ext hb ew2
  replace hkb := hkb.ext ew2
  replace h3 := h3.ext ew2
  replace hlow := hlow.ext ew2
  replace hB := Nat.le_trans hB ew2.size
  refine l_cons (o_p tbOk rfl rfl rfl ?_)
  refine l_nil ?_
  refine x_seq ?_
  refine c_seq ?_
  refine c_blk ?_
  refine c_seq ?_
  refine c_reg ?_
  refine l_cons (o_p tbOk rfl rfl rfl ?_)
  refine l_cons (o_ld tbOk (h4.cell 0 _ rfl) rfl rfl rfl rfl rfl ?_)
  refine l_cons (o_p tbOk rfl rfl rfl ?_)
  refine l_cons (o_p tbOk rfl rfl rfl ?_)
  refine l_splitP 11 _ rfl (fun hb3 => ?_) (fun hb3 => ?_)
  · have hdy : dynF less a b = true := by rw [hdr, decide_eq_true hb3]; rfl
    refine l_cons (o_skip rfl rfl ?_)
    refine l_cons (o_skip rfl rfl ?_)
    refine l_cons (o_skip rfl rfl ?_)
    refine l_cons (o_skip rfl rfl ?_)
    refine l_cons (o_skip rfl rfl ?_)
    refine l_cons (o_skip rfl rfl ?_)
    refine l_cons (o_skip rfl rfl ?_)
    refine l_cons (o_p tbOk rfl rfl rfl ?_)
    refine l_cons (o_p tbOk rfl rfl rfl ?_)
    refine l_nil ?_
    refine x_seq ?_
    refine c_ifT rfl ?_
    refine c_seq ?_
    refine c_reg ?_
    refine l_cons (o_p tbOk rfl rfl rfl ?_)
    refine l_nil ?_
    refine x_seq ?_
    refine c_ret ?_
    refine x_blkR ?_
    refine x_seqR ?_
    refine x_ret1 rfl rfl ?_
    rw [holdsF_eq less a b, hdy]
    exact ⟨rfl, hE⟩
  · refine l_cons (o_p tbOk rfl rfl rfl ?_)
    refine l_cons (o_ld tbOk (h3.cell 0 _ rfl) rfl rfl rfl rfl rfl ?_)
    refine l_cons (o_p tbOk rfl rfl rfl ?_)
    refine l_cons (o_p tbOk rfl rfl rfl ?_)
    refine l_splitP 15 _ rfl (fun ha3 => ?_) (fun ha3 => ?_)
    · refine l_cons (o_p tbOk rfl rfl rfl ?_)
      refine l_cons (o_p tbOk rfl rfl rfl ?_)
      refine l_cons (o_p tbOk rfl rfl rfl ?_)
      refine l_cons (o_p tbOk rfl rfl rfl ?_)
      refine l_cons (o_p tbOk rfl rfl rfl ?_)
      refine l_nil ?_
      refine x_seq ?_
      refine c_ifB _ rfl (fun hle => ?_) (fun hle => ?_)
      · have hdy : dynF less a b = true := by rw [hdr, decide_eq_false hb3, decide_eq_true ha3, hle]; rfl
        refine c_seq ?_
        refine c_reg ?_
        refine l_cons (o_p tbOk rfl rfl rfl ?_)
        refine l_nil ?_
        refine x_seq ?_
        refine c_ret ?_
        refine x_blkR ?_
        refine x_seqR ?_
        refine x_ret1 rfl rfl ?_
        rw [holdsF_eq less a b, hdy]
        exact ⟨rfl, hE⟩
      · have hdy : dynF less a b = false := by rw [hdr, decide_eq_false hb3, decide_eq_true ha3, hle]; rfl
        refine c_seq ?_
        refine c_reg ?_
        refine l_cons (o_p tbOk rfl rfl rfl ?_)
        refine l_cons (o_ld tbOk (h3.cell 0 _ rfl) rfl rfl rfl rfl rfl ?_)
        refine l_cons (o_p tbOk rfl rfl rfl ?_)
        refine l_cons (o_ld tbOk (h4.cell 0 _ rfl) rfl rfl rfl rfl rfl ?_)
        refine l_cons (o_p tbOk rfl rfl rfl ?_)
        refine l_cons (o_p tbOk rfl rfl rfl ?_)
        refine l_nil ?_
        refine x_seq ?_
        refine c_ifN _ rfl (fun ho => ?_) (fun ho => ?_)
        · refine c_seq ?_
          refine c_reg ?_
          refine l_cons (o_p tbOk rfl rfl rfl ?_)
          refine l_nil ?_
          refine x_seq ?_
          refine c_ret ?_
          refine x_blkR ?_
          refine x_seqR ?_
          refine x_ret1 rfl rfl ?_
          rw [holdsF_eq less a b, hdy, decide_eq_false ho]
          exact ⟨rfl, hE⟩
        · refine c_seq ?_
          refine c_reg ?_
          refine l_cons (o_p tbOk rfl rfl rfl ?_)
          refine l_cons (o_ld tbOk (h3.cell 0 _ rfl) rfl rfl rfl rfl rfl ?_)
          refine l_cons (o_p tbOk rfl rfl rfl ?_)
          refine l_cons (o_p tbOk rfl rfl rfl ?_)
          refine l_nil ?_
          refine x_seq ?_
          refine c_ifP _ rfl (fun o4 => ?_) (fun o4 => ?_)
          · obtain ⟨ka, ra, eka, hka1, hra1⟩ := fun_kids hra (by omega)
            obtain ⟨kb, rb, ekb, hkb1, hrb1⟩ := fun_kids hrb (by omega)
            have pa : psz ka < psz a := kid_psz (by rw [eka]; simp)
            have pa2 : psz ra < psz a := kid_psz (by rw [eka]; simp)
            have pb : psz kb < psz b := kid_psz (by rw [ekb]; simp)
            have pb2 : psz rb < psz b := kid_psz (by rw [ekb]; simp)
            have hn : a.n = b.n := by rw [right_n hra (by omega), right_n hrb (by omega)]
            refine c_seq ?_
            refine a_beg Ext rfl ?_
            intro w3 ew3
            replace hE := hE.trans (Below.mono ew3 hB)
            replace ha := Rep.ext ha ew3
            replace hka := hka.ext ew3
            replace hb := Rep.ext hb ew3
            replace hkb := hkb.ext ew3
            replace h3 := h3.ext ew3
            replace h4 := h4.ext ew3
            replace hlow := hlow.ext ew3
            replace hB := Nat.le_trans hB ew3.size
            have hS : Ext w3 w3 := ext_refl _
            have D_hka := hka
            have D_hkb := hkb
            have D_h3 := h3
            have D_h4 := h4
            refine a_p 0 tbOk rfl rfl rfl rfl (by kernel_rfl) (fun _ _ _ h => h) hS ?_
            refine a_ld 1 tbOk (fun _ hs => (D_h3.ext hs).cell 3 _ rfl) rfl rfl rfl rfl rfl rfl (by kernel_rfl) (fun _ _ _ h => h) hS ?_
            refine a_ixS 2 tbOk D_hka (show a.kids[0]? = some ka by rw [eka]; rfl) rfl rfl rfl rfl rfl rfl rfl rfl rfl rfl (by kernel_rfl) (fun _ _ _ _ h => h) hS ?_
            intro ebz0 eoz0 euz0 hyz0 hatz0
            obtain ⟨kvz0, rfl, opz0, nmz0, n64z0, hkz0⟩ := ty_open hyz0
            replace hatz0 : At M w3 ebz0 eoz0 [.int .u8 ka.op, .string ka.name, .int .i64 ka.n, kvz0] := hatz0
            refine a_lds 3 tbOk (fun _ hs j v hv => (hatz0.ext hs).cell j v hv) rfl rfl rfl rfl rfl rfl rfl (by kernel_rfl) (fun _ _ _ h => h) hS ?_
            refine a_p 4 tbOk rfl rfl rfl rfl (by kernel_rfl) (fun _ _ _ h => h) hS ?_
            refine a_ld 5 tbOk (fun _ hs => (D_h4.ext hs).cell 3 _ rfl) rfl rfl rfl rfl rfl rfl (by kernel_rfl) (fun _ _ _ h => h) hS ?_
            refine a_ixS 6 tbOk D_hkb (show b.kids[0]? = some kb by rw [ekb]; rfl) rfl rfl rfl rfl rfl rfl rfl rfl rfl rfl (by kernel_rfl) (fun _ _ _ _ h => h) hS ?_
            intro ebz1 eoz1 euz1 hyz1 hatz1
            obtain ⟨kvz1, rfl, opz1, nmz1, n64z1, hkz1⟩ := ty_open hyz1
            replace hatz1 : At M w3 ebz1 eoz1 [.int .u8 kb.op, .string kb.name, .int .i64 kb.n, kvz1] := hatz1
            refine a_lds 7 tbOk (fun _ hs j v hv => (hatz1.ext hs).cell j v hv) rfl rfl rfl rfl rfl rfl rfl (by kernel_rfl) (fun _ _ _ h => h) hS ?_
            refine a_p 8 tbOk rfl rfl rfl rfl (by kernel_rfl) (fun _ _ _ h => h) hS ?_
            refine a_bar 9 rfl (by kernel_rfl) (by kernel_rfl) (o_call fo76 rfl rfl rfl (IH ka kb (by omega) hka1 hkb1 (by omega) M _ _ _ hyz0 hyz1 hlow) ?_)
            rintro _ w4 ⟨rfl, ew4⟩
            replace hS := hS.then ew4
            replace hE := hE.trans (Below.mono ew4 hB)
            replace ha := Rep.ext ha ew4
            replace hka := hka.ext ew4
            replace hb := Rep.ext hb ew4
            replace hkb := hkb.ext ew4
            replace h3 := h3.ext ew4
            replace h4 := h4.ext ew4
            replace hyz0 := Rep.ext hyz0 ew4
            replace hkz0 := hkz0.ext ew4
            replace hatz0 := hatz0.ext ew4
            replace hyz1 := Rep.ext hyz1 ew4
            replace hkz1 := hkz1.ext ew4
            replace hatz1 := hatz1.ext ew4
            replace hlow := hlow.ext ew4
            replace hB := Nat.le_trans hB ew4.size
            refine a_p 10 tbOk rfl rfl rfl rfl (by kernel_rfl) (fun _ _ _ h => h) hS ?_
            refine a_split 40 _ rfl (fun hk1 => ?_) (fun hk1 => ?_)
            · refine a_p 11 tbOk rfl rfl rfl rfl (by kernel_rfl) (fun _ _ _ h => h) hS ?_
              refine a_ld 12 tbOk (fun _ hs => (D_h3.ext hs).cell 3 _ rfl) rfl rfl rfl rfl rfl rfl (by kernel_rfl) (fun _ _ _ h => h) hS ?_
              refine a_ixS 13 tbOk D_hka (show a.kids[1]? = some ra by rw [eka]; rfl) rfl rfl rfl rfl rfl rfl rfl rfl rfl rfl (by kernel_rfl) (fun _ _ _ _ h => h) hS ?_
              intro ebz2 eoz2 euz2 hyz2 hatz2
              obtain ⟨kvz2, rfl, opz2, nmz2, n64z2, hkz2⟩ := ty_open hyz2
              replace hatz2 : At M w3 ebz2 eoz2 [.int .u8 ra.op, .string ra.name, .int .i64 ra.n, kvz2] := hatz2
              have D_hatz2 := hatz2
              replace hatz2 := hatz2.ext hS
              have D_hkz2 := hkz2
              replace hkz2 := hkz2.ext hS
              replace hyz2 := Rep.ext hyz2 hS
              refine a_lds 14 tbOk (fun _ hs j v hv => (D_hatz2.ext hs).cell j v hv) rfl rfl rfl rfl rfl rfl rfl (by kernel_rfl) (fun _ _ _ h => h) hS ?_
              refine a_p 15 tbOk rfl rfl rfl rfl (by kernel_rfl) (fun _ _ _ h => h) hS ?_
              refine a_ld 16 tbOk (fun _ hs => (D_h4.ext hs).cell 3 _ rfl) rfl rfl rfl rfl rfl rfl (by kernel_rfl) (fun _ _ _ h => h) hS ?_
              refine a_ixS 17 tbOk D_hkb (show b.kids[1]? = some rb by rw [ekb]; rfl) rfl rfl rfl rfl rfl rfl rfl rfl rfl rfl (by kernel_rfl) (fun _ _ _ _ h => h) hS ?_
              intro ebz3 eoz3 euz3 hyz3 hatz3
              obtain ⟨kvz3, rfl, opz3, nmz3, n64z3, hkz3⟩ := ty_open hyz3
              replace hatz3 : At M w3 ebz3 eoz3 [.int .u8 rb.op, .string rb.name, .int .i64 rb.n, kvz3] := hatz3
              have D_hatz3 := hatz3
              replace hatz3 := hatz3.ext hS
              have D_hkz3 := hkz3
              replace hkz3 := hkz3.ext hS
              replace hyz3 := Rep.ext hyz3 hS
              refine a_lds 18 tbOk (fun _ hs j v hv => (D_hatz3.ext hs).cell j v hv) rfl rfl rfl rfl rfl rfl rfl (by kernel_rfl) (fun _ _ _ h => h) hS ?_
              refine a_p 19 tbOk rfl rfl rfl rfl (by kernel_rfl) (fun _ _ _ h => h) hS ?_
              refine a_bar 20 rfl (by kernel_rfl) (by kernel_rfl) (o_call fo76 rfl rfl rfl (IH ra rb (by omega) hra1 hrb1 (by omega) M _ _ _ hyz2 hyz3 hlow) ?_)
              rintro _ w5 ⟨rfl, ew5⟩
              replace hS := hS.then ew5
              replace hE := hE.trans (Below.mono ew5 hB)
              replace ha := Rep.ext ha ew5
              replace hka := hka.ext ew5
              replace hb := Rep.ext hb ew5
              replace hkb := hkb.ext ew5
              replace h3 := h3.ext ew5
              replace h4 := h4.ext ew5
              replace hyz0 := Rep.ext hyz0 ew5
              replace hkz0 := hkz0.ext ew5
              replace hatz0 := hatz0.ext ew5
              replace hyz1 := Rep.ext hyz1 ew5
              replace hkz1 := hkz1.ext ew5
              replace hatz1 := hatz1.ext ew5
              replace hyz2 := Rep.ext hyz2 ew5
              replace hkz2 := hkz2.ext ew5
              replace hatz2 := hatz2.ext ew5
              replace hyz3 := Rep.ext hyz3 ew5
              replace hkz3 := hkz3.ext ew5
              replace hatz3 := hatz3.ext ew5
              replace hlow := hlow.ext ew5
              replace hB := Nat.le_trans hB ew5.size
              refine a_p 21 tbOk rfl rfl rfl rfl (by kernel_rfl) (fun _ _ _ h => h) hS ?_
              refine a_p 22 tbOk rfl rfl rfl rfl (by kernel_rfl) (fun _ _ _ h => h) hS ?_
              refine a_end (by kernel_rfl) ?_
              refine x_seq ?_
              refine c_ret ?_
              refine x_blkR ?_
              refine x_seqR ?_
              refine x_ret1 rfl rfl ?_
              rw [holdsF_eq less a b, hdy, decide_eq_true ho, decide_eq_true hn, decide_eq_true o4, eka, ekb]
              exact ⟨by show _ = Value.bool (holdsF less ka kb && holdsF less ra rb); rw [hk1]; rfl, hE⟩
            · refine a_skip 11 rfl rfl rfl (by kernel_rfl) (fun _ _ _ h => h) hS ?_
              refine a_skip 12 rfl rfl rfl (by kernel_rfl) (fun _ _ _ h => h) hS ?_
              refine a_skip 13 rfl rfl rfl (by kernel_rfl) (fun _ _ _ h => h) hS ?_
              refine a_skip 14 rfl rfl rfl (by kernel_rfl) (fun _ _ _ h => h) hS ?_
              refine a_skip 15 rfl rfl rfl (by kernel_rfl) (fun _ _ _ h => h) hS ?_
              refine a_skip 16 rfl rfl rfl (by kernel_rfl) (fun _ _ _ h => h) hS ?_
              refine a_skip 17 rfl rfl rfl (by kernel_rfl) (fun _ _ _ h => h) hS ?_
              refine a_skip 18 rfl rfl rfl (by kernel_rfl) (fun _ _ _ h => h) hS ?_
              refine a_skip 19 rfl rfl rfl (by kernel_rfl) (fun _ _ _ h => h) hS ?_
              refine a_skip 20 rfl rfl rfl (by kernel_rfl) (fun _ _ _ h => h) hS ?_
              refine a_p 21 tbOk rfl rfl rfl rfl (by kernel_rfl) (fun _ _ _ h => h) hS ?_
              refine a_p 22 tbOk rfl rfl rfl rfl (by kernel_rfl) (fun _ _ _ h => h) hS ?_
              refine a_end (by kernel_rfl) ?_
              refine x_seq ?_
              refine c_ret ?_
              refine x_blkR ?_
              refine x_seqR ?_
              refine x_ret1 rfl rfl ?_
              rw [holdsF_eq less a b, hdy, decide_eq_true ho, decide_eq_true hn, decide_eq_true o4, eka, ekb]
              exact ⟨by show _ = Value.bool (holdsF less ka kb && holdsF less ra rb); rw [hk1]; rfl, hE⟩
          · refine c_seq ?_
            refine c_reg ?_
            refine l_cons (o_p tbOk rfl rfl rfl ?_)
            refine l_cons (o_ld tbOk (h3.cell 0 _ rfl) rfl rfl rfl rfl rfl ?_)
            refine l_cons (o_p tbOk rfl rfl rfl ?_)
            refine l_cons (o_p tbOk rfl rfl rfl ?_)
            refine l_splitP 56 _ rfl (fun o5 => ?_) (fun o5 => ?_)
            · obtain ⟨ka, eka, hka1⟩ := rec_kids hra (by omega)
              obtain ⟨kb, ekb, hkb1⟩ := rec_kids hrb (by omega)
              have pa : psz ka < psz a := kid_psz (by rw [eka]; simp)
              have pb : psz kb < psz b := kid_psz (by rw [ekb]; simp)
              have hn : a.n = b.n := by rw [right_n hra (by omega), right_n hrb (by omega)]
              refine l_cons (o_skip rfl rfl ?_)
              refine l_cons (o_skip rfl rfl ?_)
              refine l_cons (o_skip rfl rfl ?_)
              refine l_cons (o_p tbOk rfl rfl rfl ?_)
              refine l_cons (o_p tbOk rfl rfl rfl ?_)
              refine l_nil ?_
              refine x_seq ?_
              refine c_ifT rfl ?_
              refine c_seq ?_
              refine a_beg Ext rfl ?_
              intro w6 ew6
              replace hE := hE.trans (Below.mono ew6 hB)
              replace ha := Rep.ext ha ew6
              replace hka := hka.ext ew6
              replace hb := Rep.ext hb ew6
              replace hkb := hkb.ext ew6
              replace h3 := h3.ext ew6
              replace h4 := h4.ext ew6
              replace hlow := hlow.ext ew6
              replace hB := Nat.le_trans hB ew6.size
              have hS : Ext w6 w6 := ext_refl _
              have D_hka := hka
              have D_hkb := hkb
              have D_h3 := h3
              have D_h4 := h4
              refine a_p 0 tbOk rfl rfl rfl rfl (by kernel_rfl) (fun _ _ _ h => h) hS ?_
              refine a_ld 1 tbOk (fun _ hs => (D_h3.ext hs).cell 3 _ rfl) rfl rfl rfl rfl rfl rfl (by kernel_rfl) (fun _ _ _ h => h) hS ?_
              refine a_ixS 2 tbOk D_hka (show a.kids[0]? = some ka by rw [eka]; rfl) rfl rfl rfl rfl rfl rfl rfl rfl rfl rfl (by kernel_rfl) (fun _ _ _ _ h => h) hS ?_
              intro ebz0 eoz0 euz0 hyz0 hatz0
              obtain ⟨kvz0, rfl, opz0, nmz0, n64z0, hkz0⟩ := ty_open hyz0
              replace hatz0 : At M w6 ebz0 eoz0 [.int .u8 ka.op, .string ka.name, .int .i64 ka.n, kvz0] := hatz0
              refine a_lds 3 tbOk (fun _ hs j v hv => (hatz0.ext hs).cell j v hv) rfl rfl rfl rfl rfl rfl rfl (by kernel_rfl) (fun _ _ _ h => h) hS ?_
              refine a_p 4 tbOk rfl rfl rfl rfl (by kernel_rfl) (fun _ _ _ h => h) hS ?_
              refine a_ld 5 tbOk (fun _ hs => (D_h4.ext hs).cell 3 _ rfl) rfl rfl rfl rfl rfl rfl (by kernel_rfl) (fun _ _ _ h => h) hS ?_
              refine a_ixS 6 tbOk D_hkb (show b.kids[0]? = some kb by rw [ekb]; rfl) rfl rfl rfl rfl rfl rfl rfl rfl rfl rfl (by kernel_rfl) (fun _ _ _ _ h => h) hS ?_
              intro ebz1 eoz1 euz1 hyz1 hatz1
              obtain ⟨kvz1, rfl, opz1, nmz1, n64z1, hkz1⟩ := ty_open hyz1
              replace hatz1 : At M w6 ebz1 eoz1 [.int .u8 kb.op, .string kb.name, .int .i64 kb.n, kvz1] := hatz1
              refine a_lds 7 tbOk (fun _ hs j v hv => (hatz1.ext hs).cell j v hv) rfl rfl rfl rfl rfl rfl rfl (by kernel_rfl) (fun _ _ _ h => h) hS ?_
              refine a_p 8 tbOk rfl rfl rfl rfl (by kernel_rfl) (fun _ _ _ h => h) hS ?_
              refine a_bar 9 rfl (by kernel_rfl) (by kernel_rfl) (o_call fo77 rfl rfl rfl (refRows_of less ka kb (fun x y h => IH x y (by omega)) M _ _ _ hka1 hkb1 hyz0 hyz1 hlow (by omega) (by omega)) ?_)
              rintro _ w7 ⟨rfl, ew7⟩
              replace hS := hS.then ew7
              replace hE := hE.trans (Below.mono ew7 hB)
              replace ha := Rep.ext ha ew7
              replace hka := hka.ext ew7
              replace hb := Rep.ext hb ew7
              replace hkb := hkb.ext ew7
              replace h3 := h3.ext ew7
              replace h4 := h4.ext ew7
              replace hyz0 := Rep.ext hyz0 ew7
              replace hkz0 := hkz0.ext ew7
              replace hatz0 := hatz0.ext ew7
              replace hyz1 := Rep.ext hyz1 ew7
              replace hkz1 := hkz1.ext ew7
              replace hatz1 := hatz1.ext ew7
              replace hlow := hlow.ext ew7
              replace hB := Nat.le_trans hB ew7.size
              refine a_p 10 tbOk rfl rfl rfl rfl (by kernel_rfl) (fun _ _ _ h => h) hS ?_
              refine a_end (by kernel_rfl) ?_
              refine x_seq ?_
              refine c_ret ?_
              refine x_blkR ?_
              refine x_seqR ?_
              refine x_ret1 rfl rfl ?_
              rw [holdsF_eq less a b, hdy, decide_eq_true ho, decide_eq_false o4, decide_eq_true hn, decide_eq_true o5, eka, ekb]
              exact ⟨rfl, hE⟩
            · refine l_cons (o_p tbOk rfl rfl rfl ?_)
              refine l_cons (o_ld tbOk (h3.cell 0 _ rfl) rfl rfl rfl rfl rfl ?_)
              refine l_cons (o_p tbOk rfl rfl rfl ?_)
              refine l_cons (o_p tbOk rfl rfl rfl ?_)
              refine l_cons (o_p tbOk rfl rfl rfl ?_)
              refine l_nil ?_
              refine x_seq ?_
              refine c_ifP _ rfl (fun o6 => ?_) (fun o6 => ?_)
              · obtain ⟨ka, eka, hka1⟩ := rec_kids hra (by omega)
                obtain ⟨kb, ekb, hkb1⟩ := rec_kids hrb (by omega)
                have pa : psz ka < psz a := kid_psz (by rw [eka]; simp)
                have pb : psz kb < psz b := kid_psz (by rw [ekb]; simp)
                have hn : a.n = b.n := by rw [right_n hra (by omega), right_n hrb (by omega)]
                refine c_seq ?_
                refine a_beg Ext rfl ?_
                intro w8 ew8
                replace hE := hE.trans (Below.mono ew8 hB)
                replace ha := Rep.ext ha ew8
                replace hka := hka.ext ew8
                replace hb := Rep.ext hb ew8
                replace hkb := hkb.ext ew8
                replace h3 := h3.ext ew8
                replace h4 := h4.ext ew8
                replace hlow := hlow.ext ew8
                replace hB := Nat.le_trans hB ew8.size
                have hS : Ext w8 w8 := ext_refl _
                have D_hka := hka
                have D_hkb := hkb
                have D_h3 := h3
                have D_h4 := h4
                refine a_p 0 tbOk rfl rfl rfl rfl (by kernel_rfl) (fun _ _ _ h => h) hS ?_
                refine a_ld 1 tbOk (fun _ hs => (D_h3.ext hs).cell 3 _ rfl) rfl rfl rfl rfl rfl rfl (by kernel_rfl) (fun _ _ _ h => h) hS ?_
                refine a_ixS 2 tbOk D_hka (show a.kids[0]? = some ka by rw [eka]; rfl) rfl rfl rfl rfl rfl rfl rfl rfl rfl rfl (by kernel_rfl) (fun _ _ _ _ h => h) hS ?_
                intro ebz0 eoz0 euz0 hyz0 hatz0
                obtain ⟨kvz0, rfl, opz0, nmz0, n64z0, hkz0⟩ := ty_open hyz0
                replace hatz0 : At M w8 ebz0 eoz0 [.int .u8 ka.op, .string ka.name, .int .i64 ka.n, kvz0] := hatz0
                refine a_lds 3 tbOk (fun _ hs j v hv => (hatz0.ext hs).cell j v hv) rfl rfl rfl rfl rfl rfl rfl (by kernel_rfl) (fun _ _ _ h => h) hS ?_
                refine a_p 4 tbOk rfl rfl rfl rfl (by kernel_rfl) (fun _ _ _ h => h) hS ?_
                refine a_ld 5 tbOk (fun _ hs => (D_h4.ext hs).cell 3 _ rfl) rfl rfl rfl rfl rfl rfl (by kernel_rfl) (fun _ _ _ h => h) hS ?_
                refine a_ixS 6 tbOk D_hkb (show b.kids[0]? = some kb by rw [ekb]; rfl) rfl rfl rfl rfl rfl rfl rfl rfl rfl rfl (by kernel_rfl) (fun _ _ _ _ h => h) hS ?_
                intro ebz1 eoz1 euz1 hyz1 hatz1
                obtain ⟨kvz1, rfl, opz1, nmz1, n64z1, hkz1⟩ := ty_open hyz1
                replace hatz1 : At M w8 ebz1 eoz1 [.int .u8 kb.op, .string kb.name, .int .i64 kb.n, kvz1] := hatz1
                refine a_lds 7 tbOk (fun _ hs j v hv => (hatz1.ext hs).cell j v hv) rfl rfl rfl rfl rfl rfl rfl (by kernel_rfl) (fun _ _ _ h => h) hS ?_
                refine a_p 8 tbOk rfl rfl rfl rfl (by kernel_rfl) (fun _ _ _ h => h) hS ?_
                refine a_bar 9 rfl (by kernel_rfl) (by kernel_rfl) (o_call fo77 rfl rfl rfl (refRows_of less ka kb (fun x y h => IH x y (by omega)) M _ _ _ hka1 hkb1 hyz0 hyz1 hlow (by omega) (by omega)) ?_)
                rintro _ w9 ⟨rfl, ew9⟩
                replace hS := hS.then ew9
                replace hE := hE.trans (Below.mono ew9 hB)
                replace ha := Rep.ext ha ew9
                replace hka := hka.ext ew9
                replace hb := Rep.ext hb ew9
                replace hkb := hkb.ext ew9
                replace h3 := h3.ext ew9
                replace h4 := h4.ext ew9
                replace hyz0 := Rep.ext hyz0 ew9
                replace hkz0 := hkz0.ext ew9
                replace hatz0 := hatz0.ext ew9
                replace hyz1 := Rep.ext hyz1 ew9
                replace hkz1 := hkz1.ext ew9
                replace hatz1 := hatz1.ext ew9
                replace hlow := hlow.ext ew9
                replace hB := Nat.le_trans hB ew9.size
                refine a_p 10 tbOk rfl rfl rfl rfl (by kernel_rfl) (fun _ _ _ h => h) hS ?_
                refine a_end (by kernel_rfl) ?_
                refine x_seq ?_
                refine c_ret ?_
                refine x_blkR ?_
                refine x_seqR ?_
                refine x_ret1 rfl rfl ?_
                rw [holdsF_eq less a b, hdy, decide_eq_true ho, decide_eq_false o4, decide_eq_false o5, decide_eq_true hn, decide_eq_true o6, eka, ekb]
                exact ⟨rfl, hE⟩
              · refine c_skip ?_
                refine x_blk ?_
                refine x_seq ?_
                refine c_seq ?_
                refine c_reg ?_
                refine l_cons (o_p tbOk rfl rfl rfl ?_)
                refine l_cons (o_ld tbOk (h3.cell 2 _ rfl) rfl rfl rfl rfl rfl ?_)
                refine l_cons (o_p tbOk rfl rfl rfl ?_)
                refine l_cons (o_ld tbOk (h4.cell 2 _ rfl) rfl rfl rfl rfl rfl ?_)
                refine l_cons (o_p tbOk rfl rfl rfl ?_)
                refine l_cons (o_p tbOk rfl rfl rfl ?_)
                refine l_nil ?_
                refine x_seq ?_
                refine c_ret ?_
                refine x_ret1 rfl rfl ?_
                rw [holdsF_eq less a b, hdy, decide_eq_true ho, decide_eq_false o4, decide_eq_false o5, decide_eq_false o6]
                exact ⟨by simp, hE⟩
    · have hdy : dynF less a b = false := by rw [hdr, decide_eq_false hb3, decide_eq_false ha3]; simp
      refine l_cons (o_skip rfl rfl ?_)
      refine l_cons (o_skip rfl rfl ?_)
      refine l_cons (o_p tbOk rfl rfl rfl ?_)
      refine l_cons (o_p tbOk rfl rfl rfl ?_)
      refine l_cons (o_p tbOk rfl rfl rfl ?_)
      refine l_nil ?_
      refine x_seq ?_
      refine c_ifF rfl ?_
      refine c_seq ?_
      refine c_reg ?_
      refine l_cons (o_p tbOk rfl rfl rfl ?_)
      refine l_cons (o_ld tbOk (h3.cell 0 _ rfl) rfl rfl rfl rfl rfl ?_)
      refine l_cons (o_p tbOk rfl rfl rfl ?_)
      refine l_cons (o_ld tbOk (h4.cell 0 _ rfl) rfl rfl rfl rfl rfl ?_)
      refine l_cons (o_p tbOk rfl rfl rfl ?_)
      refine l_cons (o_p tbOk rfl rfl rfl ?_)
      refine l_nil ?_
      refine x_seq ?_
      refine c_ifN _ rfl (fun ho => ?_) (fun ho => ?_)
      · refine c_seq ?_
        refine c_reg ?_
        refine l_cons (o_p tbOk rfl rfl rfl ?_)
        refine l_nil ?_
        refine x_seq ?_
        refine c_ret ?_
        refine x_blkR ?_
        refine x_seqR ?_
        refine x_ret1 rfl rfl ?_
        rw [holdsF_eq less a b, hdy, decide_eq_false ho]
        exact ⟨rfl, hE⟩
      · refine c_seq ?_
        refine c_reg ?_
        refine l_cons (o_p tbOk rfl rfl rfl ?_)
        refine l_cons (o_ld tbOk (h3.cell 0 _ rfl) rfl rfl rfl rfl rfl ?_)
        refine l_cons (o_p tbOk rfl rfl rfl ?_)
        refine l_cons (o_p tbOk rfl rfl rfl ?_)
        refine l_nil ?_
        refine x_seq ?_
        refine c_ifP _ rfl (fun o4 => ?_) (fun o4 => ?_)
        · obtain ⟨ka, ra, eka, hka1, hra1⟩ := fun_kids hra (by omega)
          obtain ⟨kb, rb, ekb, hkb1, hrb1⟩ := fun_kids hrb (by omega)
          have pa : psz ka < psz a := kid_psz (by rw [eka]; simp)
          have pa2 : psz ra < psz a := kid_psz (by rw [eka]; simp)
          have pb : psz kb < psz b := kid_psz (by rw [ekb]; simp)
          have pb2 : psz rb < psz b := kid_psz (by rw [ekb]; simp)
          have hn : a.n = b.n := by rw [right_n hra (by omega), right_n hrb (by omega)]
          refine c_seq ?_
          refine a_beg Ext rfl ?_
          intro w10 ew10
          replace hE := hE.trans (Below.mono ew10 hB)
          replace ha := Rep.ext ha ew10
          replace hka := hka.ext ew10
          replace hb := Rep.ext hb ew10
          replace hkb := hkb.ext ew10
          replace h3 := h3.ext ew10
          replace h4 := h4.ext ew10
          replace hlow := hlow.ext ew10
          replace hB := Nat.le_trans hB ew10.size
          have hS : Ext w10 w10 := ext_refl _
          have D_hka := hka
          have D_hkb := hkb
          have D_h3 := h3
          have D_h4 := h4
          refine a_p 0 tbOk rfl rfl rfl rfl (by kernel_rfl) (fun _ _ _ h => h) hS ?_
          refine a_ld 1 tbOk (fun _ hs => (D_h3.ext hs).cell 3 _ rfl) rfl rfl rfl rfl rfl rfl (by kernel_rfl) (fun _ _ _ h => h) hS ?_
          refine a_ixS 2 tbOk D_hka (show a.kids[0]? = some ka by rw [eka]; rfl) rfl rfl rfl rfl rfl rfl rfl rfl rfl rfl (by kernel_rfl) (fun _ _ _ _ h => h) hS ?_
          intro ebz0 eoz0 euz0 hyz0 hatz0
          obtain ⟨kvz0, rfl, opz0, nmz0, n64z0, hkz0⟩ := ty_open hyz0
          replace hatz0 : At M w10 ebz0 eoz0 [.int .u8 ka.op, .string ka.name, .int .i64 ka.n, kvz0] := hatz0
          refine a_lds 3 tbOk (fun _ hs j v hv => (hatz0.ext hs).cell j v hv) rfl rfl rfl rfl rfl rfl rfl (by kernel_rfl) (fun _ _ _ h => h) hS ?_
          refine a_p 4 tbOk rfl rfl rfl rfl (by kernel_rfl) (fun _ _ _ h => h) hS ?_
          refine a_ld 5 tbOk (fun _ hs => (D_h4.ext hs).cell 3 _ rfl) rfl rfl rfl rfl rfl rfl (by kernel_rfl) (fun _ _ _ h => h) hS ?_
          refine a_ixS 6 tbOk D_hkb (show b.kids[0]? = some kb by rw [ekb]; rfl) rfl rfl rfl rfl rfl rfl rfl rfl rfl rfl (by kernel_rfl) (fun _ _ _ _ h => h) hS ?_
          intro ebz1 eoz1 euz1 hyz1 hatz1
          obtain ⟨kvz1, rfl, opz1, nmz1, n64z1, hkz1⟩ := ty_open hyz1
          replace hatz1 : At M w10 ebz1 eoz1 [.int .u8 kb.op, .string kb.name, .int .i64 kb.n, kvz1] := hatz1
          refine a_lds 7 tbOk (fun _ hs j v hv => (hatz1.ext hs).cell j v hv) rfl rfl rfl rfl rfl rfl rfl (by kernel_rfl) (fun _ _ _ h => h) hS ?_
          refine a_p 8 tbOk rfl rfl rfl rfl (by kernel_rfl) (fun _ _ _ h => h) hS ?_
          refine a_bar 9 rfl (by kernel_rfl) (by kernel_rfl) (o_call fo76 rfl rfl rfl (IH ka kb (by omega) hka1 hkb1 (by omega) M _ _ _ hyz0 hyz1 hlow) ?_)
          rintro _ w11 ⟨rfl, ew11⟩
          replace hS := hS.then ew11
          replace hE := hE.trans (Below.mono ew11 hB)
          replace ha := Rep.ext ha ew11
          replace hka := hka.ext ew11
          replace hb := Rep.ext hb ew11
          replace hkb := hkb.ext ew11
          replace h3 := h3.ext ew11
          replace h4 := h4.ext ew11
          replace hyz0 := Rep.ext hyz0 ew11
          replace hkz0 := hkz0.ext ew11
          replace hatz0 := hatz0.ext ew11
          replace hyz1 := Rep.ext hyz1 ew11
          replace hkz1 := hkz1.ext ew11
          replace hatz1 := hatz1.ext ew11
          replace hlow := hlow.ext ew11
          replace hB := Nat.le_trans hB ew11.size
          refine a_p 10 tbOk rfl rfl rfl rfl (by kernel_rfl) (fun _ _ _ h => h) hS ?_
          refine a_split 40 _ rfl (fun hk1 => ?_) (fun hk1 => ?_)
          · refine a_p 11 tbOk rfl rfl rfl rfl (by kernel_rfl) (fun _ _ _ h => h) hS ?_
            refine a_ld 12 tbOk (fun _ hs => (D_h3.ext hs).cell 3 _ rfl) rfl rfl rfl rfl rfl rfl (by kernel_rfl) (fun _ _ _ h => h) hS ?_
            refine a_ixS 13 tbOk D_hka (show a.kids[1]? = some ra by rw [eka]; rfl) rfl rfl rfl rfl rfl rfl rfl rfl rfl rfl (by kernel_rfl) (fun _ _ _ _ h => h) hS ?_
            intro ebz2 eoz2 euz2 hyz2 hatz2
            obtain ⟨kvz2, rfl, opz2, nmz2, n64z2, hkz2⟩ := ty_open hyz2
            replace hatz2 : At M w10 ebz2 eoz2 [.int .u8 ra.op, .string ra.name, .int .i64 ra.n, kvz2] := hatz2
            have D_hatz2 := hatz2
            replace hatz2 := hatz2.ext hS
            have D_hkz2 := hkz2
            replace hkz2 := hkz2.ext hS
            replace hyz2 := Rep.ext hyz2 hS
            refine a_lds 14 tbOk (fun _ hs j v hv => (D_hatz2.ext hs).cell j v hv) rfl rfl rfl rfl rfl rfl rfl (by kernel_rfl) (fun _ _ _ h => h) hS ?_
            refine a_p 15 tbOk rfl rfl rfl rfl (by kernel_rfl) (fun _ _ _ h => h) hS ?_
            refine a_ld 16 tbOk (fun _ hs => (D_h4.ext hs).cell 3 _ rfl) rfl rfl rfl rfl rfl rfl (by kernel_rfl) (fun _ _ _ h => h) hS ?_
            refine a_ixS 17 tbOk D_hkb (show b.kids[1]? = some rb by rw [ekb]; rfl) rfl rfl rfl rfl rfl rfl rfl rfl rfl rfl (by kernel_rfl) (fun _ _ _ _ h => h) hS ?_
            intro ebz3 eoz3 euz3 hyz3 hatz3
            obtain ⟨kvz3, rfl, opz3, nmz3, n64z3, hkz3⟩ := ty_open hyz3
            replace hatz3 : At M w10 ebz3 eoz3 [.int .u8 rb.op, .string rb.name, .int .i64 rb.n, kvz3] := hatz3
            have D_hatz3 := hatz3
            replace hatz3 := hatz3.ext hS
            have D_hkz3 := hkz3
            replace hkz3 := hkz3.ext hS
            replace hyz3 := Rep.ext hyz3 hS
            refine a_lds 18 tbOk (fun _ hs j v hv => (D_hatz3.ext hs).cell j v hv) rfl rfl rfl rfl rfl rfl rfl (by kernel_rfl) (fun _ _ _ h => h) hS ?_
            refine a_p 19 tbOk rfl rfl rfl rfl (by kernel_rfl) (fun _ _ _ h => h) hS ?_
            refine a_bar 20 rfl (by kernel_rfl) (by kernel_rfl) (o_call fo76 rfl rfl rfl (IH ra rb (by omega) hra1 hrb1 (by omega) M _ _ _ hyz2 hyz3 hlow) ?_)
            rintro _ w12 ⟨rfl, ew12⟩
            replace hS := hS.then ew12
            replace hE := hE.trans (Below.mono ew12 hB)
            replace ha := Rep.ext ha ew12
            replace hka := hka.ext ew12
            replace hb := Rep.ext hb ew12
            replace hkb := hkb.ext ew12
            replace h3 := h3.ext ew12
            replace h4 := h4.ext ew12
            replace hyz0 := Rep.ext hyz0 ew12
            replace hkz0 := hkz0.ext ew12
            replace hatz0 := hatz0.ext ew12
            replace hyz1 := Rep.ext hyz1 ew12
            replace hkz1 := hkz1.ext ew12
            replace hatz1 := hatz1.ext ew12
            replace hyz2 := Rep.ext hyz2 ew12
            replace hkz2 := hkz2.ext ew12
            replace hatz2 := hatz2.ext ew12
            replace hyz3 := Rep.ext hyz3 ew12
            replace hkz3 := hkz3.ext ew12
            replace hatz3 := hatz3.ext ew12
            replace hlow := hlow.ext ew12
            replace hB := Nat.le_trans hB ew12.size
            refine a_p 21 tbOk rfl rfl rfl rfl (by kernel_rfl) (fun _ _ _ h => h) hS ?_
            refine a_p 22 tbOk rfl rfl rfl rfl (by kernel_rfl) (fun _ _ _ h => h) hS ?_
            refine a_end (by kernel_rfl) ?_
            refine x_seq ?_
            refine c_ret ?_
            refine x_blkR ?_
            refine x_seqR ?_
            refine x_ret1 rfl rfl ?_
            rw [holdsF_eq less a b, hdy, decide_eq_true ho, decide_eq_true hn, decide_eq_true o4, eka, ekb]
            exact ⟨by show _ = Value.bool (holdsF less ka kb && holdsF less ra rb); rw [hk1]; rfl, hE⟩
          · refine a_skip 11 rfl rfl rfl (by kernel_rfl) (fun _ _ _ h => h) hS ?_
            refine a_skip 12 rfl rfl rfl (by kernel_rfl) (fun _ _ _ h => h) hS ?_
            refine a_skip 13 rfl rfl rfl (by kernel_rfl) (fun _ _ _ h => h) hS ?_
            refine a_skip 14 rfl rfl rfl (by kernel_rfl) (fun _ _ _ h => h) hS ?_
            refine a_skip 15 rfl rfl rfl (by kernel_rfl) (fun _ _ _ h => h) hS ?_
            refine a_skip 16 rfl rfl rfl (by kernel_rfl) (fun _ _ _ h => h) hS ?_
            refine a_skip 17 rfl rfl rfl (by kernel_rfl) (fun _ _ _ h => h) hS ?_
            refine a_skip 18 rfl rfl rfl (by kernel_rfl) (fun _ _ _ h => h) hS ?_
            refine a_skip 19 rfl rfl rfl (by kernel_rfl) (fun _ _ _ h => h) hS ?_
            refine a_skip 20 rfl rfl rfl (by kernel_rfl) (fun _ _ _ h => h) hS ?_
            refine a_p 21 tbOk rfl rfl rfl rfl (by kernel_rfl) (fun _ _ _ h => h) hS ?_
            refine a_p 22 tbOk rfl rfl rfl rfl (by kernel_rfl) (fun _ _ _ h => h) hS ?_
            refine a_end (by kernel_rfl) ?_
            refine x_seq ?_
            refine c_ret ?_
            refine x_blkR ?_
            refine x_seqR ?_
            refine x_ret1 rfl rfl ?_
            rw [holdsF_eq less a b, hdy, decide_eq_true ho, decide_eq_true hn, decide_eq_true o4, eka, ekb]
            exact ⟨by show _ = Value.bool (holdsF less ka kb && holdsF less ra rb); rw [hk1]; rfl, hE⟩
        · refine c_seq ?_
          refine c_reg ?_
          refine l_cons (o_p tbOk rfl rfl rfl ?_)
          refine l_cons (o_ld tbOk (h3.cell 0 _ rfl) rfl rfl rfl rfl rfl ?_)
          refine l_cons (o_p tbOk rfl rfl rfl ?_)
          refine l_cons (o_p tbOk rfl rfl rfl ?_)
          refine l_splitP 56 _ rfl (fun o5 => ?_) (fun o5 => ?_)
          · obtain ⟨ka, eka, hka1⟩ := rec_kids hra (by omega)
            obtain ⟨kb, ekb, hkb1⟩ := rec_kids hrb (by omega)
            have pa : psz ka < psz a := kid_psz (by rw [eka]; simp)
            have pb : psz kb < psz b := kid_psz (by rw [ekb]; simp)
            have hn : a.n = b.n := by rw [right_n hra (by omega), right_n hrb (by omega)]
            refine l_cons (o_skip rfl rfl ?_)
            refine l_cons (o_skip rfl rfl ?_)
            refine l_cons (o_skip rfl rfl ?_)
            refine l_cons (o_p tbOk rfl rfl rfl ?_)
            refine l_cons (o_p tbOk rfl rfl rfl ?_)
            refine l_nil ?_
            refine x_seq ?_
            refine c_ifT rfl ?_
            refine c_seq ?_
            refine a_beg Ext rfl ?_
            intro w13 ew13
            replace hE := hE.trans (Below.mono ew13 hB)
            replace ha := Rep.ext ha ew13
            replace hka := hka.ext ew13
            replace hb := Rep.ext hb ew13
            replace hkb := hkb.ext ew13
            replace h3 := h3.ext ew13
            replace h4 := h4.ext ew13
            replace hlow := hlow.ext ew13
            replace hB := Nat.le_trans hB ew13.size
            have hS : Ext w13 w13 := ext_refl _
            have D_hka := hka
            have D_hkb := hkb
            have D_h3 := h3
            have D_h4 := h4
            refine a_p 0 tbOk rfl rfl rfl rfl (by kernel_rfl) (fun _ _ _ h => h) hS ?_
            refine a_ld 1 tbOk (fun _ hs => (D_h3.ext hs).cell 3 _ rfl) rfl rfl rfl rfl rfl rfl (by kernel_rfl) (fun _ _ _ h => h) hS ?_
            refine a_ixS 2 tbOk D_hka (show a.kids[0]? = some ka by rw [eka]; rfl) rfl rfl rfl rfl rfl rfl rfl rfl rfl rfl (by kernel_rfl) (fun _ _ _ _ h => h) hS ?_
            intro ebz0 eoz0 euz0 hyz0 hatz0
            obtain ⟨kvz0, rfl, opz0, nmz0, n64z0, hkz0⟩ := ty_open hyz0
            replace hatz0 : At M w13 ebz0 eoz0 [.int .u8 ka.op, .string ka.name, .int .i64 ka.n, kvz0] := hatz0
            refine a_lds 3 tbOk (fun _ hs j v hv => (hatz0.ext hs).cell j v hv) rfl rfl rfl rfl rfl rfl rfl (by kernel_rfl) (fun _ _ _ h => h) hS ?_
            refine a_p 4 tbOk rfl rfl rfl rfl (by kernel_rfl) (fun _ _ _ h => h) hS ?_
            refine a_ld 5 tbOk (fun _ hs => (D_h4.ext hs).cell 3 _ rfl) rfl rfl rfl rfl rfl rfl (by kernel_rfl) (fun _ _ _ h => h) hS ?_
            refine a_ixS 6 tbOk D_hkb (show b.kids[0]? = some kb by rw [ekb]; rfl) rfl rfl rfl rfl rfl rfl rfl rfl rfl rfl (by kernel_rfl) (fun _ _ _ _ h => h) hS ?_
            intro ebz1 eoz1 euz1 hyz1 hatz1
            obtain ⟨kvz1, rfl, opz1, nmz1, n64z1, hkz1⟩ := ty_open hyz1
            replace hatz1 : At M w13 ebz1 eoz1 [.int .u8 kb.op, .string kb.name, .int .i64 kb.n, kvz1] := hatz1
            refine a_lds 7 tbOk (fun _ hs j v hv => (hatz1.ext hs).cell j v hv) rfl rfl rfl rfl rfl rfl rfl (by kernel_rfl) (fun _ _ _ h => h) hS ?_
            refine a_p 8 tbOk rfl rfl rfl rfl (by kernel_rfl) (fun _ _ _ h => h) hS ?_
            refine a_bar 9 rfl (by kernel_rfl) (by kernel_rfl) (o_call fo77 rfl rfl rfl (refRows_of less ka kb (fun x y h => IH x y (by omega)) M _ _ _ hka1 hkb1 hyz0 hyz1 hlow (by omega) (by omega)) ?_)
            rintro _ w14 ⟨rfl, ew14⟩
            replace hS := hS.then ew14
            replace hE := hE.trans (Below.mono ew14 hB)
            replace ha := Rep.ext ha ew14
            replace hka := hka.ext ew14
            replace hb := Rep.ext hb ew14
            replace hkb := hkb.ext ew14
            replace h3 := h3.ext ew14
            replace h4 := h4.ext ew14
            replace hyz0 := Rep.ext hyz0 ew14
            replace hkz0 := hkz0.ext ew14
            replace hatz0 := hatz0.ext ew14
            replace hyz1 := Rep.ext hyz1 ew14
            replace hkz1 := hkz1.ext ew14
            replace hatz1 := hatz1.ext ew14
            replace hlow := hlow.ext ew14
            replace hB := Nat.le_trans hB ew14.size
            refine a_p 10 tbOk rfl rfl rfl rfl (by kernel_rfl) (fun _ _ _ h => h) hS ?_
            refine a_end (by kernel_rfl) ?_
            refine x_seq ?_
            refine c_ret ?_
            refine x_blkR ?_
            refine x_seqR ?_
            refine x_ret1 rfl rfl ?_
            rw [holdsF_eq less a b, hdy, decide_eq_true ho, decide_eq_false o4, decide_eq_true hn, decide_eq_true o5, eka, ekb]
            exact ⟨rfl, hE⟩
          · refine l_cons (o_p tbOk rfl rfl rfl ?_)
            refine l_cons (o_ld tbOk (h3.cell 0 _ rfl) rfl rfl rfl rfl rfl ?_)
            refine l_cons (o_p tbOk rfl rfl rfl ?_)
            refine l_cons (o_p tbOk rfl rfl rfl ?_)
            refine l_cons (o_p tbOk rfl rfl rfl ?_)
            refine l_nil ?_
            refine x_seq ?_
            refine c_ifP _ rfl (fun o6 => ?_) (fun o6 => ?_)
            · obtain ⟨ka, eka, hka1⟩ := rec_kids hra (by omega)
              obtain ⟨kb, ekb, hkb1⟩ := rec_kids hrb (by omega)
              have pa : psz ka < psz a := kid_psz (by rw [eka]; simp)
              have pb : psz kb < psz b := kid_psz (by rw [ekb]; simp)
              have hn : a.n = b.n := by rw [right_n hra (by omega), right_n hrb (by omega)]
              refine c_seq ?_
              refine a_beg Ext rfl ?_
              intro w15 ew15
              replace hE := hE.trans (Below.mono ew15 hB)
              replace ha := Rep.ext ha ew15
              replace hka := hka.ext ew15
              replace hb := Rep.ext hb ew15
              replace hkb := hkb.ext ew15
              replace h3 := h3.ext ew15
              replace h4 := h4.ext ew15
              replace hlow := hlow.ext ew15
              replace hB := Nat.le_trans hB ew15.size
              have hS : Ext w15 w15 := ext_refl _
              have D_hka := hka
              have D_hkb := hkb
              have D_h3 := h3
              have D_h4 := h4
              refine a_p 0 tbOk rfl rfl rfl rfl (by kernel_rfl) (fun _ _ _ h => h) hS ?_
              refine a_ld 1 tbOk (fun _ hs => (D_h3.ext hs).cell 3 _ rfl) rfl rfl rfl rfl rfl rfl (by kernel_rfl) (fun _ _ _ h => h) hS ?_
              refine a_ixS 2 tbOk D_hka (show a.kids[0]? = some ka by rw [eka]; rfl) rfl rfl rfl rfl rfl rfl rfl rfl rfl rfl (by kernel_rfl) (fun _ _ _ _ h => h) hS ?_
              intro ebz0 eoz0 euz0 hyz0 hatz0
              obtain ⟨kvz0, rfl, opz0, nmz0, n64z0, hkz0⟩ := ty_open hyz0
              replace hatz0 : At M w15 ebz0 eoz0 [.int .u8 ka.op, .string ka.name, .int .i64 ka.n, kvz0] := hatz0
              refine a_lds 3 tbOk (fun _ hs j v hv => (hatz0.ext hs).cell j v hv) rfl rfl rfl rfl rfl rfl rfl (by kernel_rfl) (fun _ _ _ h => h) hS ?_
              refine a_p 4 tbOk rfl rfl rfl rfl (by kernel_rfl) (fun _ _ _ h => h) hS ?_
              refine a_ld 5 tbOk (fun _ hs => (D_h4.ext hs).cell 3 _ rfl) rfl rfl rfl rfl rfl rfl (by kernel_rfl) (fun _ _ _ h => h) hS ?_
              refine a_ixS 6 tbOk D_hkb (show b.kids[0]? = some kb by rw [ekb]; rfl) rfl rfl rfl rfl rfl rfl rfl rfl rfl rfl (by kernel_rfl) (fun _ _ _ _ h => h) hS ?_
              intro ebz1 eoz1 euz1 hyz1 hatz1
              obtain ⟨kvz1, rfl, opz1, nmz1, n64z1, hkz1⟩ := ty_open hyz1
              replace hatz1 : At M w15 ebz1 eoz1 [.int .u8 kb.op, .string kb.name, .int .i64 kb.n, kvz1] := hatz1
              refine a_lds 7 tbOk (fun _ hs j v hv => (hatz1.ext hs).cell j v hv) rfl rfl rfl rfl rfl rfl rfl (by kernel_rfl) (fun _ _ _ h => h) hS ?_
              refine a_p 8 tbOk rfl rfl rfl rfl (by kernel_rfl) (fun _ _ _ h => h) hS ?_
              refine a_bar 9 rfl (by kernel_rfl) (by kernel_rfl) (o_call fo77 rfl rfl rfl (refRows_of less ka kb (fun x y h => IH x y (by omega)) M _ _ _ hka1 hkb1 hyz0 hyz1 hlow (by omega) (by omega)) ?_)
              rintro _ w16 ⟨rfl, ew16⟩
              replace hS := hS.then ew16
              replace hE := hE.trans (Below.mono ew16 hB)
              replace ha := Rep.ext ha ew16
              replace hka := hka.ext ew16
              replace hb := Rep.ext hb ew16
              replace hkb := hkb.ext ew16
              replace h3 := h3.ext ew16
              replace h4 := h4.ext ew16
              replace hyz0 := Rep.ext hyz0 ew16
              replace hkz0 := hkz0.ext ew16
              replace hatz0 := hatz0.ext ew16
              replace hyz1 := Rep.ext hyz1 ew16
              replace hkz1 := hkz1.ext ew16
              replace hatz1 := hatz1.ext ew16
              replace hlow := hlow.ext ew16
              replace hB := Nat.le_trans hB ew16.size
              refine a_p 10 tbOk rfl rfl rfl rfl (by kernel_rfl) (fun _ _ _ h => h) hS ?_
              refine a_end (by kernel_rfl) ?_
              refine x_seq ?_
              refine c_ret ?_
              refine x_blkR ?_
              refine x_seqR ?_
              refine x_ret1 rfl rfl ?_
              rw [holdsF_eq less a b, hdy, decide_eq_true ho, decide_eq_false o4, decide_eq_false o5, decide_eq_true hn, decide_eq_true o6, eka, ekb]
              exact ⟨rfl, hE⟩
            · refine c_skip ?_
              refine x_blk ?_
              refine x_seq ?_
              refine c_seq ?_
              refine c_reg ?_
              refine l_cons (o_p tbOk rfl rfl rfl ?_)
              refine l_cons (o_ld tbOk (h3.cell 2 _ rfl) rfl rfl rfl rfl rfl ?_)
              refine l_cons (o_p tbOk rfl rfl rfl ?_)
              refine l_cons (o_ld tbOk (h4.cell 2 _ rfl) rfl rfl rfl rfl rfl ?_)
              refine l_cons (o_p tbOk rfl rfl rfl ?_)
              refine l_cons (o_p tbOk rfl rfl rfl ?_)
              refine l_nil ?_
              refine x_seq ?_
              refine c_ret ?_
              refine x_ret1 rfl rfl ?_
              rw [holdsF_eq less a b, hdy, decide_eq_true ho, decide_eq_false o4, decide_eq_false o5, decide_eq_false o6]
              exact ⟨by simp, hE⟩

/-- .. of whatever size. -/
theorem refHolds_spec (less : Bool) : ∀ (n : Nat) (a b : Ty), psz a ≤ n → ∀ (M : Nat → Prop) (w : World) (v u : Value) (hra : rightB a = true) (hrb : rightB b = true) (ha : Rep.R M w v a) (hb : Rep.R M w u b) (hlow : Low M w) (hza : psz a ≤ 2000000) (hzb : psz b ≤ 2000000),
    Calls Try.prog 76 #[v, u, .bool less] w (Ret fun r w' => r = .bool (holdsF less a b) ∧ Ext w w') := by
  intro n
  induction n with
  | zero => intro a b h; have := psz_pos a; omega
  | succ n ih =>
    intro a b h M w v u hra hrb ha hb hlow hza hzb
    exact refHolds_of less a b (fun x y hx hrx hry hzy M w v u hx2 hy2 hl => ih x y (by omega) M w v u hrx hry hx2 hy2 hl (by omega) hzy) M w v u hra hrb ha hb hlow hza hzb
theorem refRows_spec (less : Bool) (a b : Ty) (M : Nat → Prop) (w : World) (v u : Value) (hra : rowB a = true) (hrb : rowB b = true) (ha : Rep.R M w v a) (hb : Rep.R M w u b) (hlow : Low M w) (hza : psz a ≤ 2000000) (hzb : psz b ≤ 2000000) :
    Calls Try.prog 77 #[v, u, .bool less] w (Ret fun r w' => r = .bool (rowsF less a b) ∧ Ext w w') :=
  refRows_of less a b (fun x y hx hrx hry hzy M w v u hx2 hy2 hl => refHolds_spec less _ x y (Nat.le_refl _) M w v u hrx hry hx2 hy2 hl (by omega) hzy) M w v u hra hrb ha hb hlow hza hzb

/-- The document's Asked. -/
theorem refAsked_spec (less : Bool) (a b : Ty) (M : Nat → Prop) (w : World) (v u : Value) (ha : Rep.R M w v a) (hb : Rep.R M w u b) (hlow : Low M w) (hza : psz a ≤ 2000000) (hzb : psz b ≤ 2000000) :
    Calls Try.prog 41 #[v, u, .bool less] w (Ret fun r w' => r = .bool (askedF less a b) ∧ Ext w w') := by
  have hE : Below w.heap.size w w := Below.refl _ _
  have hB : w.heap.size ≤ w.heap.size := Nat.le_refl _
  obtain ⟨kva, rfl, opa, nma, n64a, hka⟩ := ty_open ha
  obtain ⟨kvb, rfl, opb, nmb, n64b, hkb⟩ := ty_open hb
  refine c_enter (n := 29) Try.func41 rfl rfl rfl ?_
  refine c_seq ?_
  refine c_reg ?_
  refine l_cons (o_box rfl rfl rfl ?_)
  intro b3 w1 hb_b3 ew1 h3
  replace h3 : Box _ b3 25 [.int .u8 a.op, .string a.name, .int .i64 a.n, kva] := h3
  replace h3 := h3.at (nM_of hlow hb_b3)
  replace hE := hE.trans (Below.mono ew1 hB)
  replace ha := Rep.ext ha ew1
  replace hka := hka.ext ew1
  replace hb := Rep.ext hb ew1
  replace hkb := hkb.ext ew1
  replace hlow := hlow.ext ew1
  replace hB := Nat.le_trans hB ew1.size
  refine l_cons (o_box rfl rfl rfl ?_)
  intro b4 w2 hb_b4 ew2 h4
  replace h4 : Box _ b4 25 [.int .u8 b.op, .string b.name, .int .i64 b.n, kvb] := h4
  replace h4 := h4.at (nM_of hlow hb_b4)
  replace hE := hE.trans (Below.mono ew2 hB)
  replace ha := Rep.ext ha ew2
  replace hka := hka.ext ew2
  replace hb := Rep.ext hb ew2
  replace hkb := hkb.ext ew2
  replace h3 := h3.ext ew2
  replace hlow := hlow.ext ew2
  replace hB := Nat.le_trans hB ew2.size
  refine l_cons (o_p tbOk rfl rfl rfl ?_)
  refine l_nil ?_
  refine x_seq ?_
  refine c_seq ?_
  refine c_seq ?_
  refine c_reg ?_
  refine l_cons (o_lds tbOk (fun j v hv => h3.cell j v hv) rfl rfl rfl rfl rfl rfl ?_)
  refine l_cons (o_call fo17 rfl rfl rfl (refRight_spec a M _ _ ha hlow hza) ?_)
  rintro _ w3 ⟨rfl, ew3⟩
  replace hE := hE.trans (Below.mono ew3 hB)
  replace ha := Rep.ext ha ew3
  replace hka := hka.ext ew3
  replace hb := Rep.ext hb ew3
  replace hkb := hkb.ext ew3
  replace h3 := h3.ext ew3
  replace h4 := h4.ext ew3
  replace hlow := hlow.ext ew3
  replace hB := Nat.le_trans hB ew3.size
  refine l_cons (o_p tbOk rfl rfl rfl ?_)
  refine l_split 9 _ rfl (fun hra => ?_) (fun hra => ?_)
  · refine l_cons (o_lds tbOk (fun j v hv => h4.cell j v hv) rfl rfl rfl rfl rfl rfl ?_)
    refine l_cons (o_call fo17 rfl rfl rfl (refRight_spec b M _ _ hb hlow hzb) ?_)
    rintro _ w4 ⟨rfl, ew4⟩
    replace hE := hE.trans (Below.mono ew4 hB)
    replace ha := Rep.ext ha ew4
    replace hka := hka.ext ew4
    replace hb := Rep.ext hb ew4
    replace hkb := hkb.ext ew4
    replace h3 := h3.ext ew4
    replace h4 := h4.ext ew4
    replace hlow := hlow.ext ew4
    replace hB := Nat.le_trans hB ew4.size
    refine l_cons (o_p tbOk rfl rfl rfl ?_)
    refine l_nil ?_
    refine x_seq ?_
    refine c_if _ rfl (fun hrb => ?_) (fun hrb => ?_)
    · have hrw := right_row hra
      refine c_seq ?_
      refine c_reg ?_
      refine l_cons (o_lds tbOk (fun j v hv => h3.cell j v hv) rfl rfl rfl rfl rfl rfl ?_)
      refine l_cons (o_lds tbOk (fun j v hv => h4.cell j v hv) rfl rfl rfl rfl rfl rfl ?_)
      refine l_cons (o_p tbOk rfl rfl rfl ?_)
      refine l_cons (o_call fo76 rfl rfl rfl (refHolds_spec less _ a b (Nat.le_refl _) M _ _ _ hra hrb ha hb hlow hza hzb) ?_)
      rintro _ w5 ⟨rfl, ew5⟩
      replace hE := hE.trans (Below.mono ew5 hB)
      replace ha := Rep.ext ha ew5
      replace hka := hka.ext ew5
      replace hb := Rep.ext hb ew5
      replace hkb := hkb.ext ew5
      replace h3 := h3.ext ew5
      replace h4 := h4.ext ew5
      replace hlow := hlow.ext ew5
      replace hB := Nat.le_trans hB ew5.size
      refine l_cons (o_p tbOk rfl rfl rfl ?_)
      refine l_nil ?_
      refine x_seq ?_
      refine c_ret ?_
      refine x_seqR ?_
      refine x_ret1 rfl rfl ?_
      exact ⟨by simp [askedF, *], hE⟩
    · refine c_skip ?_
      refine x_seq ?_
      refine c_seq ?_
      refine c_reg ?_
      refine l_cons (o_lds tbOk (fun j v hv => h3.cell j v hv) rfl rfl rfl rfl rfl rfl ?_)
      refine l_cons (o_call fo19 rfl rfl rfl (refRow_spec a M _ _ ha hlow hza) ?_)
      rintro _ w6 ⟨rfl, ew6⟩
      replace hE := hE.trans (Below.mono ew6 hB)
      replace ha := Rep.ext ha ew6
      replace hka := hka.ext ew6
      replace hb := Rep.ext hb ew6
      replace hkb := hkb.ext ew6
      replace h3 := h3.ext ew6
      replace h4 := h4.ext ew6
      replace hlow := hlow.ext ew6
      replace hB := Nat.le_trans hB ew6.size
      refine l_cons (o_p tbOk rfl rfl rfl ?_)
      refine l_split 19 _ rfl (fun hrr => ?_) (fun hrr => ?_)
      · refine l_cons (o_lds tbOk (fun j v hv => h4.cell j v hv) rfl rfl rfl rfl rfl rfl ?_)
        refine l_cons (o_call fo19 rfl rfl rfl (refRow_spec b M _ _ hb hlow hzb) ?_)
        rintro _ w7 ⟨rfl, ew7⟩
        replace hE := hE.trans (Below.mono ew7 hB)
        replace ha := Rep.ext ha ew7
        replace hka := hka.ext ew7
        replace hb := Rep.ext hb ew7
        replace hkb := hkb.ext ew7
        replace h3 := h3.ext ew7
        replace h4 := h4.ext ew7
        replace hlow := hlow.ext ew7
        replace hB := Nat.le_trans hB ew7.size
        refine l_cons (o_p tbOk rfl rfl rfl ?_)
        refine l_cons (o_p tbOk rfl rfl rfl ?_)
        refine l_split 23 _ rfl (fun hrr2 => ?_) (fun hrr2 => ?_)
        · refine l_cons (o_lds tbOk (fun j v hv => h3.cell j v hv) rfl rfl rfl rfl rfl rfl ?_)
          refine l_cons (o_lds tbOk (fun j v hv => h4.cell j v hv) rfl rfl rfl rfl rfl rfl ?_)
          refine l_cons (o_p tbOk rfl rfl rfl ?_)
          refine l_cons (o_call fo77 rfl rfl rfl (refRows_spec less a b M _ _ _ hrr hrr2 ha hb hlow hza hzb) ?_)
          rintro _ w8 ⟨rfl, ew8⟩
          replace hE := hE.trans (Below.mono ew8 hB)
          replace ha := Rep.ext ha ew8
          replace hka := hka.ext ew8
          replace hb := Rep.ext hb ew8
          replace hkb := hkb.ext ew8
          replace h3 := h3.ext ew8
          replace h4 := h4.ext ew8
          replace hlow := hlow.ext ew8
          replace hB := Nat.le_trans hB ew8.size
          refine l_cons (o_p tbOk rfl rfl rfl ?_)
          refine l_cons (o_p tbOk rfl rfl rfl ?_)
          refine l_nil ?_
          refine x_seq ?_
          refine c_ret ?_
          refine x_ret1 rfl rfl ?_
          exact ⟨by simp [askedF, *], hE⟩
        · refine l_cons (o_skip rfl rfl ?_)
          refine l_cons (o_skip rfl rfl ?_)
          refine l_cons (o_skip rfl rfl ?_)
          refine l_cons (o_skip rfl rfl ?_)
          refine l_cons (o_p tbOk rfl rfl rfl ?_)
          refine l_cons (o_p tbOk rfl rfl rfl ?_)
          refine l_nil ?_
          refine x_seq ?_
          refine c_ret ?_
          refine x_ret1 rfl rfl ?_
          exact ⟨by simp [askedF, *], hE⟩
      · refine l_cons (o_skip rfl rfl ?_)
        refine l_cons (o_skip rfl rfl ?_)
        refine l_cons (o_p tbOk rfl rfl rfl ?_)
        refine l_cons (o_p tbOk rfl rfl rfl ?_)
        refine l_cons (o_skip rfl rfl ?_)
        refine l_cons (o_skip rfl rfl ?_)
        refine l_cons (o_skip rfl rfl ?_)
        refine l_cons (o_skip rfl rfl ?_)
        refine l_cons (o_p tbOk rfl rfl rfl ?_)
        refine l_cons (o_p tbOk rfl rfl rfl ?_)
        refine l_nil ?_
        refine x_seq ?_
        refine c_ret ?_
        refine x_ret1 rfl rfl ?_
        exact ⟨by simp [askedF, *], hE⟩
  · refine l_cons (o_skip rfl rfl ?_)
    refine l_cons (o_skip rfl rfl ?_)
    refine l_cons (o_p tbOk rfl rfl rfl ?_)
    refine l_nil ?_
    refine x_seq ?_
    refine c_ifF rfl ?_
    refine c_skip ?_
    refine x_seq ?_
    refine c_seq ?_
    refine c_reg ?_
    refine l_cons (o_lds tbOk (fun j v hv => h3.cell j v hv) rfl rfl rfl rfl rfl rfl ?_)
    refine l_cons (o_call fo19 rfl rfl rfl (refRow_spec a M _ _ ha hlow hza) ?_)
    rintro _ w9 ⟨rfl, ew9⟩
    replace hE := hE.trans (Below.mono ew9 hB)
    replace ha := Rep.ext ha ew9
    replace hka := hka.ext ew9
    replace hb := Rep.ext hb ew9
    replace hkb := hkb.ext ew9
    replace h3 := h3.ext ew9
    replace h4 := h4.ext ew9
    replace hlow := hlow.ext ew9
    replace hB := Nat.le_trans hB ew9.size
    refine l_cons (o_p tbOk rfl rfl rfl ?_)
    refine l_split 19 _ rfl (fun hrr => ?_) (fun hrr => ?_)
    · refine l_cons (o_lds tbOk (fun j v hv => h4.cell j v hv) rfl rfl rfl rfl rfl rfl ?_)
      refine l_cons (o_call fo19 rfl rfl rfl (refRow_spec b M _ _ hb hlow hzb) ?_)
      rintro _ w10 ⟨rfl, ew10⟩
      replace hE := hE.trans (Below.mono ew10 hB)
      replace ha := Rep.ext ha ew10
      replace hka := hka.ext ew10
      replace hb := Rep.ext hb ew10
      replace hkb := hkb.ext ew10
      replace h3 := h3.ext ew10
      replace h4 := h4.ext ew10
      replace hlow := hlow.ext ew10
      replace hB := Nat.le_trans hB ew10.size
      refine l_cons (o_p tbOk rfl rfl rfl ?_)
      refine l_cons (o_p tbOk rfl rfl rfl ?_)
      refine l_split 23 _ rfl (fun hrr2 => ?_) (fun hrr2 => ?_)
      · refine l_cons (o_lds tbOk (fun j v hv => h3.cell j v hv) rfl rfl rfl rfl rfl rfl ?_)
        refine l_cons (o_lds tbOk (fun j v hv => h4.cell j v hv) rfl rfl rfl rfl rfl rfl ?_)
        refine l_cons (o_p tbOk rfl rfl rfl ?_)
        refine l_cons (o_call fo77 rfl rfl rfl (refRows_spec less a b M _ _ _ hrr hrr2 ha hb hlow hza hzb) ?_)
        rintro _ w11 ⟨rfl, ew11⟩
        replace hE := hE.trans (Below.mono ew11 hB)
        replace ha := Rep.ext ha ew11
        replace hka := hka.ext ew11
        replace hb := Rep.ext hb ew11
        replace hkb := hkb.ext ew11
        replace h3 := h3.ext ew11
        replace h4 := h4.ext ew11
        replace hlow := hlow.ext ew11
        replace hB := Nat.le_trans hB ew11.size
        refine l_cons (o_p tbOk rfl rfl rfl ?_)
        refine l_cons (o_p tbOk rfl rfl rfl ?_)
        refine l_nil ?_
        refine x_seq ?_
        refine c_ret ?_
        refine x_ret1 rfl rfl ?_
        exact ⟨by simp [askedF, *], hE⟩
      · refine l_cons (o_skip rfl rfl ?_)
        refine l_cons (o_skip rfl rfl ?_)
        refine l_cons (o_skip rfl rfl ?_)
        refine l_cons (o_skip rfl rfl ?_)
        refine l_cons (o_p tbOk rfl rfl rfl ?_)
        refine l_cons (o_p tbOk rfl rfl rfl ?_)
        refine l_nil ?_
        refine x_seq ?_
        refine c_ret ?_
        refine x_ret1 rfl rfl ?_
        exact ⟨by simp [askedF, *], hE⟩
    · refine l_cons (o_skip rfl rfl ?_)
      refine l_cons (o_skip rfl rfl ?_)
      refine l_cons (o_p tbOk rfl rfl rfl ?_)
      refine l_cons (o_p tbOk rfl rfl rfl ?_)
      refine l_cons (o_skip rfl rfl ?_)
      refine l_cons (o_skip rfl rfl ?_)
      refine l_cons (o_skip rfl rfl ?_)
      refine l_cons (o_skip rfl rfl ?_)
      refine l_cons (o_p tbOk rfl rfl rfl ?_)
      refine l_cons (o_p tbOk rfl rfl rfl ?_)
      refine l_nil ?_
      refine x_seq ?_
      refine c_ret ?_
      refine x_ret1 rfl rfl ?_
      exact ⟨by simp [askedF, *], hE⟩

end Go.Proofs.Ytpoahmeacjggfaa
