/- Walks: relations between types. Printed by wip/walks/prec1.py. -/
import Derived.Test.YtpoahmeacjggfaaWj
import Derived.Test.YtpoahmeacjggfaaWk
import Derived.Test.YtpoahmeacjggfaaPlainQ
import Derived.Test.YtpoahmeacjggfaaMore
namespace Go.Proofs.Ytpoahmeacjggfaa
open Go Rw Go.RowKit
set_option maxRecDepth 100000

/-- Does it hold by a ? alone? -/
theorem eitherP_spec (x y : Ty) (M : Nat → Prop) (w : World) (v u : Value) (hx : Rep.R M w v x) (hy : Rep.R M w u y) (hlow : Low M w) :
    Calls Try.prog 102 #[v, u] w (Ret fun r w' => r = .bool (dynF false x y) ∧ Ext w w') := by
  have hE : Below w.heap.size w w := Below.refl _ _
  have hB : w.heap.size ≤ w.heap.size := Nat.le_refl _
  obtain ⟨kva, rfl, opa, nma, n64a, hka⟩ := ty_open hx
  obtain ⟨kvb, rfl, opb, nmb, n64b, hkb⟩ := ty_open hy
  refine c_enter (n := 23) Try.func102 rfl rfl rfl ?_
  refine q0 ?_
  refine l_cons (o_box rfl rfl rfl ?_)
  intro b2 w1 hb_b2 ew1 h2
  replace h2 : Box _ b2 25 [.int .u8 x.op, .string x.name, .int .i64 x.n, kva] := h2
  replace h2 := h2.at (nM_of hlow hb_b2)
  replace hE := hE.trans (Below.mono ew1 hB)
  replace hx := Rep.ext hx ew1
  replace hka := hka.ext ew1
  replace hy := Rep.ext hy ew1
  replace hkb := hkb.ext ew1
  replace hlow := hlow.ext ew1
  replace hB := Nat.le_trans hB ew1.size
  refine l_cons (o_box rfl rfl rfl ?_)
  intro b3 w2 hb_b3 ew2 h3
  replace h3 : Box _ b3 25 [.int .u8 y.op, .string y.name, .int .i64 y.n, kvb] := h3
  replace h3 := h3.at (nM_of hlow hb_b3)
  replace hE := hE.trans (Below.mono ew2 hB)
  replace hx := Rep.ext hx ew2
  replace hka := hka.ext ew2
  replace hy := Rep.ext hy ew2
  replace hkb := hkb.ext ew2
  replace h2 := h2.ext ew2
  replace hlow := hlow.ext ew2
  replace hB := Nat.le_trans hB ew2.size
  refine l_p 1 tbOk rfl (q1 (q0 (l_p 1 tbOk rfl ?_)))
  refine l_cons (o_ld tbOk (h2.cell 0 _ rfl) rfl rfl rfl rfl rfl ?_)
  refine l_p 2 tbOk rfl ?_
  refine l_splitP 8 _ rfl (fun c1 => ?_) (fun c1 => ?_)
  · refine l_p 15 tbOk rfl (q1 (c_ret (x_ret1 rfl rfl ?_)))
    exact ⟨by simp [dynF, *], hE⟩
  refine l_p 1 tbOk rfl ?_
  refine l_cons (o_ld tbOk (h3.cell 0 _ rfl) rfl rfl rfl rfl rfl ?_)
  refine l_p 3 tbOk rfl ?_
  refine l_splitP 13 _ rfl (fun c2 => ?_) (fun c2 => ?_)
  · refine l_p 10 tbOk rfl (q1 (c_ret (x_ret1 rfl rfl ?_)))
    exact ⟨by simp [dynF, *], hE⟩
  refine l_p 1 tbOk rfl ?_
  refine l_cons (o_ld tbOk (h2.cell 0 _ rfl) rfl rfl rfl rfl rfl ?_)
  refine l_p 3 tbOk rfl ?_
  refine l_splitP 18 _ rfl (fun c3 => ?_) (fun c3 => ?_)
  · refine l_p 5 tbOk rfl (q1 (c_ret (x_ret1 rfl rfl ?_)))
    exact ⟨by simp [dynF, *], hE⟩
  refine l_p 1 tbOk rfl ?_
  refine l_cons (o_ld tbOk (h3.cell 0 _ rfl) rfl rfl rfl rfl rfl ?_)
  refine l_p 3 tbOk rfl (q1 (c_ret (x_ret1 rfl rfl ?_)))
  exact ⟨by simp [dynF, *], hE⟩

/-- Does it hold by a ? alone? -/
theorem second_spec (x y : Ty) (M : Nat → Prop) (w : World) (v u : Value) (hx : Rep.R M w v x) (hy : Rep.R M w u y) (hlow : Low M w) :
    Calls Try.prog 108 #[v, u] w (Ret fun r w' => r = .bool (dynF true x y) ∧ Ext w w') := by
  have hE : Below w.heap.size w w := Below.refl _ _
  have hB : w.heap.size ≤ w.heap.size := Nat.le_refl _
  obtain ⟨kva, rfl, opa, nma, n64a, hka⟩ := ty_open hx
  obtain ⟨kvb, rfl, opb, nmb, n64b, hkb⟩ := ty_open hy
  refine c_enter (n := 13) Try.func108 rfl rfl rfl ?_
  refine q0 ?_
  refine l_cons (o_box rfl rfl rfl ?_)
  intro b2 w1 hb_b2 ew1 h2
  replace h2 : Box _ b2 25 [.int .u8 x.op, .string x.name, .int .i64 x.n, kva] := h2
  replace h2 := h2.at (nM_of hlow hb_b2)
  replace hE := hE.trans (Below.mono ew1 hB)
  replace hx := Rep.ext hx ew1
  replace hka := hka.ext ew1
  replace hy := Rep.ext hy ew1
  replace hkb := hkb.ext ew1
  replace hlow := hlow.ext ew1
  replace hB := Nat.le_trans hB ew1.size
  refine l_cons (o_box rfl rfl rfl ?_)
  intro b3 w2 hb_b3 ew2 h3
  replace h3 : Box _ b3 25 [.int .u8 y.op, .string y.name, .int .i64 y.n, kvb] := h3
  replace h3 := h3.at (nM_of hlow hb_b3)
  replace hE := hE.trans (Below.mono ew2 hB)
  replace hx := Rep.ext hx ew2
  replace hka := hka.ext ew2
  replace hy := Rep.ext hy ew2
  replace hkb := hkb.ext ew2
  replace h2 := h2.ext ew2
  replace hlow := hlow.ext ew2
  replace hB := Nat.le_trans hB ew2.size
  refine l_p 1 tbOk rfl (q1 (q0 (l_p 1 tbOk rfl ?_)))
  refine l_cons (o_ld tbOk (h3.cell 0 _ rfl) rfl rfl rfl rfl rfl ?_)
  refine l_p 2 tbOk rfl ?_
  refine l_splitP 8 _ rfl (fun c1 => ?_) (fun c1 => ?_)
  · refine l_p 5 tbOk rfl (q1 (c_ret (x_ret1 rfl rfl ?_)))
    exact ⟨by simp [dynF, *], hE⟩
  refine l_p 1 tbOk rfl ?_
  refine l_cons (o_ld tbOk (h3.cell 0 _ rfl) rfl rfl rfl rfl rfl ?_)
  refine l_p 3 tbOk rfl (q1 (c_ret (x_ret1 rfl rfl ?_)))
  exact ⟨by simp [dynF, *], hE⟩

/-- May fields be left over? -/
theorem cons1_spec (x y : Ty) (M : Nat → Prop) (w : World) (v u : Value) (hx : Rep.R M w v x) (hy : Rep.R M w u y) (hlow : Low M w) :
    Calls Try.prog 103 #[v, u] w (Ret fun r w' => r = .bool (!false && decide (y.op = 9)) ∧ Ext w w') := by
  have hE : Below w.heap.size w w := Below.refl _ _
  have hB : w.heap.size ≤ w.heap.size := Nat.le_refl _
  obtain ⟨kva, rfl, opa, nma, n64a, hka⟩ := ty_open hx
  obtain ⟨kvb, rfl, opb, nmb, n64b, hkb⟩ := ty_open hy
  refine c_enter (n := 8) Try.func103 rfl rfl rfl ?_
  refine q0 ?_
  refine l_cons (o_box rfl rfl rfl ?_)
  intro b2 w1 hb_b2 ew1 h2
  replace h2 : Box _ b2 25 [.int .u8 x.op, .string x.name, .int .i64 x.n, kva] := h2
  replace h2 := h2.at (nM_of hlow hb_b2)
  replace hE := hE.trans (Below.mono ew1 hB)
  replace hx := Rep.ext hx ew1
  replace hka := hka.ext ew1
  replace hy := Rep.ext hy ew1
  replace hkb := hkb.ext ew1
  replace hlow := hlow.ext ew1
  replace hB := Nat.le_trans hB ew1.size
  refine l_cons (o_box rfl rfl rfl ?_)
  intro b3 w2 hb_b3 ew2 h3
  replace h3 : Box _ b3 25 [.int .u8 y.op, .string y.name, .int .i64 y.n, kvb] := h3
  replace h3 := h3.at (nM_of hlow hb_b3)
  replace hE := hE.trans (Below.mono ew2 hB)
  replace hx := Rep.ext hx ew2
  replace hka := hka.ext ew2
  replace hy := Rep.ext hy ew2
  replace hkb := hkb.ext ew2
  replace h2 := h2.ext ew2
  replace hlow := hlow.ext ew2
  replace hB := Nat.le_trans hB ew2.size
  refine l_p 1 tbOk rfl (q1 (q0 (l_p 1 tbOk rfl ?_)))
  refine l_cons (o_ld tbOk (h3.cell 0 _ rfl) rfl rfl rfl rfl rfl ?_)
  refine l_p 2 tbOk rfl (q1 (c_ret (x_ret1 rfl rfl ?_)))
  exact ⟨by simp [*], hE⟩

/-- May fields be left over? -/
theorem less1_spec (x y : Ty) (M : Nat → Prop) (w : World) (v u : Value) (hx : Rep.R M w v x) (hy : Rep.R M w u y) (hlow : Low M w) :
    Calls Try.prog 109 #[v, u] w (Ret fun r w' => r = .bool (!true && decide (y.op = 9)) ∧ Ext w w') := by
  have hE : Below w.heap.size w w := Below.refl _ _
  have hB : w.heap.size ≤ w.heap.size := Nat.le_refl _
  obtain ⟨kva, rfl, opa, nma, n64a, hka⟩ := ty_open hx
  obtain ⟨kvb, rfl, opb, nmb, n64b, hkb⟩ := ty_open hy
  refine c_enter (n := 5) Try.func109 rfl rfl rfl ?_
  refine q0 ?_
  refine l_cons (o_box rfl rfl rfl ?_)
  intro b2 w1 hb_b2 ew1 h2
  replace h2 : Box _ b2 25 [.int .u8 x.op, .string x.name, .int .i64 x.n, kva] := h2
  replace h2 := h2.at (nM_of hlow hb_b2)
  replace hE := hE.trans (Below.mono ew1 hB)
  replace hx := Rep.ext hx ew1
  replace hka := hka.ext ew1
  replace hy := Rep.ext hy ew1
  replace hkb := hkb.ext ew1
  replace hlow := hlow.ext ew1
  replace hB := Nat.le_trans hB ew1.size
  refine l_cons (o_box rfl rfl rfl ?_)
  intro b3 w2 hb_b3 ew2 h3
  replace h3 : Box _ b3 25 [.int .u8 y.op, .string y.name, .int .i64 y.n, kvb] := h3
  replace h3 := h3.at (nM_of hlow hb_b3)
  replace hE := hE.trans (Below.mono ew2 hB)
  replace hx := Rep.ext hx ew2
  replace hka := hka.ext ew2
  replace hy := Rep.ext hy ew2
  replace hkb := hkb.ext ew2
  replace h2 := h2.ext ew2
  replace hlow := hlow.ext ew2
  replace hB := Nat.le_trans hB ew2.size
  refine l_p 1 tbOk rfl (q1 (q0 (l_p 1 tbOk rfl (q1 (c_ret (x_ret1 rfl rfl ?_))))))
  exact ⟨by simp [*], hE⟩

/-- rows of a relation. -/
theorem rows_of (less : Bool) (fd fl : Nat) (fod : FnOk Try.prog fd) (fol : FnOk Try.prog fl) (Hd : ∀ (x y : Ty) (M : Nat → Prop) (w : World) (v u : Value), Rep.R M w v x → Rep.R M w u y → Low M w → Calls Try.prog fd #[v, u] w (Ret fun r w' => r = .bool (dynF less x y) ∧ Ext w w')) (Hl : ∀ (x y : Ty) (M : Nat → Prop) (w : World) (v u : Value), Rep.R M w v x → Rep.R M w u y → Low M w → Calls Try.prog fl #[v, u] w (Ret fun r w' => r = .bool (!less && decide (y.op = 9)) ∧ Ext w w')) (a b : Ty) (IH : ∀ x y, psz x < psz a → rightB x = true → rightB y = true → psz y ≤ 2000000 → ∀ (M : Nat → Prop) (w : World) (v u : Value), Rep.R M w v x → Rep.R M w u y → Low M w → Calls Try.prog 105 #[.agg #[.func (.func fd) #[] #[], .func (.func fl) #[] #[]], v, u] w (Ret fun r w' => r = .bool (holdsF less x y) ∧ Ext w w')) (M : Nat → Prop) (w : World) (v u : Value) (hra : rowB a = true) (hrb : rowB b = true) (ha : Rep.R M w v a) (hb : Rep.R M w u b) (hlow : Low M w) (hza : psz a ≤ 2000000) (hzb : psz b ≤ 2000000) :
    Calls Try.prog 104 #[.agg #[.func (.func fd) #[] #[], .func (.func fl) #[] #[]], v, u] w (Ret fun r w' => r = .bool (rowsF less a b) ∧ Ext w w') := by
  have hE : Below w.heap.size w w := Below.refl _ _
  have hB : w.heap.size ≤ w.heap.size := Nat.le_refl _
  obtain ⟨kva, rfl, opa, nma, n64a, hka⟩ := ty_open ha
  obtain ⟨kvb, rfl, opb, nmb, n64b, hkb⟩ := ty_open hb
  refine c_enter (n := 124) Try.func104 rfl rfl rfl ?_
  refine q0 ?_
  refine l_cons (o_box rfl rfl rfl ?_)
  intro b3 w1 hb_b3 ew1 h3
  replace h3 := h3.at (nM_of hlow hb_b3)
  replace hE := hE.trans (Below.mono ew1 hB)
  replace ha := Rep.ext ha ew1
  replace hka := hka.ext ew1
  replace hb := Rep.ext hb ew1
  replace hkb := hkb.ext ew1
  replace hlow := hlow.ext ew1
  replace hB := Nat.le_trans hB ew1.size
  replace h3 : At _ _ b3 0 [.func (.func fd) #[] #[], .func (.func fl) #[] #[]] := h3
  refine l_cons (o_box rfl rfl rfl ?_)
  intro b4 w2 hb_b4 ew2 h4
  replace h4 : Box _ b4 25 [.int .u8 a.op, .string a.name, .int .i64 a.n, kva] := h4
  replace h4 := h4.at (nM_of hlow hb_b4)
  replace hE := hE.trans (Below.mono ew2 hB)
  replace ha := Rep.ext ha ew2
  replace hka := hka.ext ew2
  replace hb := Rep.ext hb ew2
  replace hkb := hkb.ext ew2
  replace h3 := h3.ext ew2
  replace hlow := hlow.ext ew2
  replace hB := Nat.le_trans hB ew2.size
  refine l_cons (o_box rfl rfl rfl ?_)
  intro b5 w3 hb_b5 ew3 h5
  replace h5 : Box _ b5 25 [.int .u8 b.op, .string b.name, .int .i64 b.n, kvb] := h5
  replace h5 := h5.at (nM_of hlow hb_b5)
  replace hE := hE.trans (Below.mono ew3 hB)
  replace ha := Rep.ext ha ew3
  replace hka := hka.ext ew3
  replace hb := Rep.ext hb ew3
  replace hkb := hkb.ext ew3
  replace h3 := h3.ext ew3
  replace h4 := h4.ext ew3
  replace hlow := hlow.ext ew3
  replace hB := Nat.le_trans hB ew3.size
  refine l_p 1 tbOk rfl (q1 (q0 ?_))
  refine l_cons (o_lds tbOk (fun j v hv => h4.cell j v hv) rfl rfl rfl rfl rfl rfl ?_)
  refine l_cons (o_call fo25 rfl rfl rfl (Flat_spec a _ _ _ ha hlow hza) ?_)
  rintro _ w4 ⟨⟨xl, vs, rfl, hfl, hvs⟩, ew4⟩
  obtain ⟨l, el⟩ : ∃ l, (flatF a).1 = l := ⟨_, rfl⟩
  rw [el] at hfl
  obtain ⟨s, es⟩ : ∃ l, (flatF a).2 = l := ⟨_, rfl⟩
  rw [es] at hvs
  have hsl : Srt l := el ▸ flt_srt a
  have hll : l.length ≤ 2000000 := by have := flt_len a; rw [el] at this; omega
  have hrl : ∀ f ∈ l, rightB f.ty = true ∧ psz f.ty < psz a := fun f hf => ⟨flt_right hra (by rw [el]; exact hf), flt_psz (t := a) (by rw [el]; exact hf)⟩
  replace hE := hE.trans (Below.mono ew4 hB)
  replace ha := Rep.ext ha ew4
  replace hka := hka.ext ew4
  replace hb := Rep.ext hb ew4
  replace hkb := hkb.ext ew4
  replace h3 := h3.ext ew4
  replace h4 := h4.ext ew4
  replace h5 := h5.ext ew4
  replace hlow := hlow.ext ew4
  replace hB := Nat.le_trans hB ew4.size
  obtain ⟨kvs, rfl, ops, nms, n64s, hks⟩ := ty_open hvs
  refine l_p 3 tbOk rfl ?_
  refine l_cons (o_new tbOk rfl rfl rfl ?_)
  intro b8 w5 qb8 ew5 hb8
  have nb8 := nM_of hlow qb8
  refine l_p 1 tbOk rfl ?_
  refine l_cons (o_st tbOk hb8 rfl rfl rfl rfl (Rep.one hvs) rfl rfl ?_)
  intro w6 h8 uw6 bew6
  have ew6 : Ext w4 w6 := ew5.trans (bew6 _ (Nat.le_of_eq qb8.symm))
  replace hE := hE.trans (Below.mono ew6 hB)
  replace ha := Rep.ext ha ew6
  replace hka := hka.ext ew6
  replace hb := Rep.ext hb ew6
  replace hkb := hkb.ext ew6
  replace h3 := h3.ext ew6
  replace h4 := h4.ext ew6
  replace h5 := h5.ext ew6
  replace hfl := hfl.ext ew6
  replace hvs := Rep.ext hvs ew6
  replace hks := hks.ext ew6
  replace hlow := hlow.ext ew6
  replace hB := Nat.le_trans hB ew6.size
  replace h8 : Box w6 b8 25 [.int .u8 s.op, .string s.name, .int .i64 s.n, kvs] := h8
  replace h8 := h8.at nb8
  refine q1 (q0 ?_)
  refine l_cons (o_lds tbOk (fun j v hv => h5.cell j v hv) rfl rfl rfl rfl rfl rfl ?_)
  refine l_cons (o_call fo25 rfl rfl rfl (Flat_spec b _ _ _ hb hlow hzb) ?_)
  rintro _ w7 ⟨⟨xm, vt, rfl, hfm, hvt⟩, ew7⟩
  obtain ⟨m, em⟩ : ∃ l, (flatF b).1 = l := ⟨_, rfl⟩
  rw [em] at hfm
  obtain ⟨t, et⟩ : ∃ l, (flatF b).2 = l := ⟨_, rfl⟩
  rw [et] at hvt
  have hsm : Srt m := em ▸ flt_srt b
  have hlm : m.length ≤ 2000000 := by have := flt_len b; rw [em] at this; omega
  have hrm : ∀ f ∈ m, rightB f.ty = true ∧ psz f.ty < psz b := fun f hf => ⟨flt_right hrb (by rw [em]; exact hf), flt_psz (t := b) (by rw [em]; exact hf)⟩
  replace hE := hE.trans (Below.mono ew7 hB)
  replace ha := Rep.ext ha ew7
  replace hka := hka.ext ew7
  replace hb := Rep.ext hb ew7
  replace hkb := hkb.ext ew7
  replace h3 := h3.ext ew7
  replace h4 := h4.ext ew7
  replace h5 := h5.ext ew7
  replace hfl := hfl.ext ew7
  replace hvs := Rep.ext hvs ew7
  replace hks := hks.ext ew7
  replace h8 := h8.ext ew7
  replace hlow := hlow.ext ew7
  replace hB := Nat.le_trans hB ew7.size
  obtain ⟨kvt, rfl, opt, nmt, n64t, hkt⟩ := ty_open hvt
  refine l_p 3 tbOk rfl ?_
  refine l_cons (o_new tbOk rfl rfl rfl ?_)
  intro b10 w8 qb10 ew8 hb10
  have nb10 := nM_of hlow qb10
  refine l_p 1 tbOk rfl ?_
  refine l_cons (o_st tbOk hb10 rfl rfl rfl rfl (Rep.one hvt) rfl rfl ?_)
  intro w9 h10 uw9 bew9
  have ew9 : Ext w7 w9 := ew8.trans (bew9 _ (Nat.le_of_eq qb10.symm))
  replace hE := hE.trans (Below.mono ew9 hB)
  replace ha := Rep.ext ha ew9
  replace hka := hka.ext ew9
  replace hb := Rep.ext hb ew9
  replace hkb := hkb.ext ew9
  replace h3 := h3.ext ew9
  replace h4 := h4.ext ew9
  replace h5 := h5.ext ew9
  replace hfl := hfl.ext ew9
  replace hvs := Rep.ext hvs ew9
  replace hks := hks.ext ew9
  replace h8 := h8.ext ew9
  replace hfm := hfm.ext ew9
  replace hvt := Rep.ext hvt ew9
  replace hkt := hkt.ext ew9
  replace hlow := hlow.ext ew9
  replace hB := Nat.le_trans hB ew9.size
  replace h10 : Box w9 b10 25 [.int .u8 t.op, .string t.name, .int .i64 t.n, kvt] := h10
  replace h10 := h10.at nb10
  refine q1 (q0 (l_p 2 tbOk rfl (q1 (c_seq (c_blk ?_)))))
  clear h4 ha hka
  refine c_loop2 (X := Nat) (Y := Nat) (fun i k => [(3, .pointer (some ⟨b3, 0, none⟩)), (5, .pointer (some ⟨b5, 0, none⟩)), (7, xl), (8, .pointer (some ⟨b8, 0, none⟩)), (9, xm), (10, .pointer (some ⟨b10, 0, none⟩)), (11, .int .i64 (i : Nat)), (12, .int .i64 (k : Nat))]) (fun i k w' => i ≤ l.length ∧ k ≤ m.length ∧ MrgI l m i k ∧ (∀ j, j < i → okL (holdsF less) l m t j = true) ∧ (∀ j, j < k → okM less l m s j = true) ∧ At M w' b3 0 [.func (.func fd) #[] #[], .func (.func fl) #[] #[]] ∧ At M w' b5 0 [.int .u8 b.op, .string b.name, .int .i64 b.n, kvb] ∧ At M w' b8 0 [.int .u8 s.op, .string s.name, .int .i64 s.n, kvs] ∧ At M w' b10 0 [.int .u8 t.op, .string t.name, .int .i64 t.n, kvt] ∧ Sl M w' xl l ∧ Sl M w' xm m ∧ Rep.R M w' (.agg #[.int .u8 b.op, .string b.name, .int .i64 b.n, kvb]) b ∧ Rep.R M w' (.agg #[.int .u8 s.op, .string s.name, .int .i64 s.n, kvs]) s ∧ Rep.R M w' (.agg #[.int .u8 t.op, .string t.name, .int .i64 t.n, kvt]) t ∧ Low M w' ∧ Below w.heap.size w w' ∧ w.heap.size ≤ w'.heap.size) (fun i k => l.length - i + (m.length - k)) (0) (0) (s8 rfl rfl rfl rfl rfl rfl rfl rfl) ?_ ?_
  · exact ⟨Nat.zero_le _, Nat.zero_le _, MrgI.start l m, fun j h => absurd h (Nat.not_lt_zero _), fun j h => absurd h (Nat.not_lt_zero _), h3, h5, h8, h10, hfl, hfm, hb, hvs, hvt, hlow, hE, hB⟩
  rintro i k w10 ⟨hi, hk, hmg, hokl, hokm, h3, h5, h8, h10, hfl, hfm, hb, hvs, hvt, hlow, hE, hB⟩
  refine c_seq (q0 (l_p 2 tbOk rfl ?_))
  refine l_cons (o_len tbOk hfl rfl rfl rfl rfl rfl ?_)
  refine l_p 2 tbOk rfl ?_
  refine l_splitP 27 _ rfl (fun hA => ?_) (fun hA => ?_)
  · have hil : i < l.length := by omega
    refine l_p 5 tbOk rfl (q1 (c_ifT rfl (c_skip (x_seq (c_blk (c_blk (c_seq ?_)))))))
    refine a_beg Ext rfl ?_
    intro w11 ew11
    replace hE := hE.trans (Below.mono ew11 hB)
    replace h3 := h3.ext ew11
    replace h5 := h5.ext ew11
    replace h8 := h8.ext ew11
    replace h10 := h10.ext ew11
    replace hfl := hfl.ext ew11
    replace hfm := hfm.ext ew11
    replace hb := Rep.ext hb ew11
    replace hvs := Rep.ext hvs ew11
    replace hvt := Rep.ext hvt ew11
    replace hlow := hlow.ext ew11
    replace hB := Nat.le_trans hB ew11.size
    have hS : Ext w11 w11 := ext_refl _
    have D_h3 := h3
    have D_h5 := h5
    have D_h8 := h8
    have D_h10 := h10
    have D_hfl := hfl
    have D_hfm := hfm
    refine a_p 0 tbOk rfl rfl rfl rfl (by kernel_rfl) (fun _ _ _ h => h) hS ?_
    refine a_p 1 tbOk rfl rfl rfl rfl (by kernel_rfl) (fun _ _ _ h => h) hS ?_
    refine a_len 2 tbOk hfm rfl rfl rfl rfl rfl rfl (by kernel_rfl) (fun _ _ _ h => h) hS ?_
    refine a_p 3 tbOk rfl rfl rfl rfl (by kernel_rfl) (fun _ _ _ h => h) hS ?_
    refine a_p 4 tbOk rfl rfl rfl rfl (by kernel_rfl) (fun _ _ _ h => h) hS ?_
    refine a_splitP 55 _ rfl (fun hke => ?_) (fun hke => ?_)
    · have hst := hmg.stepL hsm hil (.inl (by omega))
      refine a_skip 5 rfl rfl rfl (by kernel_rfl) (fun _ _ _ h => h) hS ?_
      refine a_skip 6 rfl rfl rfl (by kernel_rfl) (fun _ _ _ h => h) hS ?_
      refine a_skip 7 rfl rfl rfl (by kernel_rfl) (fun _ _ _ h => h) hS ?_
      refine a_skip 8 rfl rfl rfl (by kernel_rfl) (fun _ _ _ h => h) hS ?_
      refine a_skip 9 rfl rfl rfl (by kernel_rfl) (fun _ _ _ h => h) hS ?_
      refine a_skip 10 rfl rfl rfl (by kernel_rfl) (fun _ _ _ h => h) hS ?_
      refine a_skip 11 rfl rfl rfl (by kernel_rfl) (fun _ _ _ h => h) hS ?_
      refine a_skip 12 rfl rfl rfl (by kernel_rfl) (fun _ _ _ h => h) hS ?_
      refine a_skip 13 rfl rfl rfl (by kernel_rfl) (fun _ _ _ h => h) hS ?_
      refine a_skip 14 rfl rfl rfl (by kernel_rfl) (fun _ _ _ h => h) hS ?_
      refine a_skip 15 rfl rfl rfl (by kernel_rfl) (fun _ _ _ h => h) hS ?_
      refine a_skip 16 rfl rfl rfl (by kernel_rfl) (fun _ _ _ h => h) hS ?_
      refine a_skip 17 rfl rfl rfl (by kernel_rfl) (fun _ _ _ h => h) hS ?_
      refine a_skip 18 rfl rfl rfl (by kernel_rfl) (fun _ _ _ h => h) hS ?_
      refine a_skip 19 rfl rfl rfl (by kernel_rfl) (fun _ _ _ h => h) hS ?_
      refine a_skip 20 rfl rfl rfl (by kernel_rfl) (fun _ _ _ h => h) hS ?_
      refine a_skip 21 rfl rfl rfl (by kernel_rfl) (fun _ _ _ h => h) hS ?_
      refine a_p 22 tbOk rfl rfl rfl rfl (by kernel_rfl) (fun _ _ _ h => h) hS ?_
      refine a_p 23 tbOk rfl rfl rfl rfl (by kernel_rfl) (fun _ _ _ h => h) hS ?_
      refine a_end (by kernel_rfl) ?_
      refine x_seq (c_ifT rfl (c_seq (q0 (l_p 1 tbOk rfl ?_))))
      refine l_cons (o_ld tbOk (h10.cell 0 _ rfl) rfl rfl rfl rfl rfl ?_)
      refine l_p 1 tbOk rfl (q1 ?_)
      refine c_ifN _ rfl (fun hto => ?_) (fun hto => ?_)
      · refine q0 (l_p 1 tbOk rfl (q1 (c_ret (x_seqR (x_blkR (x_blkR (x_seqR (x_blkR (x_seqR (x_ret1 rfl rfl ?_))))))))))
        rw [rows_noL el em hil (by rw [et, okL_no hil hst.2]; exact decide_eq_false hto)]
        exact ⟨rfl, hE⟩
      refine c_skip (x_seq (c_reg (l_p 1 tbOk rfl ?_)))
      refine l_cons (o_ar rfl rfl rfl (IntWalk.i64_in _ (by omega)) rfl rfl ?_)
      refine l_p 1 tbOk rfl (q2 (x_blk ?_))
      exact x_round2 (i + 1) (k) (s8 rfl rfl rfl rfl rfl rfl (get_num rfl (by omega)) rfl) ⟨by omega, by omega, hst.1, ok_step hokl (by rw [okL_no hil hst.2]; exact decide_eq_true hto), hokm, h3, h5, h8, h10, hfl, hfm, hb, hvs, hvt, hlow, hE, hB⟩ (by omega)
    have hkl : k < m.length := by omega
    refine a_p 5 tbOk rfl rfl rfl rfl (by kernel_rfl) (fun _ _ _ h => h) hS ?_
    refine a_p 6 tbOk rfl rfl rfl rfl (by kernel_rfl) (fun _ _ _ h => h) hS ?_
    refine a_len 7 tbOk hfl rfl rfl rfl rfl rfl rfl (by kernel_rfl) (fun _ _ _ h => h) hS ?_
    refine a_p 8 tbOk rfl rfl rfl rfl (by kernel_rfl) (fun _ _ _ h => h) hS ?_
    refine a_p 9 tbOk rfl rfl rfl rfl (by kernel_rfl) (fun _ _ _ h => h) hS ?_
    refine a_splitP 60 _ rfl (fun hib => ?_) (fun hib => ?_)
    · refine a_p 10 tbOk rfl rfl rfl rfl (by kernel_rfl) (fun _ _ _ h => h) hS ?_
      refine a_p 11 tbOk rfl rfl rfl rfl (by kernel_rfl) (fun _ _ _ h => h) hS ?_
      refine a_ixS 12 tbOk D_hfl (List.getElem?_eq_getElem hil) rfl rfl rfl rfl rfl rfl rfl rfl rfl rfl (by kernel_rfl) (fun _ _ _ _ h => h) hS ?_
      intro ebq0 eoq0 euq0 hrq0 hatq0
      obtain ⟨szq0, kvq0, rfl, hyq0⟩ := fld_open hrq0
      replace hatq0 : At _ w11 ebq0 eoq0 [.string l[i].name, .int .u8 l[i].ty.op, .string l[i].ty.name, .int .i64 l[i].ty.n, kvq0] := hatq0
      refine a_p 13 tbOk rfl rfl rfl rfl (by kernel_rfl) (fun _ _ _ h => h) hS ?_
      refine a_ld 14 tbOk (fun _ hs => (hatq0.ext hs).cell 0 _ rfl) rfl rfl rfl rfl rfl rfl (by kernel_rfl) (fun _ _ _ h => h) hS ?_
      refine a_p 15 tbOk rfl rfl rfl rfl (by kernel_rfl) (fun _ _ _ h => h) hS ?_
      refine a_p 16 tbOk rfl rfl rfl rfl (by kernel_rfl) (fun _ _ _ h => h) hS ?_
      refine a_ixS 17 tbOk D_hfm (List.getElem?_eq_getElem hkl) rfl rfl rfl rfl rfl rfl rfl rfl rfl rfl (by kernel_rfl) (fun _ _ _ _ h => h) hS ?_
      intro ebq1 eoq1 euq1 hrq1 hatq1
      obtain ⟨szq1, kvq1, rfl, hyq1⟩ := fld_open hrq1
      replace hatq1 : At _ w11 ebq1 eoq1 [.string m[k].name, .int .u8 m[k].ty.op, .string m[k].ty.name, .int .i64 m[k].ty.n, kvq1] := hatq1
      refine a_p 18 tbOk rfl rfl rfl rfl (by kernel_rfl) (fun _ _ _ h => h) hS ?_
      refine a_ld 19 tbOk (fun _ hs => (hatq1.ext hs).cell 0 _ rfl) rfl rfl rfl rfl rfl rfl (by kernel_rfl) (fun _ _ _ h => h) hS ?_
      refine a_p 20 tbOk rfl rfl rfl rfl (by kernel_rfl) (fun _ _ _ h => h) hS ?_
      refine a_p 21 tbOk rfl rfl rfl rfl (by kernel_rfl) (fun _ _ _ h => h) hS ?_
      refine a_p 22 tbOk rfl rfl rfl rfl (by kernel_rfl) (fun _ _ _ h => h) hS ?_
      refine a_p 23 tbOk rfl rfl rfl rfl (by kernel_rfl) (fun _ _ _ h => h) hS ?_
      refine a_end (by kernel_rfl) ?_
      refine x_seq ?_
      refine c_if _ rfl (fun hlt => ?_) (fun hlt => ?_)
      · rw [sLt_cmpN] at hlt
        replace hlt := of_decide_eq_true hlt
        have hst := hmg.stepL hsm hil (.inr ⟨hkl, hlt⟩)
        refine c_seq (q0 (l_p 1 tbOk rfl ?_))
        refine l_cons (o_ld tbOk (h10.cell 0 _ rfl) rfl rfl rfl rfl rfl ?_)
        refine l_p 1 tbOk rfl (q1 ?_)
        refine c_ifN _ rfl (fun hto => ?_) (fun hto => ?_)
        · refine q0 (l_p 1 tbOk rfl (q1 (c_ret (x_seqR (x_blkR (x_blkR (x_seqR (x_blkR (x_seqR (x_ret1 rfl rfl ?_))))))))))
          rw [rows_noL el em hil (by rw [et, okL_no hil hst.2]; exact decide_eq_false hto)]
          exact ⟨rfl, hE⟩
        refine c_skip (x_seq (c_reg (l_p 1 tbOk rfl ?_)))
        refine l_cons (o_ar rfl rfl rfl (IntWalk.i64_in _ (by omega)) rfl rfl ?_)
        refine l_p 1 tbOk rfl (q2 (x_blk ?_))
        exact x_round2 (i + 1) (k) (s8 rfl rfl rfl rfl rfl rfl (get_num rfl (by omega)) rfl) ⟨by omega, by omega, hst.1, ok_step hokl (by rw [okL_no hil hst.2]; exact decide_eq_true hto), hokm, h3, h5, h8, h10, hfl, hfm, hb, hvs, hvt, hlow, hE, hB⟩ (by omega)
      rw [sLt_cmpN] at hlt
      replace hlt := of_decide_eq_false hlt
      refine c_seq ?_
      refine a_beg Ext rfl ?_
      intro w12 ew12
      replace hE := hE.trans (Below.mono ew12 hB)
      replace h3 := h3.ext ew12
      replace h5 := h5.ext ew12
      replace h8 := h8.ext ew12
      replace h10 := h10.ext ew12
      replace hfl := hfl.ext ew12
      replace hfm := hfm.ext ew12
      replace hb := Rep.ext hb ew12
      replace hvs := Rep.ext hvs ew12
      replace hvt := Rep.ext hvt ew12
      replace hrq0 := Rep.ext hrq0 ew12
      replace hyq0 := Rep.ext hyq0 ew12
      replace hatq0 := hatq0.ext ew12
      replace hrq1 := Rep.ext hrq1 ew12
      replace hyq1 := Rep.ext hyq1 ew12
      replace hatq1 := hatq1.ext ew12
      replace hlow := hlow.ext ew12
      replace hB := Nat.le_trans hB ew12.size
      have hS : Ext w12 w12 := ext_refl _
      have D_h3 := h3
      have D_h5 := h5
      have D_h8 := h8
      have D_h10 := h10
      have D_hfl := hfl
      have D_hfm := hfm
      have D_hatq0 := hatq0
      have D_hatq1 := hatq1
      refine a_p 0 tbOk rfl rfl rfl rfl (by kernel_rfl) (fun _ _ _ h => h) hS ?_
      refine a_p 1 tbOk rfl rfl rfl rfl (by kernel_rfl) (fun _ _ _ h => h) hS ?_
      refine a_len 2 tbOk hfl rfl rfl rfl rfl rfl rfl (by kernel_rfl) (fun _ _ _ h => h) hS ?_
      refine a_p 3 tbOk rfl rfl rfl rfl (by kernel_rfl) (fun _ _ _ h => h) hS ?_
      refine a_p 4 tbOk rfl rfl rfl rfl (by kernel_rfl) (fun _ _ _ h => h) hS ?_
      refine a_splitP 84 _ rfl (fun hie => ?_) (fun hie => ?_)
      · exact absurd hie (by omega)
      refine a_p 5 tbOk rfl rfl rfl rfl (by kernel_rfl) (fun _ _ _ h => h) hS ?_
      refine a_p 6 tbOk rfl rfl rfl rfl (by kernel_rfl) (fun _ _ _ h => h) hS ?_
      refine a_ixS 7 tbOk D_hfm (List.getElem?_eq_getElem hkl) rfl rfl rfl rfl rfl rfl rfl rfl rfl rfl (by kernel_rfl) (fun _ _ _ _ h => h) hS ?_
      intro ebq2 eoq2 euq2 hrq2 hatq2
      obtain ⟨szq2, kvq2, rfl, hyq2⟩ := fld_open hrq2
      replace hatq2 : At _ w12 ebq2 eoq2 [.string m[k].name, .int .u8 m[k].ty.op, .string m[k].ty.name, .int .i64 m[k].ty.n, kvq2] := hatq2
      refine a_p 8 tbOk rfl rfl rfl rfl (by kernel_rfl) (fun _ _ _ h => h) hS ?_
      refine a_ld 9 tbOk (fun _ hs => (hatq2.ext hs).cell 0 _ rfl) rfl rfl rfl rfl rfl rfl (by kernel_rfl) (fun _ _ _ h => h) hS ?_
      refine a_p 10 tbOk rfl rfl rfl rfl (by kernel_rfl) (fun _ _ _ h => h) hS ?_
      refine a_p 11 tbOk rfl rfl rfl rfl (by kernel_rfl) (fun _ _ _ h => h) hS ?_
      refine a_ixS 12 tbOk D_hfl (List.getElem?_eq_getElem hil) rfl rfl rfl rfl rfl rfl rfl rfl rfl rfl (by kernel_rfl) (fun _ _ _ _ h => h) hS ?_
      intro ebq3 eoq3 euq3 hrq3 hatq3
      obtain ⟨szq3, kvq3, rfl, hyq3⟩ := fld_open hrq3
      replace hatq3 : At _ w12 ebq3 eoq3 [.string l[i].name, .int .u8 l[i].ty.op, .string l[i].ty.name, .int .i64 l[i].ty.n, kvq3] := hatq3
      refine a_p 13 tbOk rfl rfl rfl rfl (by kernel_rfl) (fun _ _ _ h => h) hS ?_
      refine a_ld 14 tbOk (fun _ hs => (hatq3.ext hs).cell 0 _ rfl) rfl rfl rfl rfl rfl rfl (by kernel_rfl) (fun _ _ _ h => h) hS ?_
      refine a_p 15 tbOk rfl rfl rfl rfl (by kernel_rfl) (fun _ _ _ h => h) hS ?_
      refine a_p 16 tbOk rfl rfl rfl rfl (by kernel_rfl) (fun _ _ _ h => h) hS ?_
      refine a_p 17 tbOk rfl rfl rfl rfl (by kernel_rfl) (fun _ _ _ h => h) hS ?_
      refine a_end (by kernel_rfl) ?_
      refine x_seq ?_
      refine c_if _ rfl (fun hlt2 => ?_) (fun hlt2 => ?_)
      · rw [sLt_cmpN] at hlt2
        replace hlt2 := of_decide_eq_true hlt2
        have hst := hmg.symm.stepL hsl hkl (.inr ⟨hil, hlt2⟩)
        refine c_seq (q0 (l_p 1 tbOk rfl ?_))
        refine l_cons (o_ld tbOk (h3.cell 1 _ rfl) rfl rfl rfl rfl rfl ?_)
        refine l_cons (o_lds tbOk (fun j v hv => h5.cell j v hv) rfl rfl rfl rfl rfl rfl ?_)
        refine l_cons (o_lds tbOk (fun j v hv => h8.cell j v hv) rfl rfl rfl rfl rfl rfl ?_)
        refine l_cons (o_dyn rfl fol rfl rfl rfl (Hl b s M _ _ _ hb hvs hlow) ?_)
        rintro _ w13 ⟨rfl, ew13⟩
        replace hE := hE.trans (Below.mono ew13 hB)
        replace h3 := h3.ext ew13
        replace h5 := h5.ext ew13
        replace h8 := h8.ext ew13
        replace h10 := h10.ext ew13
        replace hfl := hfl.ext ew13
        replace hfm := hfm.ext ew13
        replace hb := Rep.ext hb ew13
        replace hvs := Rep.ext hvs ew13
        replace hvt := Rep.ext hvt ew13
        replace hrq0 := Rep.ext hrq0 ew13
        replace hyq0 := Rep.ext hyq0 ew13
        replace hatq0 := hatq0.ext ew13
        replace hrq1 := Rep.ext hrq1 ew13
        replace hyq1 := Rep.ext hyq1 ew13
        replace hatq1 := hatq1.ext ew13
        replace hrq2 := Rep.ext hrq2 ew13
        replace hyq2 := Rep.ext hyq2 ew13
        replace hatq2 := hatq2.ext ew13
        replace hrq3 := Rep.ext hrq3 ew13
        replace hyq3 := Rep.ext hyq3 ew13
        replace hatq3 := hatq3.ext ew13
        replace hlow := hlow.ext ew13
        replace hB := Nat.le_trans hB ew13.size
        refine l_p 1 tbOk rfl (q1 ?_)
        refine c_ifB _ rfl (fun hlf => ?_) (fun hlf => ?_)
        · refine q0 (l_p 1 tbOk rfl (q1 (c_ret (x_seqR (x_blkR (x_blkR (x_seqR (x_blkR (x_seqR (x_ret1 rfl rfl ?_))))))))))
          rw [rows_noM el em hkl (by rw [es, okM_no hkl hst.2]; exact hlf)]
          exact ⟨rfl, hE⟩
        refine c_skip (x_seq (c_reg (l_p 1 tbOk rfl ?_)))
        refine l_cons (o_ar rfl rfl rfl (IntWalk.i64_in _ (by omega)) rfl rfl ?_)
        refine l_p 1 tbOk rfl (q2 (x_blk ?_))
        exact x_round2 (i) (k + 1) (s8 rfl rfl rfl rfl rfl rfl rfl (get_num rfl (by omega))) ⟨by omega, by omega, hst.1.symm, hokl, ok_step hokm (by rw [okM_no hkl hst.2]; exact hlf), h3, h5, h8, h10, hfl, hfm, hb, hvs, hvt, hlow, hE, hB⟩ (by omega)
      rw [sLt_cmpN] at hlt2
      replace hlt2 := of_decide_eq_false hlt2
      obtain ⟨hst, hidx, hcl, hcm⟩ := hmg.stepB hsm hil hkl (names_eq hlt hlt2)
      refine c_seq (c_seq ?_)
      refine a_beg Ext rfl ?_
      intro w14 ew14
      replace hE := hE.trans (Below.mono ew14 hB)
      replace h3 := h3.ext ew14
      replace h5 := h5.ext ew14
      replace h8 := h8.ext ew14
      replace h10 := h10.ext ew14
      replace hfl := hfl.ext ew14
      replace hfm := hfm.ext ew14
      replace hb := Rep.ext hb ew14
      replace hvs := Rep.ext hvs ew14
      replace hvt := Rep.ext hvt ew14
      replace hrq0 := Rep.ext hrq0 ew14
      replace hyq0 := Rep.ext hyq0 ew14
      replace hatq0 := hatq0.ext ew14
      replace hrq1 := Rep.ext hrq1 ew14
      replace hyq1 := Rep.ext hyq1 ew14
      replace hatq1 := hatq1.ext ew14
      replace hrq2 := Rep.ext hrq2 ew14
      replace hyq2 := Rep.ext hyq2 ew14
      replace hatq2 := hatq2.ext ew14
      replace hrq3 := Rep.ext hrq3 ew14
      replace hyq3 := Rep.ext hyq3 ew14
      replace hatq3 := hatq3.ext ew14
      replace hlow := hlow.ext ew14
      replace hB := Nat.le_trans hB ew14.size
      have hS : Ext w14 w14 := ext_refl _
      have D_h3 := h3
      have D_h5 := h5
      have D_h8 := h8
      have D_h10 := h10
      have D_hfl := hfl
      have D_hfm := hfm
      have D_hatq0 := hatq0
      have D_hatq1 := hatq1
      have D_hatq2 := hatq2
      have D_hatq3 := hatq3
      refine a_lds 0 tbOk (fun _ hs j v hv => (D_h3.ext hs).cell j v hv) rfl rfl rfl rfl rfl rfl rfl (by kernel_rfl) (fun _ _ _ h => h) hS ?_
      refine a_p 1 tbOk rfl rfl rfl rfl (by kernel_rfl) (fun _ _ _ h => h) hS ?_
      refine a_p 2 tbOk rfl rfl rfl rfl (by kernel_rfl) (fun _ _ _ h => h) hS ?_
      refine a_ixS 3 tbOk D_hfl (List.getElem?_eq_getElem hil) rfl rfl rfl rfl rfl rfl rfl rfl rfl rfl (by kernel_rfl) (fun _ _ _ _ h => h) hS ?_
      intro ebq4 eoq4 euq4 hrq4 hatq4
      obtain ⟨szq4, kvq4, rfl, hyq4⟩ := fld_open hrq4
      replace hatq4 : At _ w14 ebq4 eoq4 [.string l[i].name, .int .u8 l[i].ty.op, .string l[i].ty.name, .int .i64 l[i].ty.n, kvq4] := hatq4
      refine a_p 4 tbOk rfl rfl rfl rfl (by kernel_rfl) (fun _ _ _ h => h) hS ?_
      refine a_lds 5 tbOk (fun _ hs j v hv => ((hatq4.ext hs)).drop 1 (sub := [.int .u8 l[i].ty.op, .string l[i].ty.name, .int .i64 l[i].ty.n, kvq4]) rfl j v hv) rfl rfl rfl rfl rfl rfl rfl (by kernel_rfl) (fun _ _ _ h => h) hS ?_
      refine a_p 6 tbOk rfl rfl rfl rfl (by kernel_rfl) (fun _ _ _ h => h) hS ?_
      refine a_p 7 tbOk rfl rfl rfl rfl (by kernel_rfl) (fun _ _ _ h => h) hS ?_
      refine a_ixS 8 tbOk D_hfm (List.getElem?_eq_getElem hkl) rfl rfl rfl rfl rfl rfl rfl rfl rfl rfl (by kernel_rfl) (fun _ _ _ _ h => h) hS ?_
      intro ebq5 eoq5 euq5 hrq5 hatq5
      obtain ⟨szq5, kvq5, rfl, hyq5⟩ := fld_open hrq5
      replace hatq5 : At _ w14 ebq5 eoq5 [.string m[k].name, .int .u8 m[k].ty.op, .string m[k].ty.name, .int .i64 m[k].ty.n, kvq5] := hatq5
      refine a_p 9 tbOk rfl rfl rfl rfl (by kernel_rfl) (fun _ _ _ h => h) hS ?_
      refine a_lds 10 tbOk (fun _ hs j v hv => ((hatq5.ext hs)).drop 1 (sub := [.int .u8 m[k].ty.op, .string m[k].ty.name, .int .i64 m[k].ty.n, kvq5]) rfl j v hv) rfl rfl rfl rfl rfl rfl rfl (by kernel_rfl) (fun _ _ _ h => h) hS ?_
      refine a_bar 11 rfl (by kernel_rfl) (by kernel_rfl) (o_call fo105 rfl rfl rfl (IH l[i].ty m[k].ty (by have := (hrl _ (List.getElem_mem hil)).2; omega) (hrl _ (List.getElem_mem hil)).1 (hrm _ (List.getElem_mem hkl)).1 (by have := (hrm _ (List.getElem_mem hkl)).2; omega) M _ _ _ hyq4 hyq5 hlow) ?_)
      rintro _ w15 ⟨rfl, ew15⟩
      replace hS := hS.then ew15
      replace hE := hE.trans (Below.mono ew15 hB)
      replace h3 := h3.ext ew15
      replace h5 := h5.ext ew15
      replace h8 := h8.ext ew15
      replace h10 := h10.ext ew15
      replace hfl := hfl.ext ew15
      replace hfm := hfm.ext ew15
      replace hb := Rep.ext hb ew15
      replace hvs := Rep.ext hvs ew15
      replace hvt := Rep.ext hvt ew15
      replace hrq0 := Rep.ext hrq0 ew15
      replace hyq0 := Rep.ext hyq0 ew15
      replace hatq0 := hatq0.ext ew15
      replace hrq1 := Rep.ext hrq1 ew15
      replace hyq1 := Rep.ext hyq1 ew15
      replace hatq1 := hatq1.ext ew15
      replace hrq2 := Rep.ext hrq2 ew15
      replace hyq2 := Rep.ext hyq2 ew15
      replace hatq2 := hatq2.ext ew15
      replace hrq3 := Rep.ext hrq3 ew15
      replace hyq3 := Rep.ext hyq3 ew15
      replace hatq3 := hatq3.ext ew15
      replace hrq4 := Rep.ext hrq4 ew15
      replace hyq4 := Rep.ext hyq4 ew15
      replace hatq4 := hatq4.ext ew15
      replace hrq5 := Rep.ext hrq5 ew15
      replace hyq5 := Rep.ext hyq5 ew15
      replace hatq5 := hatq5.ext ew15
      replace hlow := hlow.ext ew15
      replace hB := Nat.le_trans hB ew15.size
      refine a_p 12 tbOk rfl rfl rfl rfl (by kernel_rfl) (fun _ _ _ h => h) hS ?_
      refine a_end (by kernel_rfl) ?_
      refine x_seq ?_
      refine c_ifB _ rfl (fun hho => ?_) (fun hho => ?_)
      · refine q0 (l_p 1 tbOk rfl (q1 (c_ret (x_seqR (x_blkR (x_blkR (x_seqR (x_blkR (x_seqR (x_ret1 rfl rfl ?_))))))))))
        rw [rows_noL el em hil (by rw [et, okL_yes hil hkl hcl hidx]; exact hho)]
        exact ⟨rfl, hE⟩
      refine c_skip (x_seq (c_reg (l_p 1 tbOk rfl ?_)))
      refine l_cons (o_ar rfl rfl rfl (IntWalk.i64_in _ (by omega)) rfl rfl ?_)
      refine l_p 1 tbOk rfl ?_
      refine l_cons (o_ar rfl rfl rfl (IntWalk.i64_in _ (by omega)) rfl rfl ?_)
      refine l_p 2 tbOk rfl (q2 (x_blk ?_))
      exact x_round2 (i + 1) (k + 1) (s8 rfl rfl rfl rfl rfl rfl (get_num rfl (by omega)) (get_num rfl (by omega))) ⟨by omega, by omega, hst, ok_step hokl (by rw [okL_yes hil hkl hcl hidx]; exact hho), ok_step hokm (okM_yes hkl hcm), h3, h5, h8, h10, hfl, hfm, hb, hvs, hvt, hlow, hE, hB⟩ (by omega)
    exact absurd hA (by omega)
  refine l_p 2 tbOk rfl ?_
  refine l_cons (o_len tbOk hfm rfl rfl rfl rfl rfl ?_)
  refine l_p 2 tbOk rfl (q1 ?_)
  refine c_ifP _ rfl (fun hkB => ?_) (fun hkB => ?_)
  · have hkl : k < m.length := by omega
    refine c_skip (x_seq (c_blk (c_blk (c_seq ?_))))
    refine a_beg Ext rfl ?_
    intro w16 ew16
    replace hE := hE.trans (Below.mono ew16 hB)
    replace h3 := h3.ext ew16
    replace h5 := h5.ext ew16
    replace h8 := h8.ext ew16
    replace h10 := h10.ext ew16
    replace hfl := hfl.ext ew16
    replace hfm := hfm.ext ew16
    replace hb := Rep.ext hb ew16
    replace hvs := Rep.ext hvs ew16
    replace hvt := Rep.ext hvt ew16
    replace hlow := hlow.ext ew16
    replace hB := Nat.le_trans hB ew16.size
    have hS : Ext w16 w16 := ext_refl _
    have D_h3 := h3
    have D_h5 := h5
    have D_h8 := h8
    have D_h10 := h10
    have D_hfl := hfl
    have D_hfm := hfm
    refine a_p 0 tbOk rfl rfl rfl rfl (by kernel_rfl) (fun _ _ _ h => h) hS ?_
    refine a_p 1 tbOk rfl rfl rfl rfl (by kernel_rfl) (fun _ _ _ h => h) hS ?_
    refine a_len 2 tbOk hfm rfl rfl rfl rfl rfl rfl (by kernel_rfl) (fun _ _ _ h => h) hS ?_
    refine a_p 3 tbOk rfl rfl rfl rfl (by kernel_rfl) (fun _ _ _ h => h) hS ?_
    refine a_p 4 tbOk rfl rfl rfl rfl (by kernel_rfl) (fun _ _ _ h => h) hS ?_
    refine a_splitP 55 _ rfl (fun hke => ?_) (fun hke => ?_)
    · exact absurd hke (by omega)
    have hkl : k < m.length := by omega
    refine a_p 5 tbOk rfl rfl rfl rfl (by kernel_rfl) (fun _ _ _ h => h) hS ?_
    refine a_p 6 tbOk rfl rfl rfl rfl (by kernel_rfl) (fun _ _ _ h => h) hS ?_
    refine a_len 7 tbOk hfl rfl rfl rfl rfl rfl rfl (by kernel_rfl) (fun _ _ _ h => h) hS ?_
    refine a_p 8 tbOk rfl rfl rfl rfl (by kernel_rfl) (fun _ _ _ h => h) hS ?_
    refine a_p 9 tbOk rfl rfl rfl rfl (by kernel_rfl) (fun _ _ _ h => h) hS ?_
    refine a_splitP 60 _ rfl (fun hib => ?_) (fun hib => ?_)
    · exact absurd hib (by omega)
    refine a_skip 10 rfl rfl rfl (by kernel_rfl) (fun _ _ _ h => h) hS ?_
    refine a_skip 11 rfl rfl rfl (by kernel_rfl) (fun _ _ _ h => h) hS ?_
    refine a_skip 12 rfl rfl rfl (by kernel_rfl) (fun _ _ _ h => h) hS ?_
    refine a_skip 13 rfl rfl rfl (by kernel_rfl) (fun _ _ _ h => h) hS ?_
    refine a_skip 14 rfl rfl rfl (by kernel_rfl) (fun _ _ _ h => h) hS ?_
    refine a_skip 15 rfl rfl rfl (by kernel_rfl) (fun _ _ _ h => h) hS ?_
    refine a_skip 16 rfl rfl rfl (by kernel_rfl) (fun _ _ _ h => h) hS ?_
    refine a_skip 17 rfl rfl rfl (by kernel_rfl) (fun _ _ _ h => h) hS ?_
    refine a_skip 18 rfl rfl rfl (by kernel_rfl) (fun _ _ _ h => h) hS ?_
    refine a_skip 19 rfl rfl rfl (by kernel_rfl) (fun _ _ _ h => h) hS ?_
    refine a_skip 20 rfl rfl rfl (by kernel_rfl) (fun _ _ _ h => h) hS ?_
    refine a_p 21 tbOk rfl rfl rfl rfl (by kernel_rfl) (fun _ _ _ h => h) hS ?_
    refine a_p 22 tbOk rfl rfl rfl rfl (by kernel_rfl) (fun _ _ _ h => h) hS ?_
    refine a_p 23 tbOk rfl rfl rfl rfl (by kernel_rfl) (fun _ _ _ h => h) hS ?_
    refine a_end (by kernel_rfl) ?_
    refine x_seq (c_ifF rfl (c_seq ?_))
    refine a_beg Ext rfl ?_
    intro w17 ew17
    replace hE := hE.trans (Below.mono ew17 hB)
    replace h3 := h3.ext ew17
    replace h5 := h5.ext ew17
    replace h8 := h8.ext ew17
    replace h10 := h10.ext ew17
    replace hfl := hfl.ext ew17
    replace hfm := hfm.ext ew17
    replace hb := Rep.ext hb ew17
    replace hvs := Rep.ext hvs ew17
    replace hvt := Rep.ext hvt ew17
    replace hlow := hlow.ext ew17
    replace hB := Nat.le_trans hB ew17.size
    have hS : Ext w17 w17 := ext_refl _
    have D_h3 := h3
    have D_h5 := h5
    have D_h8 := h8
    have D_h10 := h10
    have D_hfl := hfl
    have D_hfm := hfm
    refine a_p 0 tbOk rfl rfl rfl rfl (by kernel_rfl) (fun _ _ _ h => h) hS ?_
    refine a_p 1 tbOk rfl rfl rfl rfl (by kernel_rfl) (fun _ _ _ h => h) hS ?_
    refine a_len 2 tbOk hfl rfl rfl rfl rfl rfl rfl (by kernel_rfl) (fun _ _ _ h => h) hS ?_
    refine a_p 3 tbOk rfl rfl rfl rfl (by kernel_rfl) (fun _ _ _ h => h) hS ?_
    refine a_p 4 tbOk rfl rfl rfl rfl (by kernel_rfl) (fun _ _ _ h => h) hS ?_
    refine a_splitP 84 _ rfl (fun hie => ?_) (fun hie => ?_)
    · have hst := hmg.symm.stepL hsl hkl (.inl (by omega))
      refine a_skip 5 rfl rfl rfl (by kernel_rfl) (fun _ _ _ h => h) hS ?_
      refine a_skip 6 rfl rfl rfl (by kernel_rfl) (fun _ _ _ h => h) hS ?_
      refine a_skip 7 rfl rfl rfl (by kernel_rfl) (fun _ _ _ h => h) hS ?_
      refine a_skip 8 rfl rfl rfl (by kernel_rfl) (fun _ _ _ h => h) hS ?_
      refine a_skip 9 rfl rfl rfl (by kernel_rfl) (fun _ _ _ h => h) hS ?_
      refine a_skip 10 rfl rfl rfl (by kernel_rfl) (fun _ _ _ h => h) hS ?_
      refine a_skip 11 rfl rfl rfl (by kernel_rfl) (fun _ _ _ h => h) hS ?_
      refine a_skip 12 rfl rfl rfl (by kernel_rfl) (fun _ _ _ h => h) hS ?_
      refine a_skip 13 rfl rfl rfl (by kernel_rfl) (fun _ _ _ h => h) hS ?_
      refine a_skip 14 rfl rfl rfl (by kernel_rfl) (fun _ _ _ h => h) hS ?_
      refine a_skip 15 rfl rfl rfl (by kernel_rfl) (fun _ _ _ h => h) hS ?_
      refine a_p 16 tbOk rfl rfl rfl rfl (by kernel_rfl) (fun _ _ _ h => h) hS ?_
      refine a_p 17 tbOk rfl rfl rfl rfl (by kernel_rfl) (fun _ _ _ h => h) hS ?_
      refine a_end (by kernel_rfl) ?_
      refine x_seq (c_ifT rfl (c_seq (q0 (l_p 1 tbOk rfl ?_))))
      refine l_cons (o_ld tbOk (h3.cell 1 _ rfl) rfl rfl rfl rfl rfl ?_)
      refine l_cons (o_lds tbOk (fun j v hv => h5.cell j v hv) rfl rfl rfl rfl rfl rfl ?_)
      refine l_cons (o_lds tbOk (fun j v hv => h8.cell j v hv) rfl rfl rfl rfl rfl rfl ?_)
      refine l_cons (o_dyn rfl fol rfl rfl rfl (Hl b s M _ _ _ hb hvs hlow) ?_)
      rintro _ w18 ⟨rfl, ew18⟩
      replace hE := hE.trans (Below.mono ew18 hB)
      replace h3 := h3.ext ew18
      replace h5 := h5.ext ew18
      replace h8 := h8.ext ew18
      replace h10 := h10.ext ew18
      replace hfl := hfl.ext ew18
      replace hfm := hfm.ext ew18
      replace hb := Rep.ext hb ew18
      replace hvs := Rep.ext hvs ew18
      replace hvt := Rep.ext hvt ew18
      replace hlow := hlow.ext ew18
      replace hB := Nat.le_trans hB ew18.size
      refine l_p 1 tbOk rfl (q1 ?_)
      refine c_ifB _ rfl (fun hlf => ?_) (fun hlf => ?_)
      · refine q0 (l_p 1 tbOk rfl (q1 (c_ret (x_seqR (x_blkR (x_blkR (x_seqR (x_blkR (x_seqR (x_ret1 rfl rfl ?_))))))))))
        rw [rows_noM el em hkl (by rw [es, okM_no hkl hst.2]; exact hlf)]
        exact ⟨rfl, hE⟩
      refine c_skip (x_seq (c_reg (l_p 1 tbOk rfl ?_)))
      refine l_cons (o_ar rfl rfl rfl (IntWalk.i64_in _ (by omega)) rfl rfl ?_)
      refine l_p 1 tbOk rfl (q2 (x_blk ?_))
      exact x_round2 (i) (k + 1) (s8 rfl rfl rfl rfl rfl rfl rfl (get_num rfl (by omega))) ⟨by omega, by omega, hst.1.symm, hokl, ok_step hokm (by rw [okM_no hkl hst.2]; exact hlf), h3, h5, h8, h10, hfl, hfm, hb, hvs, hvt, hlow, hE, hB⟩ (by omega)
    exact absurd hie (by omega)
  refine c_exit (x_seqE (x_seqE (x_blkE (x_seq (q0 (l_p 1 tbOk rfl ?_))))))
  refine l_cons (o_ld tbOk (h3.cell 0 _ rfl) rfl rfl rfl rfl rfl ?_)
  refine l_cons (o_lds tbOk (fun j v hv => h8.cell j v hv) rfl rfl rfl rfl rfl rfl ?_)
  refine l_cons (o_lds tbOk (fun j v hv => h10.cell j v hv) rfl rfl rfl rfl rfl rfl ?_)
  refine l_cons (o_dyn rfl fod rfl rfl rfl (Hd s t M _ _ _ hvs hvt hlow) ?_)
  rintro _ w19 ⟨rfl, ew19⟩
  replace hE := hE.trans (Below.mono ew19 hB)
  replace h3 := h3.ext ew19
  replace h5 := h5.ext ew19
  replace h8 := h8.ext ew19
  replace h10 := h10.ext ew19
  replace hfl := hfl.ext ew19
  replace hfm := hfm.ext ew19
  replace hb := Rep.ext hb ew19
  replace hvs := Rep.ext hvs ew19
  replace hvt := Rep.ext hvt ew19
  replace hlow := hlow.ext ew19
  replace hB := Nat.le_trans hB ew19.size
  refine l_p 1 tbOk rfl ?_
  refine l_split 110 _ rfl (fun hdn => ?_) (fun hdn => ?_)
  · refine l_p 14 tbOk rfl (q1 (c_ret (x_ret1 rfl rfl ?_)))
    rw [rows_all el em (fun j hj => by rw [et]; exact hokl j (by omega)) (fun j hj => by rw [es]; exact hokm j (by omega)), es, et, tailF]
    exact ⟨by simp [*], hE⟩
  refine l_p 1 tbOk rfl ?_
  refine l_cons (o_ld tbOk (h8.cell 0 _ rfl) rfl rfl rfl rfl rfl ?_)
  refine l_p 1 tbOk rfl ?_
  refine l_cons (o_ld tbOk (h10.cell 0 _ rfl) rfl rfl rfl rfl rfl ?_)
  refine l_p 2 tbOk rfl ?_
  refine l_splitP 116 _ rfl (fun hop => ?_) (fun hop => ?_)
  · refine l_p 1 tbOk rfl ?_
    refine l_cons (o_ld tbOk (h8.cell 2 _ rfl) rfl rfl rfl rfl rfl ?_)
    refine l_p 1 tbOk rfl ?_
    refine l_cons (o_ld tbOk (h10.cell 2 _ rfl) rfl rfl rfl rfl rfl ?_)
    refine l_p 4 tbOk rfl (q1 (c_ret (x_ret1 rfl rfl ?_)))
    rw [rows_all el em (fun j hj => by rw [et]; exact hokl j (by omega)) (fun j hj => by rw [es]; exact hokm j (by omega)), es, et, tailF]
    exact ⟨by simp [*], hE⟩
  refine l_p 8 tbOk rfl (q1 (c_ret (x_ret1 rfl rfl ?_)))
  rw [rows_all el em (fun j hj => by rw [et]; exact hokl j (by omega)) (fun j hj => by rw [es]; exact hokm j (by omega)), es, et, tailF]
  exact ⟨by simp [*], hE⟩

/-- holds between right types? -/
theorem holds_of (less : Bool) (fd fl : Nat) (fod : FnOk Try.prog fd) (fol : FnOk Try.prog fl) (Hd : ∀ (x y : Ty) (M : Nat → Prop) (w : World) (v u : Value), Rep.R M w v x → Rep.R M w u y → Low M w → Calls Try.prog fd #[v, u] w (Ret fun r w' => r = .bool (dynF less x y) ∧ Ext w w')) (Hl : ∀ (x y : Ty) (M : Nat → Prop) (w : World) (v u : Value), Rep.R M w v x → Rep.R M w u y → Low M w → Calls Try.prog fl #[v, u] w (Ret fun r w' => r = .bool (!less && decide (y.op = 9)) ∧ Ext w w')) (a b : Ty) (IH : ∀ x y, psz x < psz a → rightB x = true → rightB y = true → psz y ≤ 2000000 → ∀ (M : Nat → Prop) (w : World) (v u : Value), Rep.R M w v x → Rep.R M w u y → Low M w → Calls Try.prog 105 #[.agg #[.func (.func fd) #[] #[], .func (.func fl) #[] #[]], v, u] w (Ret fun r w' => r = .bool (holdsF less x y) ∧ Ext w w')) (M : Nat → Prop) (w : World) (v u : Value) (hra : rightB a = true) (hrb : rightB b = true) (ha : Rep.R M w v a) (hb : Rep.R M w u b) (hlow : Low M w) (hza : psz a ≤ 2000000) (hzb : psz b ≤ 2000000) :
    Calls Try.prog 105 #[.agg #[.func (.func fd) #[] #[], .func (.func fl) #[] #[]], v, u] w (Ret fun r w' => r = .bool (holdsF less a b) ∧ Ext w w') := by
  have hE : Below w.heap.size w w := Below.refl _ _
  have hB : w.heap.size ≤ w.heap.size := Nat.le_refl _
  obtain ⟨kva, rfl, opa, nma, n64a, hka⟩ := ty_open ha
  obtain ⟨kvb, rfl, opb, nmb, n64b, hkb⟩ := ty_open hb
  refine c_enter (n := 63) Try.func105 rfl rfl rfl ?_
  refine q0 ?_
  refine l_cons (o_box rfl rfl rfl ?_)
  intro b3 w1 hb_b3 ew1 h3
  replace h3 := h3.at (nM_of hlow hb_b3)
  replace hE := hE.trans (Below.mono ew1 hB)
  replace ha := Rep.ext ha ew1
  replace hka := hka.ext ew1
  replace hb := Rep.ext hb ew1
  replace hkb := hkb.ext ew1
  replace hlow := hlow.ext ew1
  replace hB := Nat.le_trans hB ew1.size
  replace h3 : At _ _ b3 0 [.func (.func fd) #[] #[], .func (.func fl) #[] #[]] := h3
  refine l_cons (o_box rfl rfl rfl ?_)
  intro b4 w2 hb_b4 ew2 h4
  replace h4 : Box _ b4 25 [.int .u8 a.op, .string a.name, .int .i64 a.n, kva] := h4
  replace h4 := h4.at (nM_of hlow hb_b4)
  replace hE := hE.trans (Below.mono ew2 hB)
  replace ha := Rep.ext ha ew2
  replace hka := hka.ext ew2
  replace hb := Rep.ext hb ew2
  replace hkb := hkb.ext ew2
  replace h3 := h3.ext ew2
  replace hlow := hlow.ext ew2
  replace hB := Nat.le_trans hB ew2.size
  refine l_cons (o_box rfl rfl rfl ?_)
  intro b5 w3 hb_b5 ew3 h5
  replace h5 : Box _ b5 25 [.int .u8 b.op, .string b.name, .int .i64 b.n, kvb] := h5
  replace h5 := h5.at (nM_of hlow hb_b5)
  replace hE := hE.trans (Below.mono ew3 hB)
  replace ha := Rep.ext ha ew3
  replace hka := hka.ext ew3
  replace hb := Rep.ext hb ew3
  replace hkb := hkb.ext ew3
  replace h3 := h3.ext ew3
  replace h4 := h4.ext ew3
  replace hlow := hlow.ext ew3
  replace hB := Nat.le_trans hB ew3.size
  refine l_p 1 tbOk rfl (q1 (c_seq (q0 (l_p 1 tbOk rfl ?_))))
  refine l_cons (o_ld tbOk (h3.cell 0 _ rfl) rfl rfl rfl rfl rfl ?_)
  refine l_cons (o_lds tbOk (fun j v hv => h4.cell j v hv) rfl rfl rfl rfl rfl rfl ?_)
  refine l_cons (o_lds tbOk (fun j v hv => h5.cell j v hv) rfl rfl rfl rfl rfl rfl ?_)
  refine l_cons (o_dyn rfl fod rfl rfl rfl (Hd a b M _ _ _ ha hb hlow) ?_)
  rintro _ w4 ⟨rfl, ew4⟩
  replace hE := hE.trans (Below.mono ew4 hB)
  replace ha := Rep.ext ha ew4
  replace hka := hka.ext ew4
  replace hb := Rep.ext hb ew4
  replace hkb := hkb.ext ew4
  replace h3 := h3.ext ew4
  replace h4 := h4.ext ew4
  replace h5 := h5.ext ew4
  replace hlow := hlow.ext ew4
  replace hB := Nat.le_trans hB ew4.size
  refine q1 ?_
  refine c_if _ rfl (fun hdy => ?_) (fun hdy => ?_)
  · refine q0 (l_p 1 tbOk rfl (q1 (c_ret (x_seqR (x_ret1 rfl rfl ?_)))))
    rw [holdsF_eq less a b, hdy]
    exact ⟨rfl, hE⟩
  refine c_skip (x_seq (c_seq (q0 (l_p 1 tbOk rfl ?_))))
  refine l_cons (o_ld tbOk (h4.cell 0 _ rfl) rfl rfl rfl rfl rfl ?_)
  refine l_p 1 tbOk rfl ?_
  refine l_cons (o_ld tbOk (h5.cell 0 _ rfl) rfl rfl rfl rfl rfl ?_)
  refine l_p 2 tbOk rfl ?_
  refine l_splitN 17 _ rfl (fun ho => ?_) (fun ho => ?_)
  · refine l_p 6 tbOk rfl (q1 (c_ifT rfl (q0 (l_p 1 tbOk rfl (q1 (c_ret (x_seqR (x_ret1 rfl rfl ?_))))))))
    rw [holdsF_eq less a b, hdy, decide_eq_false ho]
    exact ⟨rfl, hE⟩
  refine l_p 1 tbOk rfl ?_
  refine l_cons (o_ld tbOk (h4.cell 2 _ rfl) rfl rfl rfl rfl rfl ?_)
  refine l_p 1 tbOk rfl ?_
  refine l_cons (o_ld tbOk (h5.cell 2 _ rfl) rfl rfl rfl rfl rfl ?_)
  refine l_p 2 tbOk rfl (q1 ?_)
  refine c_ifN _ rfl (fun hn => ?_) (fun hn => ?_)
  · refine q0 (l_p 1 tbOk rfl (q1 (c_ret (x_seqR (x_ret1 rfl rfl ?_)))))
    rw [holdsF_eq less a b, hdy, decide_eq_true ho, decide_eq_false hn]
    exact ⟨rfl, hE⟩
  refine c_skip (x_seq (c_seq (q0 (l_p 1 tbOk rfl ?_))))
  refine l_cons (o_ld tbOk (h4.cell 0 _ rfl) rfl rfl rfl rfl rfl ?_)
  refine q1 (c_blk (q0 (l_p 2 tbOk rfl (q1 ?_))))
  refine c_ifP _ rfl (fun o4 => ?_) (fun o4 => ?_)
  · obtain ⟨ka, ra, eka, hka1, hra1⟩ := fun_kids hra (by omega)
    obtain ⟨kb, rb, ekb, hkb1, hrb1⟩ := fun_kids hrb (by omega)
    have pa : psz ka < psz a := kid_psz (by rw [eka]; simp)
    have pa2 : psz ra < psz a := kid_psz (by rw [eka]; simp)
    have pb : psz kb < psz b := kid_psz (by rw [ekb]; simp)
    have pb2 : psz rb < psz b := kid_psz (by rw [ekb]; simp)
    refine c_seq ?_
    refine a_beg Ext rfl ?_
    intro w5 ew5
    replace hE := hE.trans (Below.mono ew5 hB)
    replace ha := Rep.ext ha ew5
    replace hka := hka.ext ew5
    replace hb := Rep.ext hb ew5
    replace hkb := hkb.ext ew5
    replace h3 := h3.ext ew5
    replace h4 := h4.ext ew5
    replace h5 := h5.ext ew5
    replace hlow := hlow.ext ew5
    replace hB := Nat.le_trans hB ew5.size
    have hS : Ext w5 w5 := ext_refl _
    have D_hka := hka
    have D_hkb := hkb
    have D_h3 := h3
    have D_h4 := h4
    have D_h5 := h5
    refine a_lds 0 tbOk (fun _ hs j v hv => (D_h3.ext hs).cell j v hv) rfl rfl rfl rfl rfl rfl rfl (by kernel_rfl) (fun _ _ _ h => h) hS ?_
    refine a_p 1 tbOk rfl rfl rfl rfl (by kernel_rfl) (fun _ _ _ h => h) hS ?_
    refine a_ld 2 tbOk (fun _ hs => (D_h4.ext hs).cell 3 _ rfl) rfl rfl rfl rfl rfl rfl (by kernel_rfl) (fun _ _ _ h => h) hS ?_
    refine a_ixS 3 tbOk D_hka (show a.kids[0]? = some ka by rw [eka]; rfl) rfl rfl rfl rfl rfl rfl rfl rfl rfl rfl (by kernel_rfl) (fun _ _ _ _ h => h) hS ?_
    intro ebz0 eoz0 euz0 hyz0 hatz0
    obtain ⟨kvz0, rfl, opz0, nmz0, n64z0, hkz0⟩ := ty_open hyz0
    replace hatz0 : At M w5 ebz0 eoz0 [.int .u8 ka.op, .string ka.name, .int .i64 ka.n, kvz0] := hatz0
    refine a_lds 4 tbOk (fun _ hs j v hv => (hatz0.ext hs).cell j v hv) rfl rfl rfl rfl rfl rfl rfl (by kernel_rfl) (fun _ _ _ h => h) hS ?_
    refine a_p 5 tbOk rfl rfl rfl rfl (by kernel_rfl) (fun _ _ _ h => h) hS ?_
    refine a_ld 6 tbOk (fun _ hs => (D_h5.ext hs).cell 3 _ rfl) rfl rfl rfl rfl rfl rfl (by kernel_rfl) (fun _ _ _ h => h) hS ?_
    refine a_ixS 7 tbOk D_hkb (show b.kids[0]? = some kb by rw [ekb]; rfl) rfl rfl rfl rfl rfl rfl rfl rfl rfl rfl (by kernel_rfl) (fun _ _ _ _ h => h) hS ?_
    intro ebz1 eoz1 euz1 hyz1 hatz1
    obtain ⟨kvz1, rfl, opz1, nmz1, n64z1, hkz1⟩ := ty_open hyz1
    replace hatz1 : At M w5 ebz1 eoz1 [.int .u8 kb.op, .string kb.name, .int .i64 kb.n, kvz1] := hatz1
    refine a_lds 8 tbOk (fun _ hs j v hv => (hatz1.ext hs).cell j v hv) rfl rfl rfl rfl rfl rfl rfl (by kernel_rfl) (fun _ _ _ h => h) hS ?_
    refine a_bar 9 rfl (by kernel_rfl) (by kernel_rfl) (o_call fo105 rfl rfl rfl (IH ka kb (by omega) hka1 hkb1 (by omega) M _ _ _ hyz0 hyz1 hlow) ?_)
    rintro _ w6 ⟨rfl, ew6⟩
    replace hS := hS.then ew6
    replace hE := hE.trans (Below.mono ew6 hB)
    replace ha := Rep.ext ha ew6
    replace hka := hka.ext ew6
    replace hb := Rep.ext hb ew6
    replace hkb := hkb.ext ew6
    replace h3 := h3.ext ew6
    replace h4 := h4.ext ew6
    replace h5 := h5.ext ew6
    replace hyz0 := Rep.ext hyz0 ew6
    replace hkz0 := hkz0.ext ew6
    replace hatz0 := hatz0.ext ew6
    replace hyz1 := Rep.ext hyz1 ew6
    replace hkz1 := hkz1.ext ew6
    replace hatz1 := hatz1.ext ew6
    replace hlow := hlow.ext ew6
    replace hB := Nat.le_trans hB ew6.size
    refine a_p 10 tbOk rfl rfl rfl rfl (by kernel_rfl) (fun _ _ _ h => h) hS ?_
    refine a_split 38 _ rfl (fun hk1 => ?_) (fun hk1 => ?_)
    · refine a_lds 11 tbOk (fun _ hs j v hv => (D_h3.ext hs).cell j v hv) rfl rfl rfl rfl rfl rfl rfl (by kernel_rfl) (fun _ _ _ h => h) hS ?_
      refine a_p 12 tbOk rfl rfl rfl rfl (by kernel_rfl) (fun _ _ _ h => h) hS ?_
      refine a_ld 13 tbOk (fun _ hs => (D_h4.ext hs).cell 3 _ rfl) rfl rfl rfl rfl rfl rfl (by kernel_rfl) (fun _ _ _ h => h) hS ?_
      refine a_ixS 14 tbOk D_hka (show a.kids[1]? = some ra by rw [eka]; rfl) rfl rfl rfl rfl rfl rfl rfl rfl rfl rfl (by kernel_rfl) (fun _ _ _ _ h => h) hS ?_
      intro ebz2 eoz2 euz2 hyz2 hatz2
      obtain ⟨kvz2, rfl, opz2, nmz2, n64z2, hkz2⟩ := ty_open hyz2
      replace hatz2 : At M w5 ebz2 eoz2 [.int .u8 ra.op, .string ra.name, .int .i64 ra.n, kvz2] := hatz2
      have D_hatz2 := hatz2
      replace hatz2 := hatz2.ext hS
      have D_hkz2 := hkz2
      replace hkz2 := hkz2.ext hS
      replace hyz2 := Rep.ext hyz2 hS
      refine a_lds 15 tbOk (fun _ hs j v hv => (D_hatz2.ext hs).cell j v hv) rfl rfl rfl rfl rfl rfl rfl (by kernel_rfl) (fun _ _ _ h => h) hS ?_
      refine a_p 16 tbOk rfl rfl rfl rfl (by kernel_rfl) (fun _ _ _ h => h) hS ?_
      refine a_ld 17 tbOk (fun _ hs => (D_h5.ext hs).cell 3 _ rfl) rfl rfl rfl rfl rfl rfl (by kernel_rfl) (fun _ _ _ h => h) hS ?_
      refine a_ixS 18 tbOk D_hkb (show b.kids[1]? = some rb by rw [ekb]; rfl) rfl rfl rfl rfl rfl rfl rfl rfl rfl rfl (by kernel_rfl) (fun _ _ _ _ h => h) hS ?_
      intro ebz3 eoz3 euz3 hyz3 hatz3
      obtain ⟨kvz3, rfl, opz3, nmz3, n64z3, hkz3⟩ := ty_open hyz3
      replace hatz3 : At M w5 ebz3 eoz3 [.int .u8 rb.op, .string rb.name, .int .i64 rb.n, kvz3] := hatz3
      have D_hatz3 := hatz3
      replace hatz3 := hatz3.ext hS
      have D_hkz3 := hkz3
      replace hkz3 := hkz3.ext hS
      replace hyz3 := Rep.ext hyz3 hS
      refine a_lds 19 tbOk (fun _ hs j v hv => (D_hatz3.ext hs).cell j v hv) rfl rfl rfl rfl rfl rfl rfl (by kernel_rfl) (fun _ _ _ h => h) hS ?_
      refine a_bar 20 rfl (by kernel_rfl) (by kernel_rfl) (o_call fo105 rfl rfl rfl (IH ra rb (by omega) hra1 hrb1 (by omega) M _ _ _ hyz2 hyz3 hlow) ?_)
      rintro _ w7 ⟨rfl, ew7⟩
      replace hS := hS.then ew7
      replace hE := hE.trans (Below.mono ew7 hB)
      replace ha := Rep.ext ha ew7
      replace hka := hka.ext ew7
      replace hb := Rep.ext hb ew7
      replace hkb := hkb.ext ew7
      replace h3 := h3.ext ew7
      replace h4 := h4.ext ew7
      replace h5 := h5.ext ew7
      replace hyz0 := Rep.ext hyz0 ew7
      replace hkz0 := hkz0.ext ew7
      replace hatz0 := hatz0.ext ew7
      replace hyz1 := Rep.ext hyz1 ew7
      replace hkz1 := hkz1.ext ew7
      replace hatz1 := hatz1.ext ew7
      replace hyz2 := Rep.ext hyz2 ew7
      replace hkz2 := hkz2.ext ew7
      replace hatz2 := hatz2.ext ew7
      replace hyz3 := Rep.ext hyz3 ew7
      replace hkz3 := hkz3.ext ew7
      replace hatz3 := hatz3.ext ew7
      replace hlow := hlow.ext ew7
      replace hB := Nat.le_trans hB ew7.size
      refine a_p 21 tbOk rfl rfl rfl rfl (by kernel_rfl) (fun _ _ _ h => h) hS ?_
      refine a_p 22 tbOk rfl rfl rfl rfl (by kernel_rfl) (fun _ _ _ h => h) hS ?_
      refine a_end (by kernel_rfl) ?_
      refine x_seq (c_ret (x_blkR (x_seqR (x_ret1 rfl rfl ?_))))
      rw [holdsF_eq less a b, hdy, decide_eq_true ho, decide_eq_true hn, decide_eq_true o4, eka, ekb]
      exact ⟨by show _ = Value.bool (holdsF less ka kb && holdsF less ra rb); rw [hk1]; rfl, hE⟩
    refine a_skip 11 rfl rfl rfl (by kernel_rfl) (fun _ _ _ h => h) hS ?_
    refine a_skip 12 rfl rfl rfl (by kernel_rfl) (fun _ _ _ h => h) hS ?_
    refine a_skip 13 rfl rfl rfl (by kernel_rfl) (fun _ _ _ h => h) hS ?_
    refine a_skip 14 rfl rfl rfl (by kernel_rfl) (fun _ _ _ h => h) hS ?_
    refine a_skip 15 rfl rfl rfl (by kernel_rfl) (fun _ _ _ h => h) hS ?_
    refine a_skip 16 rfl rfl rfl (by kernel_rfl) (fun _ _ _ h => h) hS ?_
    refine a_skip 17 rfl rfl rfl (by kernel_rfl) (fun _ _ _ h => h) hS ?_
    refine a_skip 18 rfl rfl rfl (by kernel_rfl) (fun _ _ _ h => h) hS ?_
    refine a_skip 19 rfl rfl rfl (by kernel_rfl) (fun _ _ _ h => h) hS ?_
    refine a_skip 20 rfl rfl rfl (by kernel_rfl) (fun _ _ _ h => h) hS ?_
    refine a_p 21 tbOk rfl rfl rfl rfl (by kernel_rfl) (fun _ _ _ h => h) hS ?_
    refine a_p 22 tbOk rfl rfl rfl rfl (by kernel_rfl) (fun _ _ _ h => h) hS ?_
    refine a_end (by kernel_rfl) ?_
    refine x_seq (c_ret (x_blkR (x_seqR (x_ret1 rfl rfl ?_))))
    rw [holdsF_eq less a b, hdy, decide_eq_true ho, decide_eq_true hn, decide_eq_true o4, eka, ekb]
    exact ⟨by show _ = Value.bool (holdsF less ka kb && holdsF less ra rb); rw [hk1]; rfl, hE⟩
  refine c_seq (q0 (l_p 2 tbOk rfl (q1 ?_)))
  refine c_splitP 50 _ rfl (fun o5 => c_ifT rfl ?_) (fun o5 => c_ifF rfl ?_)
  · obtain ⟨ka, eka, hka1⟩ := rec_kids hra (by omega)
    obtain ⟨kb, ekb, hkb1⟩ := rec_kids hrb (by omega)
    have pa : psz ka < psz a := kid_psz (by rw [eka]; simp)
    have pb : psz kb < psz b := kid_psz (by rw [ekb]; simp)
    refine c_skip (x_seq (c_ifT rfl (c_seq ?_)))
    refine a_beg Ext rfl ?_
    intro w8 ew8
    replace hE := hE.trans (Below.mono ew8 hB)
    replace ha := Rep.ext ha ew8
    replace hka := hka.ext ew8
    replace hb := Rep.ext hb ew8
    replace hkb := hkb.ext ew8
    replace h3 := h3.ext ew8
    replace h4 := h4.ext ew8
    replace h5 := h5.ext ew8
    replace hlow := hlow.ext ew8
    replace hB := Nat.le_trans hB ew8.size
    have hS : Ext w8 w8 := ext_refl _
    have D_hka := hka
    have D_hkb := hkb
    have D_h3 := h3
    have D_h4 := h4
    have D_h5 := h5
    refine a_lds 0 tbOk (fun _ hs j v hv => (D_h3.ext hs).cell j v hv) rfl rfl rfl rfl rfl rfl rfl (by kernel_rfl) (fun _ _ _ h => h) hS ?_
    refine a_p 1 tbOk rfl rfl rfl rfl (by kernel_rfl) (fun _ _ _ h => h) hS ?_
    refine a_ld 2 tbOk (fun _ hs => (D_h4.ext hs).cell 3 _ rfl) rfl rfl rfl rfl rfl rfl (by kernel_rfl) (fun _ _ _ h => h) hS ?_
    refine a_ixS 3 tbOk D_hka (show a.kids[0]? = some ka by rw [eka]; rfl) rfl rfl rfl rfl rfl rfl rfl rfl rfl rfl (by kernel_rfl) (fun _ _ _ _ h => h) hS ?_
    intro ebz0 eoz0 euz0 hyz0 hatz0
    obtain ⟨kvz0, rfl, opz0, nmz0, n64z0, hkz0⟩ := ty_open hyz0
    replace hatz0 : At M w8 ebz0 eoz0 [.int .u8 ka.op, .string ka.name, .int .i64 ka.n, kvz0] := hatz0
    refine a_lds 4 tbOk (fun _ hs j v hv => (hatz0.ext hs).cell j v hv) rfl rfl rfl rfl rfl rfl rfl (by kernel_rfl) (fun _ _ _ h => h) hS ?_
    refine a_p 5 tbOk rfl rfl rfl rfl (by kernel_rfl) (fun _ _ _ h => h) hS ?_
    refine a_ld 6 tbOk (fun _ hs => (D_h5.ext hs).cell 3 _ rfl) rfl rfl rfl rfl rfl rfl (by kernel_rfl) (fun _ _ _ h => h) hS ?_
    refine a_ixS 7 tbOk D_hkb (show b.kids[0]? = some kb by rw [ekb]; rfl) rfl rfl rfl rfl rfl rfl rfl rfl rfl rfl (by kernel_rfl) (fun _ _ _ _ h => h) hS ?_
    intro ebz1 eoz1 euz1 hyz1 hatz1
    obtain ⟨kvz1, rfl, opz1, nmz1, n64z1, hkz1⟩ := ty_open hyz1
    replace hatz1 : At M w8 ebz1 eoz1 [.int .u8 kb.op, .string kb.name, .int .i64 kb.n, kvz1] := hatz1
    refine a_lds 8 tbOk (fun _ hs j v hv => (hatz1.ext hs).cell j v hv) rfl rfl rfl rfl rfl rfl rfl (by kernel_rfl) (fun _ _ _ h => h) hS ?_
    refine a_bar 9 rfl (by kernel_rfl) (by kernel_rfl) (o_call fo104 rfl rfl rfl (rows_of less fd fl fod fol Hd Hl ka kb (fun x y h => IH x y (by omega)) M _ _ _ hka1 hkb1 hyz0 hyz1 hlow (by omega) (by omega)) ?_)
    rintro _ w9 ⟨rfl, ew9⟩
    replace hS := hS.then ew9
    replace hE := hE.trans (Below.mono ew9 hB)
    replace ha := Rep.ext ha ew9
    replace hka := hka.ext ew9
    replace hb := Rep.ext hb ew9
    replace hkb := hkb.ext ew9
    replace h3 := h3.ext ew9
    replace h4 := h4.ext ew9
    replace h5 := h5.ext ew9
    replace hyz0 := Rep.ext hyz0 ew9
    replace hkz0 := hkz0.ext ew9
    replace hatz0 := hatz0.ext ew9
    replace hyz1 := Rep.ext hyz1 ew9
    replace hkz1 := hkz1.ext ew9
    replace hatz1 := hatz1.ext ew9
    replace hlow := hlow.ext ew9
    replace hB := Nat.le_trans hB ew9.size
    refine a_p 10 tbOk rfl rfl rfl rfl (by kernel_rfl) (fun _ _ _ h => h) hS ?_
    refine a_end (by kernel_rfl) ?_
    refine x_seq (c_ret (x_blkR (x_seqR (x_ret1 rfl rfl ?_))))
    rw [holdsF_eq less a b, hdy, decide_eq_true ho, decide_eq_true hn, decide_eq_false o4, decide_eq_true o5, eka, ekb]
    exact ⟨rfl, hE⟩
  refine c_reg (l_p 2 tbOk rfl (q1 ?_))
  refine c_splitP 50 _ rfl (fun o6 => c_ifT rfl ?_) (fun o6 => c_ifF rfl ?_)
  · obtain ⟨ka, eka, hka1⟩ := rec_kids hra (by omega)
    obtain ⟨kb, ekb, hkb1⟩ := rec_kids hrb (by omega)
    have pa : psz ka < psz a := kid_psz (by rw [eka]; simp)
    have pb : psz kb < psz b := kid_psz (by rw [ekb]; simp)
    refine c_seq ?_
    refine a_beg Ext rfl ?_
    intro w10 ew10
    replace hE := hE.trans (Below.mono ew10 hB)
    replace ha := Rep.ext ha ew10
    replace hka := hka.ext ew10
    replace hb := Rep.ext hb ew10
    replace hkb := hkb.ext ew10
    replace h3 := h3.ext ew10
    replace h4 := h4.ext ew10
    replace h5 := h5.ext ew10
    replace hlow := hlow.ext ew10
    replace hB := Nat.le_trans hB ew10.size
    have hS : Ext w10 w10 := ext_refl _
    have D_hka := hka
    have D_hkb := hkb
    have D_h3 := h3
    have D_h4 := h4
    have D_h5 := h5
    refine a_lds 0 tbOk (fun _ hs j v hv => (D_h3.ext hs).cell j v hv) rfl rfl rfl rfl rfl rfl rfl (by kernel_rfl) (fun _ _ _ h => h) hS ?_
    refine a_p 1 tbOk rfl rfl rfl rfl (by kernel_rfl) (fun _ _ _ h => h) hS ?_
    refine a_ld 2 tbOk (fun _ hs => (D_h4.ext hs).cell 3 _ rfl) rfl rfl rfl rfl rfl rfl (by kernel_rfl) (fun _ _ _ h => h) hS ?_
    refine a_ixS 3 tbOk D_hka (show a.kids[0]? = some ka by rw [eka]; rfl) rfl rfl rfl rfl rfl rfl rfl rfl rfl rfl (by kernel_rfl) (fun _ _ _ _ h => h) hS ?_
    intro ebz0 eoz0 euz0 hyz0 hatz0
    obtain ⟨kvz0, rfl, opz0, nmz0, n64z0, hkz0⟩ := ty_open hyz0
    replace hatz0 : At M w10 ebz0 eoz0 [.int .u8 ka.op, .string ka.name, .int .i64 ka.n, kvz0] := hatz0
    refine a_lds 4 tbOk (fun _ hs j v hv => (hatz0.ext hs).cell j v hv) rfl rfl rfl rfl rfl rfl rfl (by kernel_rfl) (fun _ _ _ h => h) hS ?_
    refine a_p 5 tbOk rfl rfl rfl rfl (by kernel_rfl) (fun _ _ _ h => h) hS ?_
    refine a_ld 6 tbOk (fun _ hs => (D_h5.ext hs).cell 3 _ rfl) rfl rfl rfl rfl rfl rfl (by kernel_rfl) (fun _ _ _ h => h) hS ?_
    refine a_ixS 7 tbOk D_hkb (show b.kids[0]? = some kb by rw [ekb]; rfl) rfl rfl rfl rfl rfl rfl rfl rfl rfl rfl (by kernel_rfl) (fun _ _ _ _ h => h) hS ?_
    intro ebz1 eoz1 euz1 hyz1 hatz1
    obtain ⟨kvz1, rfl, opz1, nmz1, n64z1, hkz1⟩ := ty_open hyz1
    replace hatz1 : At M w10 ebz1 eoz1 [.int .u8 kb.op, .string kb.name, .int .i64 kb.n, kvz1] := hatz1
    refine a_lds 8 tbOk (fun _ hs j v hv => (hatz1.ext hs).cell j v hv) rfl rfl rfl rfl rfl rfl rfl (by kernel_rfl) (fun _ _ _ h => h) hS ?_
    refine a_bar 9 rfl (by kernel_rfl) (by kernel_rfl) (o_call fo104 rfl rfl rfl (rows_of less fd fl fod fol Hd Hl ka kb (fun x y h => IH x y (by omega)) M _ _ _ hka1 hkb1 hyz0 hyz1 hlow (by omega) (by omega)) ?_)
    rintro _ w11 ⟨rfl, ew11⟩
    replace hS := hS.then ew11
    replace hE := hE.trans (Below.mono ew11 hB)
    replace ha := Rep.ext ha ew11
    replace hka := hka.ext ew11
    replace hb := Rep.ext hb ew11
    replace hkb := hkb.ext ew11
    replace h3 := h3.ext ew11
    replace h4 := h4.ext ew11
    replace h5 := h5.ext ew11
    replace hyz0 := Rep.ext hyz0 ew11
    replace hkz0 := hkz0.ext ew11
    replace hatz0 := hatz0.ext ew11
    replace hyz1 := Rep.ext hyz1 ew11
    replace hkz1 := hkz1.ext ew11
    replace hatz1 := hatz1.ext ew11
    replace hlow := hlow.ext ew11
    replace hB := Nat.le_trans hB ew11.size
    refine a_p 10 tbOk rfl rfl rfl rfl (by kernel_rfl) (fun _ _ _ h => h) hS ?_
    refine a_end (by kernel_rfl) ?_
    refine x_seq (c_ret (x_blkR (x_seqR (x_ret1 rfl rfl ?_))))
    rw [holdsF_eq less a b, hdy, decide_eq_true ho, decide_eq_true hn, decide_eq_false o4, decide_eq_false o5, decide_eq_true o6, eka, ekb]
    exact ⟨rfl, hE⟩
  refine c_skip (x_blk (x_seq (q0 (l_p 1 tbOk rfl (q1 (c_ret (x_ret1 rfl rfl ?_)))))))
  rw [holdsF_eq less a b, hdy, decide_eq_true ho, decide_eq_true hn, decide_eq_false o4, decide_eq_false o5, decide_eq_false o6]
  exact ⟨rfl, hE⟩

/-- .. of whatever size. -/
theorem holds_spec (less : Bool) (fd fl : Nat) (fod : FnOk Try.prog fd) (fol : FnOk Try.prog fl) (Hd : ∀ (x y : Ty) (M : Nat → Prop) (w : World) (v u : Value), Rep.R M w v x → Rep.R M w u y → Low M w → Calls Try.prog fd #[v, u] w (Ret fun r w' => r = .bool (dynF less x y) ∧ Ext w w')) (Hl : ∀ (x y : Ty) (M : Nat → Prop) (w : World) (v u : Value), Rep.R M w v x → Rep.R M w u y → Low M w → Calls Try.prog fl #[v, u] w (Ret fun r w' => r = .bool (!less && decide (y.op = 9)) ∧ Ext w w')) : ∀ (n : Nat) (a b : Ty), psz a ≤ n → ∀ (M : Nat → Prop) (w : World) (v u : Value) (hra : rightB a = true) (hrb : rightB b = true) (ha : Rep.R M w v a) (hb : Rep.R M w u b) (hlow : Low M w) (hza : psz a ≤ 2000000) (hzb : psz b ≤ 2000000),
    Calls Try.prog 105 #[.agg #[.func (.func fd) #[] #[], .func (.func fl) #[] #[]], v, u] w (Ret fun r w' => r = .bool (holdsF less a b) ∧ Ext w w') := by
  intro n
  induction n with
  | zero => intro a b h; have := psz_pos a; omega
  | succ n ih =>
    intro a b h M w v u hra hrb ha hb hlow hza hzb
    exact holds_of less fd fl fod fol Hd Hl a b (fun x y hx hrx hry hzy M w v u hx2 hy2 hl => ih x y (by omega) M w v u hrx hry hx2 hy2 hl (by omega) hzy) M w v u hra hrb ha hb hlow hza hzb
theorem rows_spec (less : Bool) (fd fl : Nat) (fod : FnOk Try.prog fd) (fol : FnOk Try.prog fl) (Hd : ∀ (x y : Ty) (M : Nat → Prop) (w : World) (v u : Value), Rep.R M w v x → Rep.R M w u y → Low M w → Calls Try.prog fd #[v, u] w (Ret fun r w' => r = .bool (dynF less x y) ∧ Ext w w')) (Hl : ∀ (x y : Ty) (M : Nat → Prop) (w : World) (v u : Value), Rep.R M w v x → Rep.R M w u y → Low M w → Calls Try.prog fl #[v, u] w (Ret fun r w' => r = .bool (!less && decide (y.op = 9)) ∧ Ext w w')) (a b : Ty) (M : Nat → Prop) (w : World) (v u : Value) (hra : rowB a = true) (hrb : rowB b = true) (ha : Rep.R M w v a) (hb : Rep.R M w u b) (hlow : Low M w) (hza : psz a ≤ 2000000) (hzb : psz b ≤ 2000000) :
    Calls Try.prog 104 #[.agg #[.func (.func fd) #[] #[], .func (.func fl) #[] #[]], v, u] w (Ret fun r w' => r = .bool (rowsF less a b) ∧ Ext w w') :=
  rows_of less fd fl fod fol Hd Hl a b (fun x y hx hrx hry hzy M w v u hx2 hy2 hl => holds_spec less fd fl fod fol Hd Hl _ x y (Nat.le_refl _) M w v u hrx hry hx2 hy2 hl (by omega) hzy) M w v u hra hrb ha hb hlow hza hzb

/-- asked of types, or of rows. -/
theorem asked_spec (less : Bool) (fd fl : Nat) (fod : FnOk Try.prog fd) (fol : FnOk Try.prog fl) (Hd : ∀ (x y : Ty) (M : Nat → Prop) (w : World) (v u : Value), Rep.R M w v x → Rep.R M w u y → Low M w → Calls Try.prog fd #[v, u] w (Ret fun r w' => r = .bool (dynF less x y) ∧ Ext w w')) (Hl : ∀ (x y : Ty) (M : Nat → Prop) (w : World) (v u : Value), Rep.R M w v x → Rep.R M w u y → Low M w → Calls Try.prog fl #[v, u] w (Ret fun r w' => r = .bool (!less && decide (y.op = 9)) ∧ Ext w w')) (a b : Ty) (M : Nat → Prop) (w : World) (v u : Value) (ha : Rep.R M w v a) (hb : Rep.R M w u b) (hlow : Low M w) (hza : psz a ≤ 2000000) (hzb : psz b ≤ 2000000) :
    Calls Try.prog 75 #[.agg #[.func (.func fd) #[] #[], .func (.func fl) #[] #[]], v, u] w (Ret fun r w' => r = .bool (askedF less a b) ∧ Ext w w') := by
  have hE : Below w.heap.size w w := Below.refl _ _
  have hB : w.heap.size ≤ w.heap.size := Nat.le_refl _
  obtain ⟨kva, rfl, opa, nma, n64a, hka⟩ := ty_open ha
  obtain ⟨kvb, rfl, opb, nmb, n64b, hkb⟩ := ty_open hb
  refine c_enter (n := 29) Try.func75 rfl rfl rfl ?_
  refine q0 ?_
  refine l_cons (o_box rfl rfl rfl ?_)
  intro b3 w1 hb_b3 ew1 h3
  replace h3 := h3.at (nM_of hlow hb_b3)
  replace hE := hE.trans (Below.mono ew1 hB)
  replace ha := Rep.ext ha ew1
  replace hka := hka.ext ew1
  replace hb := Rep.ext hb ew1
  replace hkb := hkb.ext ew1
  replace hlow := hlow.ext ew1
  replace hB := Nat.le_trans hB ew1.size
  replace h3 : At _ _ b3 0 [.func (.func fd) #[] #[], .func (.func fl) #[] #[]] := h3
  refine l_cons (o_box rfl rfl rfl ?_)
  intro b4 w2 hb_b4 ew2 h4
  replace h4 : Box _ b4 25 [.int .u8 a.op, .string a.name, .int .i64 a.n, kva] := h4
  replace h4 := h4.at (nM_of hlow hb_b4)
  replace hE := hE.trans (Below.mono ew2 hB)
  replace ha := Rep.ext ha ew2
  replace hka := hka.ext ew2
  replace hb := Rep.ext hb ew2
  replace hkb := hkb.ext ew2
  replace h3 := h3.ext ew2
  replace hlow := hlow.ext ew2
  replace hB := Nat.le_trans hB ew2.size
  refine l_cons (o_box rfl rfl rfl ?_)
  intro b5 w3 hb_b5 ew3 h5
  replace h5 : Box _ b5 25 [.int .u8 b.op, .string b.name, .int .i64 b.n, kvb] := h5
  replace h5 := h5.at (nM_of hlow hb_b5)
  replace hE := hE.trans (Below.mono ew3 hB)
  replace ha := Rep.ext ha ew3
  replace hka := hka.ext ew3
  replace hb := Rep.ext hb ew3
  replace hkb := hkb.ext ew3
  replace h3 := h3.ext ew3
  replace h4 := h4.ext ew3
  replace hlow := hlow.ext ew3
  replace hB := Nat.le_trans hB ew3.size
  refine l_p 1 tbOk rfl (q1 (c_seq (q0 ?_)))
  refine l_cons (o_lds tbOk (fun j v hv => h4.cell j v hv) rfl rfl rfl rfl rfl rfl ?_)
  refine l_cons (o_call fo18 rfl rfl rfl (kRow_specB a M _ _ ha hlow) ?_)
  rintro _ w4 ⟨rfl, ew4⟩
  replace hE := hE.trans (Below.mono ew4 hB)
  replace ha := Rep.ext ha ew4
  replace hka := hka.ext ew4
  replace hb := Rep.ext hb ew4
  replace hkb := hkb.ext ew4
  replace h3 := h3.ext ew4
  replace h4 := h4.ext ew4
  replace h5 := h5.ext ew4
  replace hlow := hlow.ext ew4
  replace hB := Nat.le_trans hB ew4.size
  refine l_p 1 tbOk rfl ?_
  refine l_split 9 _ rfl (fun hra => ?_) (fun hra => ?_)
  · refine l_cons (o_lds tbOk (fun j v hv => h5.cell j v hv) rfl rfl rfl rfl rfl rfl ?_)
    refine l_cons (o_call fo18 rfl rfl rfl (kRow_specB b M _ _ hb hlow) ?_)
    rintro _ w5 ⟨rfl, ew5⟩
    replace hE := hE.trans (Below.mono ew5 hB)
    replace ha := Rep.ext ha ew5
    replace hka := hka.ext ew5
    replace hb := Rep.ext hb ew5
    replace hkb := hkb.ext ew5
    replace h3 := h3.ext ew5
    replace h4 := h4.ext ew5
    replace h5 := h5.ext ew5
    replace hlow := hlow.ext ew5
    replace hB := Nat.le_trans hB ew5.size
    refine l_p 1 tbOk rfl (q1 ?_)
    refine c_if _ rfl (fun hrb => ?_) (fun hrb => ?_)
    · refine q0 ?_
      refine l_cons (o_lds tbOk (fun j v hv => h3.cell j v hv) rfl rfl rfl rfl rfl rfl ?_)
      refine l_cons (o_lds tbOk (fun j v hv => h4.cell j v hv) rfl rfl rfl rfl rfl rfl ?_)
      refine l_cons (o_lds tbOk (fun j v hv => h5.cell j v hv) rfl rfl rfl rfl rfl rfl ?_)
      refine l_cons (o_call fo104 rfl rfl rfl (rows_spec less fd fl fod fol Hd Hl a b M _ _ _ hra hrb ha hb hlow hza hzb) ?_)
      rintro _ w6 ⟨rfl, ew6⟩
      replace hE := hE.trans (Below.mono ew6 hB)
      replace ha := Rep.ext ha ew6
      replace hka := hka.ext ew6
      replace hb := Rep.ext hb ew6
      replace hkb := hkb.ext ew6
      replace h3 := h3.ext ew6
      replace h4 := h4.ext ew6
      replace h5 := h5.ext ew6
      replace hlow := hlow.ext ew6
      replace hB := Nat.le_trans hB ew6.size
      refine l_p 1 tbOk rfl (q1 (c_ret (x_seqR (x_ret1 rfl rfl ?_))))
      exact ⟨by simp [askedF, *], hE⟩
    refine c_skip (x_seq (q0 ?_))
    refine l_cons (o_lds tbOk (fun j v hv => h4.cell j v hv) rfl rfl rfl rfl rfl rfl ?_)
    refine l_cons (o_call fo16 rfl rfl rfl (kRight_specB a M _ _ ha hlow) ?_)
    rintro _ w7 ⟨rfl, ew7⟩
    replace hE := hE.trans (Below.mono ew7 hB)
    replace ha := Rep.ext ha ew7
    replace hka := hka.ext ew7
    replace hb := Rep.ext hb ew7
    replace hkb := hkb.ext ew7
    replace h3 := h3.ext ew7
    replace h4 := h4.ext ew7
    replace h5 := h5.ext ew7
    replace hlow := hlow.ext ew7
    replace hB := Nat.le_trans hB ew7.size
    refine l_p 1 tbOk rfl ?_
    refine l_split 19 _ rfl (fun hrr => ?_) (fun hrr => ?_)
    · refine l_cons (o_lds tbOk (fun j v hv => h5.cell j v hv) rfl rfl rfl rfl rfl rfl ?_)
      refine l_cons (o_call fo16 rfl rfl rfl (kRight_specB b M _ _ hb hlow) ?_)
      rintro _ w8 ⟨rfl, ew8⟩
      replace hE := hE.trans (Below.mono ew8 hB)
      replace ha := Rep.ext ha ew8
      replace hka := hka.ext ew8
      replace hb := Rep.ext hb ew8
      replace hkb := hkb.ext ew8
      replace h3 := h3.ext ew8
      replace h4 := h4.ext ew8
      replace h5 := h5.ext ew8
      replace hlow := hlow.ext ew8
      replace hB := Nat.le_trans hB ew8.size
      refine l_p 2 tbOk rfl ?_
      refine l_split 23 _ rfl (fun hrr2 => ?_) (fun hrr2 => ?_)
      · refine l_cons (o_lds tbOk (fun j v hv => h3.cell j v hv) rfl rfl rfl rfl rfl rfl ?_)
        refine l_cons (o_lds tbOk (fun j v hv => h4.cell j v hv) rfl rfl rfl rfl rfl rfl ?_)
        refine l_cons (o_lds tbOk (fun j v hv => h5.cell j v hv) rfl rfl rfl rfl rfl rfl ?_)
        refine l_cons (o_call fo105 rfl rfl rfl (holds_spec less fd fl fod fol Hd Hl _ a b (Nat.le_refl _) M _ _ _ hrr hrr2 ha hb hlow hza hzb) ?_)
        rintro _ w9 ⟨rfl, ew9⟩
        replace hE := hE.trans (Below.mono ew9 hB)
        replace ha := Rep.ext ha ew9
        replace hka := hka.ext ew9
        replace hb := Rep.ext hb ew9
        replace hkb := hkb.ext ew9
        replace h3 := h3.ext ew9
        replace h4 := h4.ext ew9
        replace h5 := h5.ext ew9
        replace hlow := hlow.ext ew9
        replace hB := Nat.le_trans hB ew9.size
        refine l_p 2 tbOk rfl (q1 (c_ret (x_ret1 rfl rfl ?_)))
        exact ⟨by simp [askedF, *], hE⟩
      refine l_p 6 tbOk rfl (q1 (c_ret (x_ret1 rfl rfl ?_)))
      exact ⟨by simp [askedF, *], hE⟩
    refine l_p 10 tbOk rfl (q1 (c_ret (x_ret1 rfl rfl ?_)))
    exact ⟨by simp [askedF, *], hE⟩
  refine l_p 3 tbOk rfl (q1 (c_ifF rfl (c_skip (x_seq (q0 ?_)))))
  refine l_cons (o_lds tbOk (fun j v hv => h4.cell j v hv) rfl rfl rfl rfl rfl rfl ?_)
  refine l_cons (o_call fo16 rfl rfl rfl (kRight_specB a M _ _ ha hlow) ?_)
  rintro _ w10 ⟨rfl, ew10⟩
  replace hE := hE.trans (Below.mono ew10 hB)
  replace ha := Rep.ext ha ew10
  replace hka := hka.ext ew10
  replace hb := Rep.ext hb ew10
  replace hkb := hkb.ext ew10
  replace h3 := h3.ext ew10
  replace h4 := h4.ext ew10
  replace h5 := h5.ext ew10
  replace hlow := hlow.ext ew10
  replace hB := Nat.le_trans hB ew10.size
  refine l_p 1 tbOk rfl ?_
  refine l_split 19 _ rfl (fun hrr => ?_) (fun hrr => ?_)
  · refine l_cons (o_lds tbOk (fun j v hv => h5.cell j v hv) rfl rfl rfl rfl rfl rfl ?_)
    refine l_cons (o_call fo16 rfl rfl rfl (kRight_specB b M _ _ hb hlow) ?_)
    rintro _ w11 ⟨rfl, ew11⟩
    replace hE := hE.trans (Below.mono ew11 hB)
    replace ha := Rep.ext ha ew11
    replace hka := hka.ext ew11
    replace hb := Rep.ext hb ew11
    replace hkb := hkb.ext ew11
    replace h3 := h3.ext ew11
    replace h4 := h4.ext ew11
    replace h5 := h5.ext ew11
    replace hlow := hlow.ext ew11
    replace hB := Nat.le_trans hB ew11.size
    refine l_p 2 tbOk rfl ?_
    refine l_split 23 _ rfl (fun hrr2 => ?_) (fun hrr2 => ?_)
    · refine l_cons (o_lds tbOk (fun j v hv => h3.cell j v hv) rfl rfl rfl rfl rfl rfl ?_)
      refine l_cons (o_lds tbOk (fun j v hv => h4.cell j v hv) rfl rfl rfl rfl rfl rfl ?_)
      refine l_cons (o_lds tbOk (fun j v hv => h5.cell j v hv) rfl rfl rfl rfl rfl rfl ?_)
      refine l_cons (o_call fo105 rfl rfl rfl (holds_spec less fd fl fod fol Hd Hl _ a b (Nat.le_refl _) M _ _ _ hrr hrr2 ha hb hlow hza hzb) ?_)
      rintro _ w12 ⟨rfl, ew12⟩
      replace hE := hE.trans (Below.mono ew12 hB)
      replace ha := Rep.ext ha ew12
      replace hka := hka.ext ew12
      replace hb := Rep.ext hb ew12
      replace hkb := hkb.ext ew12
      replace h3 := h3.ext ew12
      replace h4 := h4.ext ew12
      replace h5 := h5.ext ew12
      replace hlow := hlow.ext ew12
      replace hB := Nat.le_trans hB ew12.size
      refine l_p 2 tbOk rfl (q1 (c_ret (x_ret1 rfl rfl ?_)))
      exact ⟨by simp [askedF, *], hE⟩
    refine l_p 6 tbOk rfl (q1 (c_ret (x_ret1 rfl rfl ?_)))
    exact ⟨by simp [askedF, *], hE⟩
  refine l_p 10 tbOk rfl (q1 (c_ret (x_ret1 rfl rfl ?_)))
  exact ⟨by simp [askedF, *], hE⟩

/-- The relation. -/
theorem consistent_rel (M : Nat → Prop) (w : World) (hlow0 : Low M w) :
    Calls Try.prog 74 #[] w (Ret fun r w' => r = .agg #[.func (.func 102) #[] #[], .func (.func 103) #[] #[]] ∧ Ext w w') := by
  have hlow := hlow0
  have hB : w.heap.size ≤ w.heap.size := Nat.le_refl _
  have hE : Below w.heap.size w w := Below.refl _ _
  have hsub : ∀ b, M b → M b := fun _ h => h
  refine c_enter (n := 2) Try.func74 rfl rfl rfl ?_
  refine q0 ?_
  refine l_cons (o_new tbOk rfl rfl rfl ?_)
  intro b0 w1 qb0 ew1 hb0
  have sw1 := Stp.add ew1 hlow hB (Nat.le_of_eq qb0.symm) hb0.lt
  have h0 : MB w.heap.size (Rw.Add M b0) w1 b0 79 [.nilFunc, .nilFunc] := MB.mk' hb0 qb0 hB
  replace hE := hE.trans sw1.below
  replace hsub := fun b h => sw1.sub b (hsub b h)
  replace hlow := sw1.low
  replace hB := Nat.le_trans hB sw1.upd.1
  refine q1 (q0 ?_)
  refine l_cons (o_build (cells := [.func (.func 102) #[] #[], .func (.func 103) #[] #[]]) bd79 rfl rfl rfl rfl rfl ?_)
  refine l_cons (o_st tbOk h0.box rfl rfl rfl rfl (by intro u hu; simp [Value.cells] at hu; rcases hu with rfl | rfl <;> rfl) rfl rfl ?_)
  intro w2 hw2 qw2 bew2
  have uw2 : UpdB _ _ _ := ⟨qw2, bew2⟩
  have sw2 := uw2.stp h0.inM hlow h0.ge
  have frw2 := qw2.2
  replace hE := hE.trans sw2.below
  replace hsub := fun b h => sw2.sub b (hsub b h)
  replace hlow := sw2.low
  replace hB := Nat.le_trans hB sw2.upd.1
  replace h0 : MB w.heap.size _ w2 b0 _ [.func (.func 102) #[] #[], .func (.func 103) #[] #[]] := ⟨hw2, h0.inM, h0.ge⟩
  refine q1 (c_ret ?_)
  refine x_ret1s tbOk (fun j v hv => h0.cell j v hv) rfl rfl rfl rfl rfl ?_
  exact ⟨rfl, hE⟩

/-- Whatever is asked. -/
theorem consistent_spec (a b : Ty) (M : Nat → Prop) (w : World) (v u : Value) (ha : Rep.R M w v a) (hb : Rep.R M w u b) (hlow : Low M w) (hza : psz a ≤ 2000000) (hzb : psz b ≤ 2000000) :
    Calls Try.prog 40 #[v, u] w (Ret fun r w' => r = .bool (askedF false a b) ∧ Ext w w') := by
  have hE : Below w.heap.size w w := Below.refl _ _
  have hB : w.heap.size ≤ w.heap.size := Nat.le_refl _
  obtain ⟨kva, rfl, opa, nma, n64a, hka⟩ := ty_open ha
  obtain ⟨kvb, rfl, opb, nmb, n64b, hkb⟩ := ty_open hb
  refine c_enter (n := 9) Try.func40 rfl rfl rfl ?_
  refine q0 ?_
  refine l_cons (o_box rfl rfl rfl ?_)
  intro b2 w1 hb_b2 ew1 h2
  replace h2 : Box _ b2 25 [.int .u8 a.op, .string a.name, .int .i64 a.n, kva] := h2
  replace h2 := h2.at (nM_of hlow hb_b2)
  replace hE := hE.trans (Below.mono ew1 hB)
  replace ha := Rep.ext ha ew1
  replace hka := hka.ext ew1
  replace hb := Rep.ext hb ew1
  replace hkb := hkb.ext ew1
  replace hlow := hlow.ext ew1
  replace hB := Nat.le_trans hB ew1.size
  refine l_cons (o_box rfl rfl rfl ?_)
  intro b3 w2 hb_b3 ew2 h3
  replace h3 : Box _ b3 25 [.int .u8 b.op, .string b.name, .int .i64 b.n, kvb] := h3
  replace h3 := h3.at (nM_of hlow hb_b3)
  replace hE := hE.trans (Below.mono ew2 hB)
  replace ha := Rep.ext ha ew2
  replace hka := hka.ext ew2
  replace hb := Rep.ext hb ew2
  replace hkb := hkb.ext ew2
  replace h2 := h2.ext ew2
  replace hlow := hlow.ext ew2
  replace hB := Nat.le_trans hB ew2.size
  refine l_p 1 tbOk rfl (q1 (c_seq ?_))
  refine a_beg Ext rfl ?_
  intro w3 ew3
  replace hE := hE.trans (Below.mono ew3 hB)
  replace ha := Rep.ext ha ew3
  replace hka := hka.ext ew3
  replace hb := Rep.ext hb ew3
  replace hkb := hkb.ext ew3
  replace h2 := h2.ext ew3
  replace h3 := h3.ext ew3
  replace hlow := hlow.ext ew3
  replace hB := Nat.le_trans hB ew3.size
  have hS : Ext w3 w3 := ext_refl _
  have D_hka := hka
  have D_hkb := hkb
  have D_h2 := h2
  have D_h3 := h3
  refine a_lds 1 tbOk (fun _ hs j v hv => (D_h2.ext hs).cell j v hv) rfl rfl rfl rfl rfl rfl rfl (by kernel_rfl) (fun _ _ _ h => h) hS ?_
  refine a_lds 2 tbOk (fun _ hs j v hv => (D_h3.ext hs).cell j v hv) rfl rfl rfl rfl rfl rfl rfl (by kernel_rfl) (fun _ _ _ h => h) hS ?_
  refine a_one 0 rfl (by kernel_rfl) (o_call fo74 rfl rfl rfl (consistent_rel M _ hlow) ?_)
  rintro _ w4 ⟨rfl, ew4⟩
  replace hS := hS.then ew4
  replace hE := hE.trans (Below.mono ew4 hB)
  replace ha := Rep.ext ha ew4
  replace hka := hka.ext ew4
  replace hb := Rep.ext hb ew4
  replace hkb := hkb.ext ew4
  replace h2 := h2.ext ew4
  replace h3 := h3.ext ew4
  replace hlow := hlow.ext ew4
  replace hB := Nat.le_trans hB ew4.size
  refine ⟨hS, ?_⟩
  refine a_bar 3 rfl (by kernel_rfl) (by kernel_rfl) (o_call fo75 rfl rfl rfl (asked_spec false 102 103 fo102 fo103 eitherP_spec cons1_spec a b M _ _ _ ha hb hlow hza hzb) ?_)
  rintro _ w5 ⟨rfl, ew5⟩
  replace hS := hS.then ew5
  replace hE := hE.trans (Below.mono ew5 hB)
  replace ha := Rep.ext ha ew5
  replace hka := hka.ext ew5
  replace hb := Rep.ext hb ew5
  replace hkb := hkb.ext ew5
  replace h2 := h2.ext ew5
  replace h3 := h3.ext ew5
  replace hlow := hlow.ext ew5
  replace hB := Nat.le_trans hB ew5.size
  refine a_p 4 tbOk rfl rfl rfl rfl (by kernel_rfl) (fun _ _ _ h => h) hS ?_
  refine a_end (by kernel_rfl) ?_
  refine x_seq (c_ret (x_ret1 rfl rfl ?_))
  exact ⟨rfl, hE⟩

/-- The relation. -/
theorem lessP_rel (M : Nat → Prop) (w : World) (hlow0 : Low M w) :
    Calls Try.prog 78 #[] w (Ret fun r w' => r = .agg #[.func (.func 108) #[] #[], .func (.func 109) #[] #[]] ∧ Ext w w') := by
  have hlow := hlow0
  have hB : w.heap.size ≤ w.heap.size := Nat.le_refl _
  have hE : Below w.heap.size w w := Below.refl _ _
  have hsub : ∀ b, M b → M b := fun _ h => h
  refine c_enter (n := 2) Try.func78 rfl rfl rfl ?_
  refine q0 ?_
  refine l_cons (o_new tbOk rfl rfl rfl ?_)
  intro b0 w1 qb0 ew1 hb0
  have sw1 := Stp.add ew1 hlow hB (Nat.le_of_eq qb0.symm) hb0.lt
  have h0 : MB w.heap.size (Rw.Add M b0) w1 b0 79 [.nilFunc, .nilFunc] := MB.mk' hb0 qb0 hB
  replace hE := hE.trans sw1.below
  replace hsub := fun b h => sw1.sub b (hsub b h)
  replace hlow := sw1.low
  replace hB := Nat.le_trans hB sw1.upd.1
  refine q1 (q0 ?_)
  refine l_cons (o_build (cells := [.func (.func 108) #[] #[], .func (.func 109) #[] #[]]) bd79 rfl rfl rfl rfl rfl ?_)
  refine l_cons (o_st tbOk h0.box rfl rfl rfl rfl (by intro u hu; simp [Value.cells] at hu; rcases hu with rfl | rfl <;> rfl) rfl rfl ?_)
  intro w2 hw2 qw2 bew2
  have uw2 : UpdB _ _ _ := ⟨qw2, bew2⟩
  have sw2 := uw2.stp h0.inM hlow h0.ge
  have frw2 := qw2.2
  replace hE := hE.trans sw2.below
  replace hsub := fun b h => sw2.sub b (hsub b h)
  replace hlow := sw2.low
  replace hB := Nat.le_trans hB sw2.upd.1
  replace h0 : MB w.heap.size _ w2 b0 _ [.func (.func 108) #[] #[], .func (.func 109) #[] #[]] := ⟨hw2, h0.inM, h0.ge⟩
  refine q1 (c_ret ?_)
  refine x_ret1s tbOk (fun j v hv => h0.cell j v hv) rfl rfl rfl rfl rfl ?_
  exact ⟨rfl, hE⟩

/-- Whatever is asked. -/
theorem lessP_spec (a b : Ty) (M : Nat → Prop) (w : World) (v u : Value) (ha : Rep.R M w v a) (hb : Rep.R M w u b) (hlow : Low M w) (hza : psz a ≤ 2000000) (hzb : psz b ≤ 2000000) :
    Calls Try.prog 42 #[v, u] w (Ret fun r w' => r = .bool (askedF true a b) ∧ Ext w w') := by
  have hE : Below w.heap.size w w := Below.refl _ _
  have hB : w.heap.size ≤ w.heap.size := Nat.le_refl _
  obtain ⟨kva, rfl, opa, nma, n64a, hka⟩ := ty_open ha
  obtain ⟨kvb, rfl, opb, nmb, n64b, hkb⟩ := ty_open hb
  refine c_enter (n := 9) Try.func42 rfl rfl rfl ?_
  refine q0 ?_
  refine l_cons (o_box rfl rfl rfl ?_)
  intro b2 w1 hb_b2 ew1 h2
  replace h2 : Box _ b2 25 [.int .u8 a.op, .string a.name, .int .i64 a.n, kva] := h2
  replace h2 := h2.at (nM_of hlow hb_b2)
  replace hE := hE.trans (Below.mono ew1 hB)
  replace ha := Rep.ext ha ew1
  replace hka := hka.ext ew1
  replace hb := Rep.ext hb ew1
  replace hkb := hkb.ext ew1
  replace hlow := hlow.ext ew1
  replace hB := Nat.le_trans hB ew1.size
  refine l_cons (o_box rfl rfl rfl ?_)
  intro b3 w2 hb_b3 ew2 h3
  replace h3 : Box _ b3 25 [.int .u8 b.op, .string b.name, .int .i64 b.n, kvb] := h3
  replace h3 := h3.at (nM_of hlow hb_b3)
  replace hE := hE.trans (Below.mono ew2 hB)
  replace ha := Rep.ext ha ew2
  replace hka := hka.ext ew2
  replace hb := Rep.ext hb ew2
  replace hkb := hkb.ext ew2
  replace h2 := h2.ext ew2
  replace hlow := hlow.ext ew2
  replace hB := Nat.le_trans hB ew2.size
  refine l_p 1 tbOk rfl (q1 (c_seq ?_))
  refine a_beg Ext rfl ?_
  intro w3 ew3
  replace hE := hE.trans (Below.mono ew3 hB)
  replace ha := Rep.ext ha ew3
  replace hka := hka.ext ew3
  replace hb := Rep.ext hb ew3
  replace hkb := hkb.ext ew3
  replace h2 := h2.ext ew3
  replace h3 := h3.ext ew3
  replace hlow := hlow.ext ew3
  replace hB := Nat.le_trans hB ew3.size
  have hS : Ext w3 w3 := ext_refl _
  have D_hka := hka
  have D_hkb := hkb
  have D_h2 := h2
  have D_h3 := h3
  refine a_lds 1 tbOk (fun _ hs j v hv => (D_h2.ext hs).cell j v hv) rfl rfl rfl rfl rfl rfl rfl (by kernel_rfl) (fun _ _ _ h => h) hS ?_
  refine a_lds 2 tbOk (fun _ hs j v hv => (D_h3.ext hs).cell j v hv) rfl rfl rfl rfl rfl rfl rfl (by kernel_rfl) (fun _ _ _ h => h) hS ?_
  refine a_one 0 rfl (by kernel_rfl) (o_call fo78 rfl rfl rfl (lessP_rel M _ hlow) ?_)
  rintro _ w4 ⟨rfl, ew4⟩
  replace hS := hS.then ew4
  replace hE := hE.trans (Below.mono ew4 hB)
  replace ha := Rep.ext ha ew4
  replace hka := hka.ext ew4
  replace hb := Rep.ext hb ew4
  replace hkb := hkb.ext ew4
  replace h2 := h2.ext ew4
  replace h3 := h3.ext ew4
  replace hlow := hlow.ext ew4
  replace hB := Nat.le_trans hB ew4.size
  refine ⟨hS, ?_⟩
  refine a_bar 3 rfl (by kernel_rfl) (by kernel_rfl) (o_call fo75 rfl rfl rfl (asked_spec true 108 109 fo108 fo109 second_spec less1_spec a b M _ _ _ ha hb hlow hza hzb) ?_)
  rintro _ w5 ⟨rfl, ew5⟩
  replace hS := hS.then ew5
  replace hE := hE.trans (Below.mono ew5 hB)
  replace ha := Rep.ext ha ew5
  replace hka := hka.ext ew5
  replace hb := Rep.ext hb ew5
  replace hkb := hkb.ext ew5
  replace h2 := h2.ext ew5
  replace h3 := h3.ext ew5
  replace hlow := hlow.ext ew5
  replace hB := Nat.le_trans hB ew5.size
  refine a_p 4 tbOk rfl rfl rfl rfl (by kernel_rfl) (fun _ _ _ h => h) hS ?_
  refine a_end (by kernel_rfl) ?_
  refine x_seq (c_ret (x_ret1 rfl rfl ?_))
  exact ⟨rfl, hE⟩

end Go.Proofs.Ytpoahmeacjggfaa
