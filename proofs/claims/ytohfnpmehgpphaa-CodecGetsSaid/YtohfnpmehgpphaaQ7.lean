/- Part 7 of the proof: rules, plain laws and walks, merged out of smaller texts. -/
import Derived.Test.YtohfnpmehgpphaaQ6
namespace Go.Proofs.Ytohfnpmehgpphaa
open Go Rw Go.RowKit
set_option maxRecDepth 100000
theorem ofType_spec (l : List UInt8) (hl : l.length ≤ 65536) (M : Nat → Prop) (w : World) (v : Value) (hs : Sl M w v l) (hlow0 : Low M w) :
  Calls Try.prog 36 #[v] w (Ret fun r w' => (∃ x, r = .tuple #[x, .bool (okGY l)] ∧ Rep.R M w' x (bif okGY l then getY l else tyZ)) ∧ Ext w w') := by
 have hlow := hlow0
 have hB : w.heap.size ≤ w.heap.size := Nat.le_refl _
 have hE : Below w.heap.size w w := Below.refl _ _
 have hsub : ∀ b, M b → M b := fun _ h => h
 refine c_enter (n := 27) Try.func36 rfl rfl rfl ?_
 refine q0 ?_
 refine lC (o_new tK rfl rfl rfl ?_)
 intro b2 w1 qb2 ew1 hb2
 have sw1 := Stp.add ew1 hlow hB (Nat.le_of_eq qb2.symm) hb2.lt
 have h2 : MB w.heap.size (Rw.Add M b2) w1 b2 40 [.int .u8 0, .string ⟨#[]⟩, .int .i64 0, .slice none 0 0] := MB.mk' hb2 qb2 hB
 replace hE := hE.trans sw1.below
 replace hs := hs.stp sw1
 replace hsub := sw1.sb hsub
 replace hlow := sw1.low
 replace hB := sw1.z hB
 refine l_p 1 tK rfl (q1 (q0 (l_p 1 tK rfl ?_)))
 have hcl := takeType_spec (l.length + 1) l 0 _ _ _ (Nat.zero_le _) (by omega) (by omega) hs hlow
 rw [List.drop_zero] at hcl
 refine lC (o_call fo80 rfl rfl rfl (hcl) ?_)
 rintro _ w2 ⟨⟨xk, tk, rfl, hx, hty⟩, ew2⟩
 replace h2 := h2.ext hlow hB ew2
 replace hE := ew2.bl hE hB
 replace hs := hs.ext ew2
 replace hlow := hlow.ext ew2
 replace hB := ew2.z hB
 obtain ⟨kvk, rfl, opk, nmk, n64k, hkk⟩ := ty_open hx
 refine l_p 3 tK rfl ?_
 refine lC (o_new tK rfl rfl rfl ?_)
 intro b4 w3 qb4 ew3 hb4
 have nb4 := nM_of hlow qb4
 refine lC (o_st tK hb4 rfl rfl rfl rfl (Rep.one hx) rfl rfl ?_)
 intro w4 h4 uw4 bew4
 have ew4 : Ext w2 w4 := ew3.trans (bew4 _ (Nat.le_of_eq qb4.symm))
 replace h2 := h2.ext hlow hB ew4
 replace hE := ew4.bl hE hB
 replace hs := hs.ext ew4
 replace hx := Rep.ext hx ew4
 replace hkk := hkk.ext ew4
 replace hlow := hlow.ext ew4
 replace hB := ew4.z hB
 replace h4 : Box w4 b4 40 [.int .u8 tk.op, .string tk.name, .int .i64 tk.n, kvk] := h4
 replace h4 := h4.at nb4
 refine l_p 1 tK rfl (q1 (c_seq (q0 (l_p 2 tK rfl ?_))))
 refine lC (o_len tK hs rfl rfl rfl rfl rfl ?_)
 refine l_p 2 tK rfl ?_
 refine l_splitN 15 _ rfl (fun c1 => ?_) (fun c1 => ?_)
 ·have hok : okGY l = false := of_type_no c1
  refine l_p 9 tK rfl (q1 (c_ifT rfl (q0 ?_)))
  refine lC (o_build (cells := [.int .u8 0, .string ⟨#[]⟩, .int .i64 0, .slice none 0 0]) (css := []) bd40 rfl rfl rfl rfl rfl ?_)
  refine lC (o_st tK h2.box rfl rfl rfl rfl (by intro u hu; simp [Value.cells] at hu; rcases hu with rfl | rfl | rfl | rfl <;> rfl) rfl rfl ?_)
  intro w5 hw5 qw5 bew5
  have uw5 : UpdB _ _ _ := ⟨qw5, bew5⟩
  have sw5 := uw5.stp h2.inM hlow h2.ge
  have frw5 := qw5.2
  replace hE := hE.trans sw5.below
  replace hs := hs.stp sw5
  replace hx := Rep.stp hx sw5
  replace hkk := hkk.stp sw5
  replace h4 := h4.stp sw5
  replace hsub := sw5.sb hsub
  replace hlow := sw5.low
  replace hB := sw5.z hB
  replace h2 : MB w.heap.size _ w5 b2 _ [.int .u8 0, .string ⟨#[]⟩, .int .i64 0, .slice none 0 0] := ⟨hw5, h2.inM, h2.ge⟩
  refine l_p 1 tK rfl (q1 (c_ret (x_seqR ?_)))
  refine x_ret2st tK (fun j v hv => h2.cell j v hv) rfl rfl rfl rfl rfl rfl ?_
  rw [hok]
  exact ⟨⟨_, rfl, ty_mk (by decide) (by decide) ⟨by decide, by decide⟩ sl_nil⟩, hE⟩
 obtain ⟨hok1, hgt⟩ := of_type_yes hty (by first | (exact Classical.not_not.1 c1) | (simpa using c1))
 refine lC (o_lds tK (fun j v hv => h4.cell j v hv) rfl rfl rfl rfl rfl rfl ?_)
 refine lC (o_call fo45 rfl rfl rfl (refRight_spec tk _ _ _ hx hlow (by have h8 := kindE_psz (l.length + 1) l false; have h9 : getY l = (kindE (l.length + 1) l false).1 := rfl; rw [← hgt, h9]; omega)) ?_)
 rintro _ w6 ⟨rfl, ew6⟩
 replace h2 := h2.ext hlow hB ew6
 replace hE := ew6.bl hE hB
 replace hs := hs.ext ew6
 replace hx := Rep.ext hx ew6
 replace hkk := hkk.ext ew6
 replace h4 := h4.ext ew6
 replace hlow := hlow.ext ew6
 replace hB := ew6.z hB
 refine l_p 2 tK rfl ?_
 refine l_splitB 19 _ rfl (fun c2 => ?_) (fun c2 => ?_)
 ·refine lC (o_lds tK (fun j v hv => h4.cell j v hv) rfl rfl rfl rfl rfl rfl ?_)
  refine lC (o_call fo20 rfl rfl rfl (refRow_spec tk _ _ _ hx hlow (by have h8 := kindE_psz (l.length + 1) l false; have h9 : getY l = (kindE (l.length + 1) l false).1 := rfl; rw [← hgt, h9]; omega)) ?_)
  rintro _ w7 ⟨rfl, ew7⟩
  replace h2 := h2.ext hlow hB ew7
  replace hE := ew7.bl hE hB
  replace hs := hs.ext ew7
  replace hx := Rep.ext hx ew7
  replace hkk := hkk.ext ew7
  replace h4 := h4.ext ew7
  replace hlow := hlow.ext ew7
  replace hB := ew7.z hB
  refine l_p 3 tK rfl (q1 ?_)
  refine c_ifB _ rfl (fun c3 => ?_) (fun c3 => ?_)
  ·refine q0 ?_
   refine lC (o_build (cells := [.int .u8 0, .string ⟨#[]⟩, .int .i64 0, .slice none 0 0]) (css := []) bd40 rfl rfl rfl rfl rfl ?_)
   refine lC (o_st tK h2.box rfl rfl rfl rfl (by intro u hu; simp [Value.cells] at hu; rcases hu with rfl | rfl | rfl | rfl <;> rfl) rfl rfl ?_)
   intro w8 hw8 qw8 bew8
   have uw8 : UpdB _ _ _ := ⟨qw8, bew8⟩
   have sw8 := uw8.stp h2.inM hlow h2.ge
   have frw8 := qw8.2
   replace hE := hE.trans sw8.below
   replace hs := hs.stp sw8
   replace hx := Rep.stp hx sw8
   replace hkk := hkk.stp sw8
   replace h4 := h4.stp sw8
   replace hsub := sw8.sb hsub
   replace hlow := sw8.low
   replace hB := sw8.z hB
   replace h2 : MB w.heap.size _ w8 b2 _ [.int .u8 0, .string ⟨#[]⟩, .int .i64 0, .slice none 0 0] := ⟨hw8, h2.inM, h2.ge⟩
   refine l_p 1 tK rfl (q1 (c_ret (x_seqR ?_)))
   refine x_ret2st tK (fun j v hv => h2.cell j v hv) rfl rfl rfl rfl rfl rfl ?_
   have hok : okGY l = false := by rw [hok1]; simp_all
   rw [hok]
   exact ⟨⟨_, rfl, ty_mk (by decide) (by decide) ⟨by decide, by decide⟩ sl_nil⟩, hE⟩
  refine c_skip (x_seq (q0 ?_))
  refine lC (o_lds tK (fun j v hv => h4.cell j v hv) rfl rfl rfl rfl rfl rfl ?_)
  refine lC (o_st tK h2.box rfl rfl rfl rfl (Rep.one hx) rfl rfl ?_)
  intro w9 hw9 qw9 bew9
  have uw9 : UpdB _ _ _ := ⟨qw9, bew9⟩
  have sw9 := uw9.stp h2.inM hlow h2.ge
  have frw9 := qw9.2
  replace hE := hE.trans sw9.below
  replace hs := hs.stp sw9
  replace hx := Rep.stp hx sw9
  replace hkk := hkk.stp sw9
  replace h4 := h4.stp sw9
  replace hsub := sw9.sb hsub
  replace hlow := sw9.low
  replace hB := sw9.z hB
  replace h2 : MB w.heap.size _ w9 b2 _ [.int .u8 tk.op, .string tk.name, .int .i64 tk.n, kvk] := ⟨hw9, h2.inM, h2.ge⟩
  refine l_p 1 tK rfl (q1 (c_ret ?_))
  refine x_ret2st tK (fun j v hv => h2.cell j v hv) rfl rfl rfl rfl rfl rfl ?_
  have hok : okGY l = true := by rw [hok1]; simp_all
  rw [hok, cond_true, hgt]
  exact ⟨⟨_, rfl, Rep.wk hx (fun b _ h => hsub b h)⟩, hE⟩
 refine l_p 5 tK rfl (q1 (c_ifF rfl (c_skip (x_seq (q0 ?_)))))
 refine lC (o_lds tK (fun j v hv => h4.cell j v hv) rfl rfl rfl rfl rfl rfl ?_)
 refine lC (o_st tK h2.box rfl rfl rfl rfl (Rep.one hx) rfl rfl ?_)
 intro w10 hw10 qw10 bew10
 have uw10 : UpdB _ _ _ := ⟨qw10, bew10⟩
 have sw10 := uw10.stp h2.inM hlow h2.ge
 have frw10 := qw10.2
 replace hE := hE.trans sw10.below
 replace hs := hs.stp sw10
 replace hx := Rep.stp hx sw10
 replace hkk := hkk.stp sw10
 replace h4 := h4.stp sw10
 replace hsub := sw10.sb hsub
 replace hlow := sw10.low
 replace hB := sw10.z hB
 replace h2 : MB w.heap.size _ w10 b2 _ [.int .u8 tk.op, .string tk.name, .int .i64 tk.n, kvk] := ⟨hw10, h2.inM, h2.ge⟩
 refine l_p 1 tK rfl (q1 (c_ret ?_))
 refine x_ret2st tK (fun j v hv => h2.cell j v hv) rfl rfl rfl rfl rfl rfl ?_
 have hok : okGY l = true := by rw [hok1]; simp_all
 rw [hok, cond_true, hgt]
 exact ⟨⟨_, rfl, Rep.wk hx (fun b _ h => hsub b h)⟩, hE⟩
theorem ofTerm_spec (l : List UInt8) (hl : l.length ≤ 65536) (M : Nat → Prop) (w : World) (v : Value) (hs : Sl M w v l) (hlow0 : Low M w) :
  Calls Try.prog 35 #[v] w (Ret fun r w' => (∃ x, r = .tuple #[x, .bool (okGT l)] ∧ Rep.R M w' x (bif okGT l then getT l else tmZ)) ∧ Ext w w') := by
 have hlow := hlow0
 have hB : w.heap.size ≤ w.heap.size := Nat.le_refl _
 have hE : Below w.heap.size w w := Below.refl _ _
 have hsub : ∀ b, M b → M b := fun _ h => h
 refine c_enter (n := 22) Try.func35 rfl rfl rfl ?_
 refine q0 ?_
 refine lC (o_new tK rfl rfl rfl ?_)
 intro b2 w1 qb2 ew1 hb2
 have sw1 := Stp.add ew1 hlow hB (Nat.le_of_eq qb2.symm) hb2.lt
 have h2 : MB w.heap.size (Rw.Add M b2) w1 b2 84 [.int .u8 0, .string ⟨#[]⟩, .string ⟨#[]⟩, .int .i64 0, .bool false, .int .u8 0, .string ⟨#[]⟩, .int .i64 0, .slice none 0 0, .slice none 0 0] := MB.mk' hb2 qb2 hB
 replace hE := hE.trans sw1.below
 replace hs := hs.stp sw1
 replace hsub := sw1.sb hsub
 replace hlow := sw1.low
 replace hB := sw1.z hB
 refine l_p 1 tK rfl (q1 (q0 (l_p 1 tK rfl ?_)))
 have hcl := takeTerm_spec (l.length + 1) l 0 _ _ _ (Nat.zero_le _) (by omega) (by omega) hs hlow
 rw [List.drop_zero] at hcl
 refine lC (o_call fo79 rfl rfl rfl (hcl) ?_)
 rintro _ w2 ⟨⟨xk, tk, rfl, hx, hty⟩, ew2⟩
 replace h2 := h2.ext hlow hB ew2
 replace hE := ew2.bl hE hB
 replace hs := hs.ext ew2
 replace hlow := hlow.ext ew2
 replace hB := ew2.z hB
 obtain ⟨akvk, kvk, rfl, opk, nmk, agk, n64k, hak, hkk⟩ := tm_open hx
 refine l_p 3 tK rfl ?_
 refine lC (o_new tK rfl rfl rfl ?_)
 intro b4 w3 qb4 ew3 hb4
 have nb4 := nM_of hlow qb4
 refine lC (o_st tK hb4 rfl rfl rfl rfl (Rep.one hx) rfl rfl ?_)
 intro w4 h4 uw4 bew4
 have ew4 : Ext w2 w4 := ew3.trans (bew4 _ (Nat.le_of_eq qb4.symm))
 replace h2 := h2.ext hlow hB ew4
 replace hE := ew4.bl hE hB
 replace hs := hs.ext ew4
 replace hx := Rep.ext hx ew4
 replace hak := Rep.ext hak ew4
 replace hkk := hkk.ext ew4
 replace hlow := hlow.ext ew4
 replace hB := ew4.z hB
 replace h4 : Box w4 b4 84 [.int .u8 tk.op, .string tk.name, .string tk.arg, .int .i64 tk.n, .bool tk.has, .int .u8 tk.ann.op, .string tk.ann.name, .int .i64 tk.ann.n, akvk, kvk] := h4
 replace h4 := h4.at nb4
 refine l_p 1 tK rfl (q1 (c_seq (q0 (l_p 2 tK rfl ?_))))
 refine lC (o_len tK hs rfl rfl rfl rfl rfl ?_)
 refine l_p 2 tK rfl ?_
 refine l_splitN 15 _ rfl (fun c1 => ?_) (fun c1 => ?_)
 ·have hok : okGT l = false := of_term_no c1
  refine l_p 4 tK rfl (q1 (c_ifT rfl (q0 ?_)))
  refine lC (o_build (cells := [.int .u8 0, .string ⟨#[]⟩, .string ⟨#[]⟩, .int .i64 0, .bool false, .int .u8 0, .string ⟨#[]⟩, .int .i64 0, .slice none 0 0, .slice none 0 0]) (css := []) bd84 rfl rfl rfl rfl rfl ?_)
  refine lC (o_st tK h2.box rfl rfl rfl rfl (by intro u hu; simp [Value.cells] at hu; rcases hu with rfl | rfl | rfl | rfl | rfl | rfl | rfl | rfl | rfl | rfl <;> rfl) rfl rfl ?_)
  intro w5 hw5 qw5 bew5
  have uw5 : UpdB _ _ _ := ⟨qw5, bew5⟩
  have sw5 := uw5.stp h2.inM hlow h2.ge
  have frw5 := qw5.2
  replace hE := hE.trans sw5.below
  replace hs := hs.stp sw5
  replace hx := Rep.stp hx sw5
  replace hak := Rep.stp hak sw5
  replace hkk := hkk.stp sw5
  replace h4 := h4.stp sw5
  replace hsub := sw5.sb hsub
  replace hlow := sw5.low
  replace hB := sw5.z hB
  replace h2 : MB w.heap.size _ w5 b2 _ [.int .u8 0, .string ⟨#[]⟩, .string ⟨#[]⟩, .int .i64 0, .bool false, .int .u8 0, .string ⟨#[]⟩, .int .i64 0, .slice none 0 0, .slice none 0 0] := ⟨hw5, h2.inM, h2.ge⟩
  refine l_p 1 tK rfl (q1 (c_ret (x_seqR ?_)))
  refine x_ret2st tK (fun j v hv => h2.cell j v hv) rfl rfl rfl rfl rfl rfl ?_
  rw [hok]
  exact ⟨⟨_, rfl, tm_mk (ann := .mk 0 ⟨#[]⟩ 0 []) (by decide) (by decide) (by decide) ⟨by decide, by decide⟩ (ty_mk (by decide) (by decide) ⟨by decide, by decide⟩ sl_nil) sl_nil⟩, hE⟩
 obtain ⟨hok1, hgt⟩ := of_term_yes hty (by first | (exact Classical.not_not.1 c1) | (simpa using c1))
 refine lC (o_lds tK (fun j v hv => h4.cell j v hv) rfl rfl rfl rfl rfl rfl ?_)
 refine lC (o_call fo43 rfl rfl rfl (refTR_spec tk false _ _ _ hx hlow (hgt ▸ getT_ann (by omega))) ?_)
 rintro _ w6 ⟨rfl, ew6⟩
 replace h2 := h2.ext hlow hB ew6
 replace hE := ew6.bl hE hB
 replace hs := hs.ext ew6
 replace hx := Rep.ext hx ew6
 replace hak := Rep.ext hak ew6
 replace hkk := hkk.ext ew6
 replace h4 := h4.ext ew6
 replace hlow := hlow.ext ew6
 replace hB := ew6.z hB
 refine l_p 2 tK rfl (q1 ?_)
 refine c_ifB _ rfl (fun c2 => ?_) (fun c2 => ?_)
 ·refine q0 ?_
  refine lC (o_build (cells := [.int .u8 0, .string ⟨#[]⟩, .string ⟨#[]⟩, .int .i64 0, .bool false, .int .u8 0, .string ⟨#[]⟩, .int .i64 0, .slice none 0 0, .slice none 0 0]) (css := []) bd84 rfl rfl rfl rfl rfl ?_)
  refine lC (o_st tK h2.box rfl rfl rfl rfl (by intro u hu; simp [Value.cells] at hu; rcases hu with rfl | rfl | rfl | rfl | rfl | rfl | rfl | rfl | rfl | rfl <;> rfl) rfl rfl ?_)
  intro w7 hw7 qw7 bew7
  have uw7 : UpdB _ _ _ := ⟨qw7, bew7⟩
  have sw7 := uw7.stp h2.inM hlow h2.ge
  have frw7 := qw7.2
  replace hE := hE.trans sw7.below
  replace hs := hs.stp sw7
  replace hx := Rep.stp hx sw7
  replace hak := Rep.stp hak sw7
  replace hkk := hkk.stp sw7
  replace h4 := h4.stp sw7
  replace hsub := sw7.sb hsub
  replace hlow := sw7.low
  replace hB := sw7.z hB
  replace h2 : MB w.heap.size _ w7 b2 _ [.int .u8 0, .string ⟨#[]⟩, .string ⟨#[]⟩, .int .i64 0, .bool false, .int .u8 0, .string ⟨#[]⟩, .int .i64 0, .slice none 0 0, .slice none 0 0] := ⟨hw7, h2.inM, h2.ge⟩
  refine l_p 1 tK rfl (q1 (c_ret (x_seqR ?_)))
  refine x_ret2st tK (fun j v hv => h2.cell j v hv) rfl rfl rfl rfl rfl rfl ?_
  have hok : okGT l = false := by rw [hok1]; simp_all
  rw [hok]
  exact ⟨⟨_, rfl, tm_mk (ann := .mk 0 ⟨#[]⟩ 0 []) (by decide) (by decide) (by decide) ⟨by decide, by decide⟩ (ty_mk (by decide) (by decide) ⟨by decide, by decide⟩ sl_nil) sl_nil⟩, hE⟩
 refine c_skip (x_seq (q0 ?_))
 refine lC (o_lds tK (fun j v hv => h4.cell j v hv) rfl rfl rfl rfl rfl rfl ?_)
 refine lC (o_st tK h2.box rfl rfl rfl rfl (Rep.one hx) rfl rfl ?_)
 intro w8 hw8 qw8 bew8
 have uw8 : UpdB _ _ _ := ⟨qw8, bew8⟩
 have sw8 := uw8.stp h2.inM hlow h2.ge
 have frw8 := qw8.2
 replace hE := hE.trans sw8.below
 replace hs := hs.stp sw8
 replace hx := Rep.stp hx sw8
 replace hak := Rep.stp hak sw8
 replace hkk := hkk.stp sw8
 replace h4 := h4.stp sw8
 replace hsub := sw8.sb hsub
 replace hlow := sw8.low
 replace hB := sw8.z hB
 replace h2 : MB w.heap.size _ w8 b2 _ [.int .u8 tk.op, .string tk.name, .string tk.arg, .int .i64 tk.n, .bool tk.has, .int .u8 tk.ann.op, .string tk.ann.name, .int .i64 tk.ann.n, akvk, kvk] := ⟨hw8, h2.inM, h2.ge⟩
 refine l_p 1 tK rfl (q1 (c_ret ?_))
 refine x_ret2st tK (fun j v hv => h2.cell j v hv) rfl rfl rfl rfl rfl rfl ?_
 have hok : okGT l = true := by rw [hok1]; simp_all
 rw [hok, cond_true, hgt]
 exact ⟨⟨_, rfl, Rep.wk hx (fun b _ h => hsub b h)⟩, hE⟩
theorem codecGets_spec (l : List UInt8) (M : Nat → Prop) (w : World) (v : Value) (hs : Sl M w v l) (hlow : Low M w) :
  Calls Try.prog 8 #[v] w (Ret fun r w' => r = .bool true ∧ Ext w w') := by
 have hE : Below w.heap.size w w := Below.refl _ _
 have hB : w.heap.size ≤ w.heap.size := Nat.le_refl _
 refine c_enter (n := 74) Try.func8 rfl rfl rfl ?_
 refine q0 (l_p 1 tK rfl (q1 (c_seq (q0 ?_))))
 refine lC (o_call fo27 rfl rfl rfl (alive27_spec _ _ hlow) ?_)
 rintro _ w1 ⟨rfl, ew1⟩
 replace hE := ew1.bl hE hB
 replace hs := hs.ext ew1
 replace hlow := hlow.ext ew1
 replace hB := ew1.z hB
 refine l_p 1 tK rfl (q1 ?_)
 refine c_ifB _ rfl (fun c1 => ?_) (fun c1 => ?_)
 ·exact absurd c1 (by simp)
 refine c_skip (x_seq (c_seq (q0 (l_p 1 tK rfl ?_))))
 refine lC (o_len tK hs rfl rfl rfl rfl rfl ?_)
 refine l_p 1 tK rfl (q1 ?_)
 refine c_ifP _ rfl (fun c2 => ?_) (fun c2 => ?_)
 ·refine q0 (l_p 1 tK rfl (q1 (c_ret (x_seqR (x_ret1 rfl rfl ?_)))))
  exact ⟨rfl, hE⟩
 refine c_skip (x_seq (q0 (l_p 1 tK rfl ?_)))
 have hgt := getTerm_spec l (by omega) _ _ _ hs hlow
 cases hght : okGT l with
 | false =>
  rw [hght] at hgt
  refine lC (o_call fo33 rfl rfl rfl (hgt) ?_)
  rintro _ w2 ⟨⟨xht, rfl, ht⟩, ew2⟩
  replace ht : Rep.R M w2 xht tmZ := ht
  replace hE := ew2.bl hE hB
  replace hs := hs.ext ew2
  replace hlow := hlow.ext ew2
  replace hB := ew2.z hB
  obtain ⟨akvht, kvht, rfl, opht, nmht, aght, n64ht, haht, hkht⟩ := tm_open ht
  refine l_p 3 tK rfl ?_
  refine lC (o_new tK rfl rfl rfl ?_)
  intro b3 w3 qb3 ew3 hb3
  have nb3 := nM_of hlow qb3
  refine lC (o_st tK hb3 rfl rfl rfl rfl (Rep.one ht) rfl rfl ?_)
  intro w4 h3 uw4 bew4
  have ew4 : Ext w2 w4 := ew3.trans (bew4 _ (Nat.le_of_eq qb3.symm))
  replace hE := ew4.bl hE hB
  replace hs := hs.ext ew4
  replace ht := Rep.ext ht ew4
  replace haht := Rep.ext haht ew4
  replace hkht := hkht.ext ew4
  replace hlow := hlow.ext ew4
  replace hB := ew4.z hB
  replace h3 : Box w4 b3 84 [.int .u8 tmZ.op, .string tmZ.name, .string tmZ.arg, .int .i64 tmZ.n, .bool tmZ.has, .int .u8 tmZ.ann.op, .string tmZ.ann.name, .int .i64 tmZ.ann.n, akvht, kvht] := h3
  replace h3 := h3.at nb3
  refine l_p 1 tK rfl (q1 (q0 (l_p 1 tK rfl ?_)))
  have hgk := getType_spec l (by omega) _ _ _ hs hlow
  cases hghu : okGY l with
  | false =>
   rw [hghu] at hgk
   refine lC (o_call fo34 rfl rfl rfl (hgk) ?_)
   rintro _ w5 ⟨⟨xhu, rfl, hu⟩, ew5⟩
   replace hu : Rep.R M w5 xhu tyZ := hu
   replace hE := ew5.bl hE hB
   replace hs := hs.ext ew5
   replace ht := Rep.ext ht ew5
   replace haht := Rep.ext haht ew5
   replace hkht := hkht.ext ew5
   replace h3 := h3.ext ew5
   replace hlow := hlow.ext ew5
   replace hB := ew5.z hB
   obtain ⟨kvhu, rfl, ophu, nmhu, n64hu, hkhu⟩ := ty_open hu
   refine l_p 3 tK rfl ?_
   refine lC (o_new tK rfl rfl rfl ?_)
   intro b5 w6 qb5 ew6 hb5
   have nb5 := nM_of hlow qb5
   refine lC (o_st tK hb5 rfl rfl rfl rfl (Rep.one hu) rfl rfl ?_)
   intro w7 h5 uw7 bew7
   have ew7 : Ext w5 w7 := ew6.trans (bew7 _ (Nat.le_of_eq qb5.symm))
   replace hE := ew7.bl hE hB
   replace hs := hs.ext ew7
   replace ht := Rep.ext ht ew7
   replace haht := Rep.ext haht ew7
   replace hkht := hkht.ext ew7
   replace h3 := h3.ext ew7
   replace hu := Rep.ext hu ew7
   replace hkhu := hkhu.ext ew7
   replace hlow := hlow.ext ew7
   replace hB := ew7.z hB
   replace h5 : Box w7 b5 40 [.int .u8 tyZ.op, .string tyZ.name, .int .i64 tyZ.n, kvhu] := h5
   replace h5 := h5.at nb5
   refine l_p 1 tK rfl (q1 (q0 (l_p 1 tK rfl ?_)))
   have hhw := ofTerm_spec l (by omega) _ _ _ hs hlow
   rw [hght] at hhw
   refine lC (o_call fo35 rfl rfl rfl (hhw) ?_)
   rintro _ w8 ⟨⟨xhw, rfl, hw⟩, ew8⟩
   replace hw : Rep.R M w8 xhw tmZ := hw
   replace hE := ew8.bl hE hB
   replace hs := hs.ext ew8
   replace ht := Rep.ext ht ew8
   replace haht := Rep.ext haht ew8
   replace hkht := hkht.ext ew8
   replace h3 := h3.ext ew8
   replace hu := Rep.ext hu ew8
   replace hkhu := hkhu.ext ew8
   replace h5 := h5.ext ew8
   replace hlow := hlow.ext ew8
   replace hB := ew8.z hB
   obtain ⟨akvhw, kvhw, rfl, ophw, nmhw, aghw, n64hw, hahw, hkhw⟩ := tm_open hw
   refine l_p 3 tK rfl ?_
   refine lC (o_new tK rfl rfl rfl ?_)
   intro b7 w9 qb7 ew9 hb7
   have nb7 := nM_of hlow qb7
   refine lC (o_st tK hb7 rfl rfl rfl rfl (Rep.one hw) rfl rfl ?_)
   intro w10 h7 uw10 bew10
   have ew10 : Ext w8 w10 := ew9.trans (bew10 _ (Nat.le_of_eq qb7.symm))
   replace hE := ew10.bl hE hB
   replace hs := hs.ext ew10
   replace ht := Rep.ext ht ew10
   replace haht := Rep.ext haht ew10
   replace hkht := hkht.ext ew10
   replace h3 := h3.ext ew10
   replace hu := Rep.ext hu ew10
   replace hkhu := hkhu.ext ew10
   replace h5 := h5.ext ew10
   replace hw := Rep.ext hw ew10
   replace hahw := Rep.ext hahw ew10
   replace hkhw := hkhw.ext ew10
   replace hlow := hlow.ext ew10
   replace hB := ew10.z hB
   replace h7 : Box w10 b7 84 [.int .u8 tmZ.op, .string tmZ.name, .string tmZ.arg, .int .i64 tmZ.n, .bool tmZ.has, .int .u8 tmZ.ann.op, .string tmZ.ann.name, .int .i64 tmZ.ann.n, akvhw, kvhw] := h7
   replace h7 := h7.at nb7
   refine l_p 1 tK rfl (q1 (q0 (l_p 1 tK rfl ?_)))
   have hhv := ofType_spec l (by omega) _ _ _ hs hlow
   rw [hghu] at hhv
   refine lC (o_call fo36 rfl rfl rfl (hhv) ?_)
   rintro _ w11 ⟨⟨xhv, rfl, hv⟩, ew11⟩
   replace hv : Rep.R M w11 xhv tyZ := hv
   replace hE := ew11.bl hE hB
   replace hs := hs.ext ew11
   replace ht := Rep.ext ht ew11
   replace haht := Rep.ext haht ew11
   replace hkht := hkht.ext ew11
   replace h3 := h3.ext ew11
   replace hu := Rep.ext hu ew11
   replace hkhu := hkhu.ext ew11
   replace h5 := h5.ext ew11
   replace hw := Rep.ext hw ew11
   replace hahw := Rep.ext hahw ew11
   replace hkhw := hkhw.ext ew11
   replace h7 := h7.ext ew11
   replace hlow := hlow.ext ew11
   replace hB := ew11.z hB
   obtain ⟨kvhv, rfl, ophv, nmhv, n64hv, hkhv⟩ := ty_open hv
   refine l_p 3 tK rfl ?_
   refine lC (o_new tK rfl rfl rfl ?_)
   intro b9 w12 qb9 ew12 hb9
   have nb9 := nM_of hlow qb9
   refine lC (o_st tK hb9 rfl rfl rfl rfl (Rep.one hv) rfl rfl ?_)
   intro w13 h9 uw13 bew13
   have ew13 : Ext w11 w13 := ew12.trans (bew13 _ (Nat.le_of_eq qb9.symm))
   replace hE := ew13.bl hE hB
   replace hs := hs.ext ew13
   replace ht := Rep.ext ht ew13
   replace haht := Rep.ext haht ew13
   replace hkht := hkht.ext ew13
   replace h3 := h3.ext ew13
   replace hu := Rep.ext hu ew13
   replace hkhu := hkhu.ext ew13
   replace h5 := h5.ext ew13
   replace hw := Rep.ext hw ew13
   replace hahw := Rep.ext hahw ew13
   replace hkhw := hkhw.ext ew13
   replace h7 := h7.ext ew13
   replace hv := Rep.ext hv ew13
   replace hkhv := hkhv.ext ew13
   replace hlow := hlow.ext ew13
   replace hB := ew13.z hB
   replace h9 : Box w13 b9 40 [.int .u8 tyZ.op, .string tyZ.name, .int .i64 tyZ.n, kvhv] := h9
   replace h9 := h9.at nb9
   refine l_p 1 tK rfl (q1 (q0 (l_p 1 tK rfl ?_)))
   refine lC (o_conv (y := 15) tK rfl rfl rfl rfl rfl rfl rfl rfl ?_)
   refine l_p 2 tK rfl ?_
   refine lC (o_beq tK rfl rfl rfl rfl rfl rfl ?_)
   refine l_p 4 tK rfl ?_
   refine lC (o_conv (y := 15) tK rfl rfl rfl rfl rfl rfl rfl rfl ?_)
   refine l_p 4 tK rfl ?_
   refine lC (o_lds tK (fun j v hv => h3.cell j v hv) rfl rfl rfl rfl rfl rfl ?_)
   refine lC (o_lds tK (fun j v hv => h7.cell j v hv) rfl rfl rfl rfl rfl rfl ?_)
   refine lC (o_call fo37 rfl rfl rfl (alikeM_spec _ _ M _ _ _ ht hw hlow) ?_)
   rintro _ w14 ⟨rfl, ew14⟩
   replace hE := ew14.bl hE hB
   replace hs := hs.ext ew14
   replace ht := Rep.ext ht ew14
   replace haht := Rep.ext haht ew14
   replace hkht := hkht.ext ew14
   replace h3 := h3.ext ew14
   replace hu := Rep.ext hu ew14
   replace hkhu := hkhu.ext ew14
   replace h5 := h5.ext ew14
   replace hw := Rep.ext hw ew14
   replace hahw := Rep.ext hahw ew14
   replace hkhw := hkhw.ext ew14
   replace h7 := h7.ext ew14
   replace hv := Rep.ext hv ew14
   replace hkhv := hkhv.ext ew14
   replace h9 := h9.ext ew14
   replace hlow := hlow.ext ew14
   replace hB := ew14.z hB
   refine l_p 2 tK rfl ?_
   refine l_split 54 _ rfl (fun c3 => ?_) (fun c3 => ?_)
   ·refine l_p 1 tK rfl ?_
    refine lC (o_conv (y := 15) tK rfl rfl rfl rfl rfl rfl rfl rfl ?_)
    refine l_p 2 tK rfl ?_
    refine lC (o_beq tK rfl rfl rfl rfl rfl rfl ?_)
    refine l_p 5 tK rfl ?_
    refine lC (o_conv (y := 15) tK rfl rfl rfl rfl rfl rfl rfl rfl ?_)
    refine l_p 4 tK rfl ?_
    refine lC (o_lds tK (fun j v hv => h5.cell j v hv) rfl rfl rfl rfl rfl rfl ?_)
    refine lC (o_lds tK (fun j v hv => h9.cell j v hv) rfl rfl rfl rfl rfl rfl ?_)
    refine lC (o_call fo38 rfl rfl rfl (alike_spec _ _ M _ _ _ hu hv hlow) ?_)
    rintro _ w15 ⟨rfl, ew15⟩
    replace hE := ew15.bl hE hB
    replace hs := hs.ext ew15
    replace ht := Rep.ext ht ew15
    replace haht := Rep.ext haht ew15
    replace hkht := hkht.ext ew15
    replace h3 := h3.ext ew15
    replace hu := Rep.ext hu ew15
    replace hkhu := hkhu.ext ew15
    replace h5 := h5.ext ew15
    replace hw := Rep.ext hw ew15
    replace hahw := Rep.ext hahw ew15
    replace hkhw := hkhw.ext ew15
    replace h7 := h7.ext ew15
    replace hv := Rep.ext hv ew15
    replace hkhv := hkhv.ext ew15
    replace h9 := h9.ext ew15
    replace hlow := hlow.ext ew15
    replace hB := ew15.z hB
    refine l_p 2 tK rfl (q1 (c_ret (x_ret1 rfl rfl ?_)))
    exact ⟨by rw [cl_true rfl], hE⟩
   exact absurd rfl (cl_not c3)
  | true =>
   rw [hghu] at hgk
   refine lC (o_call fo34 rfl rfl rfl (hgk) ?_)
   rintro _ w16 ⟨⟨xhu, rfl, hu⟩, ew16⟩
   replace hu : Rep.R M w16 xhu (getY l) := hu
   replace hE := ew16.bl hE hB
   replace hs := hs.ext ew16
   replace ht := Rep.ext ht ew16
   replace haht := Rep.ext haht ew16
   replace hkht := hkht.ext ew16
   replace h3 := h3.ext ew16
   replace hlow := hlow.ext ew16
   replace hB := ew16.z hB
   obtain ⟨kvhu, rfl, ophu, nmhu, n64hu, hkhu⟩ := ty_open hu
   refine l_p 3 tK rfl ?_
   refine lC (o_new tK rfl rfl rfl ?_)
   intro b5 w17 qb5 ew17 hb5
   have nb5 := nM_of hlow qb5
   refine lC (o_st tK hb5 rfl rfl rfl rfl (Rep.one hu) rfl rfl ?_)
   intro w18 h5 uw18 bew18
   have ew18 : Ext w16 w18 := ew17.trans (bew18 _ (Nat.le_of_eq qb5.symm))
   replace hE := ew18.bl hE hB
   replace hs := hs.ext ew18
   replace ht := Rep.ext ht ew18
   replace haht := Rep.ext haht ew18
   replace hkht := hkht.ext ew18
   replace h3 := h3.ext ew18
   replace hu := Rep.ext hu ew18
   replace hkhu := hkhu.ext ew18
   replace hlow := hlow.ext ew18
   replace hB := ew18.z hB
   replace h5 : Box w18 b5 40 [.int .u8 (getY l).op, .string (getY l).name, .int .i64 (getY l).n, kvhu] := h5
   replace h5 := h5.at nb5
   refine l_p 1 tK rfl (q1 (q0 (l_p 1 tK rfl ?_)))
   have hhw := ofTerm_spec l (by omega) _ _ _ hs hlow
   rw [hght] at hhw
   refine lC (o_call fo35 rfl rfl rfl (hhw) ?_)
   rintro _ w19 ⟨⟨xhw, rfl, hw⟩, ew19⟩
   replace hw : Rep.R M w19 xhw tmZ := hw
   replace hE := ew19.bl hE hB
   replace hs := hs.ext ew19
   replace ht := Rep.ext ht ew19
   replace haht := Rep.ext haht ew19
   replace hkht := hkht.ext ew19
   replace h3 := h3.ext ew19
   replace hu := Rep.ext hu ew19
   replace hkhu := hkhu.ext ew19
   replace h5 := h5.ext ew19
   replace hlow := hlow.ext ew19
   replace hB := ew19.z hB
   obtain ⟨akvhw, kvhw, rfl, ophw, nmhw, aghw, n64hw, hahw, hkhw⟩ := tm_open hw
   refine l_p 3 tK rfl ?_
   refine lC (o_new tK rfl rfl rfl ?_)
   intro b7 w20 qb7 ew20 hb7
   have nb7 := nM_of hlow qb7
   refine lC (o_st tK hb7 rfl rfl rfl rfl (Rep.one hw) rfl rfl ?_)
   intro w21 h7 uw21 bew21
   have ew21 : Ext w19 w21 := ew20.trans (bew21 _ (Nat.le_of_eq qb7.symm))
   replace hE := ew21.bl hE hB
   replace hs := hs.ext ew21
   replace ht := Rep.ext ht ew21
   replace haht := Rep.ext haht ew21
   replace hkht := hkht.ext ew21
   replace h3 := h3.ext ew21
   replace hu := Rep.ext hu ew21
   replace hkhu := hkhu.ext ew21
   replace h5 := h5.ext ew21
   replace hw := Rep.ext hw ew21
   replace hahw := Rep.ext hahw ew21
   replace hkhw := hkhw.ext ew21
   replace hlow := hlow.ext ew21
   replace hB := ew21.z hB
   replace h7 : Box w21 b7 84 [.int .u8 tmZ.op, .string tmZ.name, .string tmZ.arg, .int .i64 tmZ.n, .bool tmZ.has, .int .u8 tmZ.ann.op, .string tmZ.ann.name, .int .i64 tmZ.ann.n, akvhw, kvhw] := h7
   replace h7 := h7.at nb7
   refine l_p 1 tK rfl (q1 (q0 (l_p 1 tK rfl ?_)))
   have hhv := ofType_spec l (by omega) _ _ _ hs hlow
   rw [hghu] at hhv
   refine lC (o_call fo36 rfl rfl rfl (hhv) ?_)
   rintro _ w22 ⟨⟨xhv, rfl, hv⟩, ew22⟩
   replace hv : Rep.R M w22 xhv (getY l) := hv
   replace hE := ew22.bl hE hB
   replace hs := hs.ext ew22
   replace ht := Rep.ext ht ew22
   replace haht := Rep.ext haht ew22
   replace hkht := hkht.ext ew22
   replace h3 := h3.ext ew22
   replace hu := Rep.ext hu ew22
   replace hkhu := hkhu.ext ew22
   replace h5 := h5.ext ew22
   replace hw := Rep.ext hw ew22
   replace hahw := Rep.ext hahw ew22
   replace hkhw := hkhw.ext ew22
   replace h7 := h7.ext ew22
   replace hlow := hlow.ext ew22
   replace hB := ew22.z hB
   obtain ⟨kvhv, rfl, ophv, nmhv, n64hv, hkhv⟩ := ty_open hv
   refine l_p 3 tK rfl ?_
   refine lC (o_new tK rfl rfl rfl ?_)
   intro b9 w23 qb9 ew23 hb9
   have nb9 := nM_of hlow qb9
   refine lC (o_st tK hb9 rfl rfl rfl rfl (Rep.one hv) rfl rfl ?_)
   intro w24 h9 uw24 bew24
   have ew24 : Ext w22 w24 := ew23.trans (bew24 _ (Nat.le_of_eq qb9.symm))
   replace hE := ew24.bl hE hB
   replace hs := hs.ext ew24
   replace ht := Rep.ext ht ew24
   replace haht := Rep.ext haht ew24
   replace hkht := hkht.ext ew24
   replace h3 := h3.ext ew24
   replace hu := Rep.ext hu ew24
   replace hkhu := hkhu.ext ew24
   replace h5 := h5.ext ew24
   replace hw := Rep.ext hw ew24
   replace hahw := Rep.ext hahw ew24
   replace hkhw := hkhw.ext ew24
   replace h7 := h7.ext ew24
   replace hv := Rep.ext hv ew24
   replace hkhv := hkhv.ext ew24
   replace hlow := hlow.ext ew24
   replace hB := ew24.z hB
   replace h9 : Box w24 b9 40 [.int .u8 (getY l).op, .string (getY l).name, .int .i64 (getY l).n, kvhv] := h9
   replace h9 := h9.at nb9
   refine l_p 1 tK rfl (q1 (q0 (l_p 1 tK rfl ?_)))
   refine lC (o_conv (y := 15) tK rfl rfl rfl rfl rfl rfl rfl rfl ?_)
   refine l_p 2 tK rfl ?_
   refine lC (o_beq tK rfl rfl rfl rfl rfl rfl ?_)
   refine l_p 4 tK rfl ?_
   refine lC (o_conv (y := 15) tK rfl rfl rfl rfl rfl rfl rfl rfl ?_)
   refine l_p 4 tK rfl ?_
   refine lC (o_lds tK (fun j v hv => h3.cell j v hv) rfl rfl rfl rfl rfl rfl ?_)
   refine lC (o_lds tK (fun j v hv => h7.cell j v hv) rfl rfl rfl rfl rfl rfl ?_)
   refine lC (o_call fo37 rfl rfl rfl (alikeM_spec _ _ M _ _ _ ht hw hlow) ?_)
   rintro _ w25 ⟨rfl, ew25⟩
   replace hE := ew25.bl hE hB
   replace hs := hs.ext ew25
   replace ht := Rep.ext ht ew25
   replace haht := Rep.ext haht ew25
   replace hkht := hkht.ext ew25
   replace h3 := h3.ext ew25
   replace hu := Rep.ext hu ew25
   replace hkhu := hkhu.ext ew25
   replace h5 := h5.ext ew25
   replace hw := Rep.ext hw ew25
   replace hahw := Rep.ext hahw ew25
   replace hkhw := hkhw.ext ew25
   replace h7 := h7.ext ew25
   replace hv := Rep.ext hv ew25
   replace hkhv := hkhv.ext ew25
   replace h9 := h9.ext ew25
   replace hlow := hlow.ext ew25
   replace hB := ew25.z hB
   refine l_p 2 tK rfl ?_
   refine l_split 54 _ rfl (fun c4 => ?_) (fun c4 => ?_)
   ·refine l_p 1 tK rfl ?_
    refine lC (o_conv (y := 0) tK rfl rfl rfl rfl rfl rfl rfl rfl ?_)
    refine l_p 2 tK rfl ?_
    refine lC (o_beq tK rfl rfl rfl rfl rfl rfl ?_)
    refine l_p 10 tK rfl ?_
    refine lC (o_lds tK (fun j v hv => h5.cell j v hv) rfl rfl rfl rfl rfl rfl ?_)
    refine lC (o_lds tK (fun j v hv => h9.cell j v hv) rfl rfl rfl rfl rfl rfl ?_)
    refine lC (o_call fo38 rfl rfl rfl (alike_spec _ _ M _ _ _ hu hv hlow) ?_)
    rintro _ w26 ⟨rfl, ew26⟩
    replace hE := ew26.bl hE hB
    replace hs := hs.ext ew26
    replace ht := Rep.ext ht ew26
    replace haht := Rep.ext haht ew26
    replace hkht := hkht.ext ew26
    replace h3 := h3.ext ew26
    replace hu := Rep.ext hu ew26
    replace hkhu := hkhu.ext ew26
    replace h5 := h5.ext ew26
    replace hw := Rep.ext hw ew26
    replace hahw := Rep.ext hahw ew26
    replace hkhw := hkhw.ext ew26
    replace h7 := h7.ext ew26
    replace hv := Rep.ext hv ew26
    replace hkhv := hkhv.ext ew26
    replace h9 := h9.ext ew26
    replace hlow := hlow.ext ew26
    replace hB := ew26.z hB
    refine l_p 2 tK rfl (q1 (c_ret (x_ret1 rfl rfl ?_)))
    exact ⟨by rw [cl_true rfl], hE⟩
   exact absurd rfl (cl_not c4)
 | true =>
  rw [hght] at hgt
  refine lC (o_call fo33 rfl rfl rfl (hgt) ?_)
  rintro _ w27 ⟨⟨xht, rfl, ht⟩, ew27⟩
  replace ht : Rep.R M w27 xht (getT l) := ht
  replace hE := ew27.bl hE hB
  replace hs := hs.ext ew27
  replace hlow := hlow.ext ew27
  replace hB := ew27.z hB
  obtain ⟨akvht, kvht, rfl, opht, nmht, aght, n64ht, haht, hkht⟩ := tm_open ht
  refine l_p 3 tK rfl ?_
  refine lC (o_new tK rfl rfl rfl ?_)
  intro b3 w28 qb3 ew28 hb3
  have nb3 := nM_of hlow qb3
  refine lC (o_st tK hb3 rfl rfl rfl rfl (Rep.one ht) rfl rfl ?_)
  intro w29 h3 uw29 bew29
  have ew29 : Ext w27 w29 := ew28.trans (bew29 _ (Nat.le_of_eq qb3.symm))
  replace hE := ew29.bl hE hB
  replace hs := hs.ext ew29
  replace ht := Rep.ext ht ew29
  replace haht := Rep.ext haht ew29
  replace hkht := hkht.ext ew29
  replace hlow := hlow.ext ew29
  replace hB := ew29.z hB
  replace h3 : Box w29 b3 84 [.int .u8 (getT l).op, .string (getT l).name, .string (getT l).arg, .int .i64 (getT l).n, .bool (getT l).has, .int .u8 (getT l).ann.op, .string (getT l).ann.name, .int .i64 (getT l).ann.n, akvht, kvht] := h3
  replace h3 := h3.at nb3
  refine l_p 1 tK rfl (q1 (q0 (l_p 1 tK rfl ?_)))
  have hgk := getType_spec l (by omega) _ _ _ hs hlow
  cases hghu : okGY l with
  | false =>
   rw [hghu] at hgk
   refine lC (o_call fo34 rfl rfl rfl (hgk) ?_)
   rintro _ w30 ⟨⟨xhu, rfl, hu⟩, ew30⟩
   replace hu : Rep.R M w30 xhu tyZ := hu
   replace hE := ew30.bl hE hB
   replace hs := hs.ext ew30
   replace ht := Rep.ext ht ew30
   replace haht := Rep.ext haht ew30
   replace hkht := hkht.ext ew30
   replace h3 := h3.ext ew30
   replace hlow := hlow.ext ew30
   replace hB := ew30.z hB
   obtain ⟨kvhu, rfl, ophu, nmhu, n64hu, hkhu⟩ := ty_open hu
   refine l_p 3 tK rfl ?_
   refine lC (o_new tK rfl rfl rfl ?_)
   intro b5 w31 qb5 ew31 hb5
   have nb5 := nM_of hlow qb5
   refine lC (o_st tK hb5 rfl rfl rfl rfl (Rep.one hu) rfl rfl ?_)
   intro w32 h5 uw32 bew32
   have ew32 : Ext w30 w32 := ew31.trans (bew32 _ (Nat.le_of_eq qb5.symm))
   replace hE := ew32.bl hE hB
   replace hs := hs.ext ew32
   replace ht := Rep.ext ht ew32
   replace haht := Rep.ext haht ew32
   replace hkht := hkht.ext ew32
   replace h3 := h3.ext ew32
   replace hu := Rep.ext hu ew32
   replace hkhu := hkhu.ext ew32
   replace hlow := hlow.ext ew32
   replace hB := ew32.z hB
   replace h5 : Box w32 b5 40 [.int .u8 tyZ.op, .string tyZ.name, .int .i64 tyZ.n, kvhu] := h5
   replace h5 := h5.at nb5
   refine l_p 1 tK rfl (q1 (q0 (l_p 1 tK rfl ?_)))
   have hhw := ofTerm_spec l (by omega) _ _ _ hs hlow
   rw [hght] at hhw
   refine lC (o_call fo35 rfl rfl rfl (hhw) ?_)
   rintro _ w33 ⟨⟨xhw, rfl, hw⟩, ew33⟩
   replace hw : Rep.R M w33 xhw (getT l) := hw
   replace hE := ew33.bl hE hB
   replace hs := hs.ext ew33
   replace ht := Rep.ext ht ew33
   replace haht := Rep.ext haht ew33
   replace hkht := hkht.ext ew33
   replace h3 := h3.ext ew33
   replace hu := Rep.ext hu ew33
   replace hkhu := hkhu.ext ew33
   replace h5 := h5.ext ew33
   replace hlow := hlow.ext ew33
   replace hB := ew33.z hB
   obtain ⟨akvhw, kvhw, rfl, ophw, nmhw, aghw, n64hw, hahw, hkhw⟩ := tm_open hw
   refine l_p 3 tK rfl ?_
   refine lC (o_new tK rfl rfl rfl ?_)
   intro b7 w34 qb7 ew34 hb7
   have nb7 := nM_of hlow qb7
   refine lC (o_st tK hb7 rfl rfl rfl rfl (Rep.one hw) rfl rfl ?_)
   intro w35 h7 uw35 bew35
   have ew35 : Ext w33 w35 := ew34.trans (bew35 _ (Nat.le_of_eq qb7.symm))
   replace hE := ew35.bl hE hB
   replace hs := hs.ext ew35
   replace ht := Rep.ext ht ew35
   replace haht := Rep.ext haht ew35
   replace hkht := hkht.ext ew35
   replace h3 := h3.ext ew35
   replace hu := Rep.ext hu ew35
   replace hkhu := hkhu.ext ew35
   replace h5 := h5.ext ew35
   replace hw := Rep.ext hw ew35
   replace hahw := Rep.ext hahw ew35
   replace hkhw := hkhw.ext ew35
   replace hlow := hlow.ext ew35
   replace hB := ew35.z hB
   replace h7 : Box w35 b7 84 [.int .u8 (getT l).op, .string (getT l).name, .string (getT l).arg, .int .i64 (getT l).n, .bool (getT l).has, .int .u8 (getT l).ann.op, .string (getT l).ann.name, .int .i64 (getT l).ann.n, akvhw, kvhw] := h7
   replace h7 := h7.at nb7
   refine l_p 1 tK rfl (q1 (q0 (l_p 1 tK rfl ?_)))
   have hhv := ofType_spec l (by omega) _ _ _ hs hlow
   rw [hghu] at hhv
   refine lC (o_call fo36 rfl rfl rfl (hhv) ?_)
   rintro _ w36 ⟨⟨xhv, rfl, hv⟩, ew36⟩
   replace hv : Rep.R M w36 xhv tyZ := hv
   replace hE := ew36.bl hE hB
   replace hs := hs.ext ew36
   replace ht := Rep.ext ht ew36
   replace haht := Rep.ext haht ew36
   replace hkht := hkht.ext ew36
   replace h3 := h3.ext ew36
   replace hu := Rep.ext hu ew36
   replace hkhu := hkhu.ext ew36
   replace h5 := h5.ext ew36
   replace hw := Rep.ext hw ew36
   replace hahw := Rep.ext hahw ew36
   replace hkhw := hkhw.ext ew36
   replace h7 := h7.ext ew36
   replace hlow := hlow.ext ew36
   replace hB := ew36.z hB
   obtain ⟨kvhv, rfl, ophv, nmhv, n64hv, hkhv⟩ := ty_open hv
   refine l_p 3 tK rfl ?_
   refine lC (o_new tK rfl rfl rfl ?_)
   intro b9 w37 qb9 ew37 hb9
   have nb9 := nM_of hlow qb9
   refine lC (o_st tK hb9 rfl rfl rfl rfl (Rep.one hv) rfl rfl ?_)
   intro w38 h9 uw38 bew38
   have ew38 : Ext w36 w38 := ew37.trans (bew38 _ (Nat.le_of_eq qb9.symm))
   replace hE := ew38.bl hE hB
   replace hs := hs.ext ew38
   replace ht := Rep.ext ht ew38
   replace haht := Rep.ext haht ew38
   replace hkht := hkht.ext ew38
   replace h3 := h3.ext ew38
   replace hu := Rep.ext hu ew38
   replace hkhu := hkhu.ext ew38
   replace h5 := h5.ext ew38
   replace hw := Rep.ext hw ew38
   replace hahw := Rep.ext hahw ew38
   replace hkhw := hkhw.ext ew38
   replace h7 := h7.ext ew38
   replace hv := Rep.ext hv ew38
   replace hkhv := hkhv.ext ew38
   replace hlow := hlow.ext ew38
   replace hB := ew38.z hB
   replace h9 : Box w38 b9 40 [.int .u8 tyZ.op, .string tyZ.name, .int .i64 tyZ.n, kvhv] := h9
   replace h9 := h9.at nb9
   refine l_p 1 tK rfl (q1 (q0 (l_p 1 tK rfl ?_)))
   refine lC (o_conv (y := 0) tK rfl rfl rfl rfl rfl rfl rfl rfl ?_)
   refine l_p 2 tK rfl ?_
   refine lC (o_beq tK rfl rfl rfl rfl rfl rfl ?_)
   refine l_p 9 tK rfl ?_
   refine lC (o_lds tK (fun j v hv => h3.cell j v hv) rfl rfl rfl rfl rfl rfl ?_)
   refine lC (o_lds tK (fun j v hv => h7.cell j v hv) rfl rfl rfl rfl rfl rfl ?_)
   refine lC (o_call fo37 rfl rfl rfl (alikeM_spec _ _ M _ _ _ ht hw hlow) ?_)
   rintro _ w39 ⟨rfl, ew39⟩
   replace hE := ew39.bl hE hB
   replace hs := hs.ext ew39
   replace ht := Rep.ext ht ew39
   replace haht := Rep.ext haht ew39
   replace hkht := hkht.ext ew39
   replace h3 := h3.ext ew39
   replace hu := Rep.ext hu ew39
   replace hkhu := hkhu.ext ew39
   replace h5 := h5.ext ew39
   replace hw := Rep.ext hw ew39
   replace hahw := Rep.ext hahw ew39
   replace hkhw := hkhw.ext ew39
   replace h7 := h7.ext ew39
   replace hv := Rep.ext hv ew39
   replace hkhv := hkhv.ext ew39
   replace h9 := h9.ext ew39
   replace hlow := hlow.ext ew39
   replace hB := ew39.z hB
   refine l_p 2 tK rfl ?_
   refine l_split 54 _ rfl (fun c5 => ?_) (fun c5 => ?_)
   ·refine l_p 1 tK rfl ?_
    refine lC (o_conv (y := 15) tK rfl rfl rfl rfl rfl rfl rfl rfl ?_)
    refine l_p 2 tK rfl ?_
    refine lC (o_beq tK rfl rfl rfl rfl rfl rfl ?_)
    refine l_p 5 tK rfl ?_
    refine lC (o_conv (y := 15) tK rfl rfl rfl rfl rfl rfl rfl rfl ?_)
    refine l_p 4 tK rfl ?_
    refine lC (o_lds tK (fun j v hv => h5.cell j v hv) rfl rfl rfl rfl rfl rfl ?_)
    refine lC (o_lds tK (fun j v hv => h9.cell j v hv) rfl rfl rfl rfl rfl rfl ?_)
    refine lC (o_call fo38 rfl rfl rfl (alike_spec _ _ M _ _ _ hu hv hlow) ?_)
    rintro _ w40 ⟨rfl, ew40⟩
    replace hE := ew40.bl hE hB
    replace hs := hs.ext ew40
    replace ht := Rep.ext ht ew40
    replace haht := Rep.ext haht ew40
    replace hkht := hkht.ext ew40
    replace h3 := h3.ext ew40
    replace hu := Rep.ext hu ew40
    replace hkhu := hkhu.ext ew40
    replace h5 := h5.ext ew40
    replace hw := Rep.ext hw ew40
    replace hahw := Rep.ext hahw ew40
    replace hkhw := hkhw.ext ew40
    replace h7 := h7.ext ew40
    replace hv := Rep.ext hv ew40
    replace hkhv := hkhv.ext ew40
    replace h9 := h9.ext ew40
    replace hlow := hlow.ext ew40
    replace hB := ew40.z hB
    refine l_p 2 tK rfl (q1 (c_ret (x_ret1 rfl rfl ?_)))
    exact ⟨by rw [cl_true rfl], hE⟩
   exact absurd rfl (cl_not c5)
  | true =>
   rw [hghu] at hgk
   refine lC (o_call fo34 rfl rfl rfl (hgk) ?_)
   rintro _ w41 ⟨⟨xhu, rfl, hu⟩, ew41⟩
   replace hu : Rep.R M w41 xhu (getY l) := hu
   replace hE := ew41.bl hE hB
   replace hs := hs.ext ew41
   replace ht := Rep.ext ht ew41
   replace haht := Rep.ext haht ew41
   replace hkht := hkht.ext ew41
   replace h3 := h3.ext ew41
   replace hlow := hlow.ext ew41
   replace hB := ew41.z hB
   obtain ⟨kvhu, rfl, ophu, nmhu, n64hu, hkhu⟩ := ty_open hu
   refine l_p 3 tK rfl ?_
   refine lC (o_new tK rfl rfl rfl ?_)
   intro b5 w42 qb5 ew42 hb5
   have nb5 := nM_of hlow qb5
   refine lC (o_st tK hb5 rfl rfl rfl rfl (Rep.one hu) rfl rfl ?_)
   intro w43 h5 uw43 bew43
   have ew43 : Ext w41 w43 := ew42.trans (bew43 _ (Nat.le_of_eq qb5.symm))
   replace hE := ew43.bl hE hB
   replace hs := hs.ext ew43
   replace ht := Rep.ext ht ew43
   replace haht := Rep.ext haht ew43
   replace hkht := hkht.ext ew43
   replace h3 := h3.ext ew43
   replace hu := Rep.ext hu ew43
   replace hkhu := hkhu.ext ew43
   replace hlow := hlow.ext ew43
   replace hB := ew43.z hB
   replace h5 : Box w43 b5 40 [.int .u8 (getY l).op, .string (getY l).name, .int .i64 (getY l).n, kvhu] := h5
   replace h5 := h5.at nb5
   refine l_p 1 tK rfl (q1 (q0 (l_p 1 tK rfl ?_)))
   have hhw := ofTerm_spec l (by omega) _ _ _ hs hlow
   rw [hght] at hhw
   refine lC (o_call fo35 rfl rfl rfl (hhw) ?_)
   rintro _ w44 ⟨⟨xhw, rfl, hw⟩, ew44⟩
   replace hw : Rep.R M w44 xhw (getT l) := hw
   replace hE := ew44.bl hE hB
   replace hs := hs.ext ew44
   replace ht := Rep.ext ht ew44
   replace haht := Rep.ext haht ew44
   replace hkht := hkht.ext ew44
   replace h3 := h3.ext ew44
   replace hu := Rep.ext hu ew44
   replace hkhu := hkhu.ext ew44
   replace h5 := h5.ext ew44
   replace hlow := hlow.ext ew44
   replace hB := ew44.z hB
   obtain ⟨akvhw, kvhw, rfl, ophw, nmhw, aghw, n64hw, hahw, hkhw⟩ := tm_open hw
   refine l_p 3 tK rfl ?_
   refine lC (o_new tK rfl rfl rfl ?_)
   intro b7 w45 qb7 ew45 hb7
   have nb7 := nM_of hlow qb7
   refine lC (o_st tK hb7 rfl rfl rfl rfl (Rep.one hw) rfl rfl ?_)
   intro w46 h7 uw46 bew46
   have ew46 : Ext w44 w46 := ew45.trans (bew46 _ (Nat.le_of_eq qb7.symm))
   replace hE := ew46.bl hE hB
   replace hs := hs.ext ew46
   replace ht := Rep.ext ht ew46
   replace haht := Rep.ext haht ew46
   replace hkht := hkht.ext ew46
   replace h3 := h3.ext ew46
   replace hu := Rep.ext hu ew46
   replace hkhu := hkhu.ext ew46
   replace h5 := h5.ext ew46
   replace hw := Rep.ext hw ew46
   replace hahw := Rep.ext hahw ew46
   replace hkhw := hkhw.ext ew46
   replace hlow := hlow.ext ew46
   replace hB := ew46.z hB
   replace h7 : Box w46 b7 84 [.int .u8 (getT l).op, .string (getT l).name, .string (getT l).arg, .int .i64 (getT l).n, .bool (getT l).has, .int .u8 (getT l).ann.op, .string (getT l).ann.name, .int .i64 (getT l).ann.n, akvhw, kvhw] := h7
   replace h7 := h7.at nb7
   refine l_p 1 tK rfl (q1 (q0 (l_p 1 tK rfl ?_)))
   have hhv := ofType_spec l (by omega) _ _ _ hs hlow
   rw [hghu] at hhv
   refine lC (o_call fo36 rfl rfl rfl (hhv) ?_)
   rintro _ w47 ⟨⟨xhv, rfl, hv⟩, ew47⟩
   replace hv : Rep.R M w47 xhv (getY l) := hv
   replace hE := ew47.bl hE hB
   replace hs := hs.ext ew47
   replace ht := Rep.ext ht ew47
   replace haht := Rep.ext haht ew47
   replace hkht := hkht.ext ew47
   replace h3 := h3.ext ew47
   replace hu := Rep.ext hu ew47
   replace hkhu := hkhu.ext ew47
   replace h5 := h5.ext ew47
   replace hw := Rep.ext hw ew47
   replace hahw := Rep.ext hahw ew47
   replace hkhw := hkhw.ext ew47
   replace h7 := h7.ext ew47
   replace hlow := hlow.ext ew47
   replace hB := ew47.z hB
   obtain ⟨kvhv, rfl, ophv, nmhv, n64hv, hkhv⟩ := ty_open hv
   refine l_p 3 tK rfl ?_
   refine lC (o_new tK rfl rfl rfl ?_)
   intro b9 w48 qb9 ew48 hb9
   have nb9 := nM_of hlow qb9
   refine lC (o_st tK hb9 rfl rfl rfl rfl (Rep.one hv) rfl rfl ?_)
   intro w49 h9 uw49 bew49
   have ew49 : Ext w47 w49 := ew48.trans (bew49 _ (Nat.le_of_eq qb9.symm))
   replace hE := ew49.bl hE hB
   replace hs := hs.ext ew49
   replace ht := Rep.ext ht ew49
   replace haht := Rep.ext haht ew49
   replace hkht := hkht.ext ew49
   replace h3 := h3.ext ew49
   replace hu := Rep.ext hu ew49
   replace hkhu := hkhu.ext ew49
   replace h5 := h5.ext ew49
   replace hw := Rep.ext hw ew49
   replace hahw := Rep.ext hahw ew49
   replace hkhw := hkhw.ext ew49
   replace h7 := h7.ext ew49
   replace hv := Rep.ext hv ew49
   replace hkhv := hkhv.ext ew49
   replace hlow := hlow.ext ew49
   replace hB := ew49.z hB
   replace h9 : Box w49 b9 40 [.int .u8 (getY l).op, .string (getY l).name, .int .i64 (getY l).n, kvhv] := h9
   replace h9 := h9.at nb9
   refine l_p 1 tK rfl (q1 (q0 (l_p 1 tK rfl ?_)))
   refine lC (o_conv (y := 0) tK rfl rfl rfl rfl rfl rfl rfl rfl ?_)
   refine l_p 2 tK rfl ?_
   refine lC (o_beq tK rfl rfl rfl rfl rfl rfl ?_)
   refine l_p 9 tK rfl ?_
   refine lC (o_lds tK (fun j v hv => h3.cell j v hv) rfl rfl rfl rfl rfl rfl ?_)
   refine lC (o_lds tK (fun j v hv => h7.cell j v hv) rfl rfl rfl rfl rfl rfl ?_)
   refine lC (o_call fo37 rfl rfl rfl (alikeM_spec _ _ M _ _ _ ht hw hlow) ?_)
   rintro _ w50 ⟨rfl, ew50⟩
   replace hE := ew50.bl hE hB
   replace hs := hs.ext ew50
   replace ht := Rep.ext ht ew50
   replace haht := Rep.ext haht ew50
   replace hkht := hkht.ext ew50
   replace h3 := h3.ext ew50
   replace hu := Rep.ext hu ew50
   replace hkhu := hkhu.ext ew50
   replace h5 := h5.ext ew50
   replace hw := Rep.ext hw ew50
   replace hahw := Rep.ext hahw ew50
   replace hkhw := hkhw.ext ew50
   replace h7 := h7.ext ew50
   replace hv := Rep.ext hv ew50
   replace hkhv := hkhv.ext ew50
   replace h9 := h9.ext ew50
   replace hlow := hlow.ext ew50
   replace hB := ew50.z hB
   refine l_p 2 tK rfl ?_
   refine l_split 54 _ rfl (fun c6 => ?_) (fun c6 => ?_)
   ·refine l_p 1 tK rfl ?_
    refine lC (o_conv (y := 0) tK rfl rfl rfl rfl rfl rfl rfl rfl ?_)
    refine l_p 2 tK rfl ?_
    refine lC (o_beq tK rfl rfl rfl rfl rfl rfl ?_)
    refine l_p 10 tK rfl ?_
    refine lC (o_lds tK (fun j v hv => h5.cell j v hv) rfl rfl rfl rfl rfl rfl ?_)
    refine lC (o_lds tK (fun j v hv => h9.cell j v hv) rfl rfl rfl rfl rfl rfl ?_)
    refine lC (o_call fo38 rfl rfl rfl (alike_spec _ _ M _ _ _ hu hv hlow) ?_)
    rintro _ w51 ⟨rfl, ew51⟩
    replace hE := ew51.bl hE hB
    replace hs := hs.ext ew51
    replace ht := Rep.ext ht ew51
    replace haht := Rep.ext haht ew51
    replace hkht := hkht.ext ew51
    replace h3 := h3.ext ew51
    replace hu := Rep.ext hu ew51
    replace hkhu := hkhu.ext ew51
    replace h5 := h5.ext ew51
    replace hw := Rep.ext hw ew51
    replace hahw := Rep.ext hahw ew51
    replace hkhw := hkhw.ext ew51
    replace h7 := h7.ext ew51
    replace hv := Rep.ext hv ew51
    replace hkhv := hkhv.ext ew51
    replace h9 := h9.ext ew51
    replace hlow := hlow.ext ew51
    replace hB := ew51.z hB
    refine l_p 2 tK rfl (q1 (c_ret (x_ret1 rfl rfl ?_)))
    exact ⟨by rw [cl_true rfl], hE⟩
   exact absurd rfl (cl_not c6)
end Go.Proofs.Ytohfnpmehgpphaa
namespace Rw
open Go Go.RowKit
theorem Ret.out {R : Value → World → Prop} {e : Ending} {w : World} (h : Ret R e w) : ∃ v, e = .returned v ∧ R v w := by
  cases e with
  | returned v => exact ⟨v, rfl, h⟩
  | _ => exact h.elim
/-- A type's readings (those that Q bears) are things of α. -/
structure Opens {H : Type} {α : Type} [Rep α] (P : Program) (Q : TypeId → DataW H → Prop) (t : TypeId) (α' : α → Prop) : Prop where
  cells : P.cellsOf t = Rep.sz α
  read : ∀ (enc : TypeId × Value → H) (w : World) (fuel : Nat) (cs : List Value) (d : DataW H) (ps : List MemPlace), DataW.trod enc P w 0 (fun _ => true) true fuel t cs = some (d, ps) → Q t d →
    ∃ (v : Value) (x : α), v.cells.toList = cs ∧ Rep.R NoM w v x ∧ α' x
section
variable {H : Type} {P : Program} {Q : TypeId → DataW H → Prop}
theorem opens_slice {α : Type} [Rep α] {p : α → Prop} {t e : TypeId} (ht : P.underlying t = some (.slice e)) (hc : P.cellsOf t = 1) (he : Opens P Q e p)
    (hq : ∀ el sp, Q t (.slice el sp) → el.length < 140737488355328 ∧ ∀ d ∈ el, Q e d) : Opens (α := List α) P Q t (fun l => ∀ x ∈ l, p x) := by
  refine ⟨hc, fun enc w fuel cs d ps h hQ => ?_⟩
  rcases Go.Deep.open_slice ht h with ⟨rfl, _⟩ | ⟨a, len, cap, m, n, D, Pl, rfl, _, hl, _, hm, hx, hel⟩
  · exact ⟨.slice none 0 0, [], rfl, sl_nil, fun x hx => by cases hx⟩
  · have hm' : m = cap := by simpa using hm
    subst hm'
    have hd : d = .slice ((List.range len).map D) ((List.range (m - len)).map fun j => D (len + j)) := congrArg Prod.fst hx
    subst hd
    obtain ⟨hlen, hall⟩ := hq _ _ hQ
    have hlen' : len < 140737488355328 := by simpa using hlen
    rw [he.cells] at hel
    have each : ∀ i : Fin len, ∃ y : Value × α, w.cells? 0 (a.add (i.1 * Rep.sz α)) (Rep.sz α) = some y.1.cells.toList ∧ Rep.R NoM w y.1 y.2 ∧ p y.2 := by
      intro i
      obtain ⟨cs', h1, h2⟩ := hel i.1 (Nat.lt_of_lt_of_le i.2 hl)
      obtain ⟨v, x, hv, hR, hp⟩ := he.read enc w n cs' _ _ h2 (hall _ (List.mem_map.2 ⟨i.1, List.mem_range.2 i.2, rfl⟩))
      exact ⟨(v, x), by rw [hv]; exact h1, hR, hp⟩
    obtain ⟨f, hf⟩ := Classical.axiomOfChoice each
    refine ⟨.slice (some a) len m, List.ofFn fun i => (f i).2, rfl, ⟨some a, m, by simp, by simpa using hlen', by simpa using hl, ?_⟩, fun x hx => ?_⟩
    · by_cases h0 : len = 0
      · subst h0; left; simp
      · right
        have hpos : 0 < Rep.sz α := Rep.pos
        obtain ⟨_, _, hc0⟩ := World.cells?_some (hf ⟨0, by omega⟩).1
        have hc00 := hc0 0 hpos
        have hlen0 := Rep.size (hf ⟨0, by omega⟩).2.1
        obtain ⟨b, off, spot⟩ := a
        have hsome : ∃ v, w.cell? ⟨b, off, spot⟩ = some v := by
          have e1 : (Addr.add ⟨b, off, spot⟩ (0 * Rep.sz α)).add 0 = ⟨b, off, spot⟩ := by simp [Addr.add]
          rw [e1] at hc00
          refine ⟨_, hc00.trans (List.getElem?_eq_getElem (by simpa [hlen0] using hpos))⟩
        obtain ⟨v0, hv0⟩ := hsome
        have hsp : spot = none := by
          cases spot with
          | none => rfl
          | some s => simp [World.cell?] at hv0; split at hv0 <;> simp at hv0
        subst hsp
        have hb : b < w.heap.size := by
          rcases Nat.lt_or_ge b w.heap.size with h | h
          · exact h
          · simp [World.cell?, Array.getElem?_eq_none h] at hv0
        refine ⟨b, off, rfl, fun i x hi => ?_⟩
        have hi' : i < len := by
          have := (List.getElem?_eq_some_iff.1 hi).1
          simpa using this
        have hxe : x = (f ⟨i, hi'⟩).2 := by
          rw [List.getElem?_ofFn, dif_pos hi'] at hi
          simpa using hi.symm
        subst hxe
        refine ⟨(f ⟨i, hi'⟩).1, (hf ⟨i, hi'⟩).2.1, hb, fun h => h.elim, fun j c hj => ?_⟩
        obtain ⟨_, hl2, hc2⟩ := World.cells?_some (hf ⟨i, hi'⟩).1
        have hj' : j < Rep.sz α := by rw [← hl2]; exact (List.getElem?_eq_some_iff.1 hj).1
        have := hc2 j hj'
        rw [addr_add, addr_add, hj] at this
        exact this
    · obtain ⟨i, rfl⟩ := (List.mem_ofFn).1 hx
      exact (hf i).2.2
end
/-! ## What the form's reach pays -/
/-- Every weight of the reading is within the reach. -/
def Wq {H : Type} (P : Program) (t : TypeId) (d : DataW H) : Prop := ∀ n ∈ d.weights P t, n ≤ reachBytes
theorem weights_all {H : Type} {P : Program} {e : TypeId} {d : DataW H} : ∀ {l : List (DataW H)}, d ∈ l → ∀ n ∈ d.weights P e, n ∈ DataW.weightsAll P e l
  | x :: r, h, n, hn => by
    simp only [DataW.weightsAll, List.mem_append]
    rcases List.mem_cons.1 h with rfl | h
    · exact .inl hn
    · exact .inr (weights_all h n hn)
theorem wq_slice {H : Type} {P : Program} {t e : TypeId} (ht : P.underlying t = some (.slice e)) (hb : 0 < P.bytesOf e) (el sp : List (DataW H)) (h : Wq P t (.slice el sp)) :
    el.length < 140737488355328 ∧ ∀ d ∈ el, Wq P e d := by
  have hw : (DataW.slice el sp).weights P t = (el.length + sp.length) * P.bytesOf e :: (DataW.weightsAll P e el ++ DataW.weightsAll P e sp) := by simp [DataW.weights, ht]
  constructor
  · have h1 := h _ (by rw [hw]; exact List.mem_cons_self)
    have h2 : reachBytes < 140737488355328 := by decide
    have h3 : el.length ≤ (el.length + sp.length) * P.bytesOf e := Nat.le_trans (Nat.le_add_right _ _) (Nat.le_mul_of_pos_right _ hb)
    omega
  · intro d hd n hn
    exact h n (by rw [hw]; exact List.mem_cons_of_mem _ (List.mem_append_left _ (weights_all hd n hn)))
theorem wq_each {H : Type} {P : Program} {ts : List TypeId} {ds : List (DataW H)} (h : (DataW.weightsEach P ts ds).all (· ≤ reachBytes) = true) {j : Nat} {t : TypeId} {d : DataW H} (ht : ts[j]? = some t) (hd : ds[j]? = some d) : Wq P t d := by
  intro n hn
  simpa using List.all_eq_true.1 h n (DataW.weights_mem_each ht hd n hn)
theorem opens_arg {H : Type} {P : Program} {Q : TypeId → DataW H → Prop} {α : Type} [Rep α] {t e : TypeId} {p : List α → Prop} (_ht : P.underlying t = some (.slice e)) (ho : Opens P Q t p) {enc : TypeId × Value → H} {w : World} {a : Option Addr} {len cap : Nat} {d : DataW H} {ps : List MemPlace}
    (h : DataW.Trod enc P w 0 (fun _ => true) true t (.slice a len cap) d ps) (hQ : Q t d) : ∃ l : List α, Sl NoM w (.slice a len cap) l ∧ p l := by
  obtain ⟨fuel, hf⟩ := h
  obtain ⟨v, l, hv, hR, hp⟩ := ho.read enc w fuel _ _ _ hf hQ
  refine ⟨l, ?_, hp⟩
  have hR' : Sl NoM w v l := hR
  obtain ⟨a', c', rfl, _⟩ := id hR'
  simp [Value.cells] at hv
  obtain ⟨h1, h2, h3⟩ := hv
  subst h1; subst h2; subst h3
  exact hR'
end Rw
namespace Rw
open Go Go.RowKit
variable {H : Type} {P : Program}
theorem opens_byte {Q : TypeId → DataW H → Prop} {t : TypeId} (ht : P.underlying t = some (.int .u8)) (hc : P.cellsOf t = 1) : Opens (α := UInt8) P Q t (fun _ => True) := by
  refine ⟨hc, fun enc w fuel cs d ps h _ => ?_⟩
  obtain ⟨n, rfl, _, hw⟩ := DataW.trod_int ht h
  have : 0 ≤ n ∧ n ≤ 255 := by simpa [Lit.wf, IntKind.min, IntKind.max, IntKind.signed, IntKind.bits] using hw
  refine ⟨.int .u8 n, UInt8.ofNat n.toNat, rfl, ?_, trivial⟩
  show Value.int .u8 n = Value.int .u8 ((UInt8.ofNat n.toNat).toNat : Int)
  congr 1
  rw [UInt8.toNat_ofNat']
  omega
end Rw
