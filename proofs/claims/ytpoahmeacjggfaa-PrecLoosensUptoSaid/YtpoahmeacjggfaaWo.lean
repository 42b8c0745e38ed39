/- Walks: numbered types. Printed by wip/walks/kinds18.py. -/
import Derived.Test.YtpoahmeacjggfaaWn
namespace Go.Proofs.Ytpoahmeacjggfaa
open Go Rw Go.RowKit
set_option maxRecDepth 100000

/-- Canon: the canonical form. -/
theorem Canon_own (t : Ty) (M : Nat → Prop) (w : World) (v : Value) (ht : Rep.R M w v t) (hlow0 : Low M w) (hz : psz t ≤ 2000000) :
    Calls Try.prog 43 #[v] w (Ret fun r w' => OTy 25 w.heap.size w' (bif rightB t || rowB t then canonF t else (Ty.mk 0 ⟨#[]⟩ 0 [])) r (Plus NoM w w') ∧ Ext w w') := by
  have hlow := hlow0
  have hB : w.heap.size ≤ w.heap.size := Nat.le_refl _
  have hE : Below w.heap.size w w := Below.refl _ _
  have hsub : ∀ b, M b → M b := fun _ h => h
  obtain ⟨kv, rfl, op, nm, n64, hk⟩ := ty_open ht
  refine c_enter (n := 9) Try.func43 rfl rfl rfl ?_
  refine q0 ?_
  refine l_cons (o_box rfl rfl rfl ?_)
  intro b1 w1 hb_b1 ew1 h1
  replace h1 : Box _ b1 25 [.int .u8 t.op, .string t.name, .int .i64 t.n, kv] := h1
  replace h1 := h1.at (nM_of hlow hb_b1)
  replace hE := hE.trans (Below.mono ew1 hB)
  replace ht := Rep.ext ht ew1
  replace hk := hk.ext ew1
  replace hlow := hlow.ext ew1
  replace hB := Nat.le_trans hB ew1.size
  refine l_cons (o_new tbOk rfl rfl rfl ?_)
  intro b2 w2 qb2 ew2 hb2
  have sw2 := Stp.add ew2 hlow hB (Nat.le_of_eq qb2.symm) hb2.lt
  have h2 : MB w.heap.size (Rw.Add M b2) w2 b2 25 [.int .u8 0, .string ⟨#[]⟩, .int .i64 0, .slice none 0 0] := MB.mk' hb2 qb2 hB
  replace hE := hE.trans sw2.below
  replace ht := Rep.stp ht sw2
  replace hk := hk.stp sw2
  replace h1 := h1.stp sw2
  replace hsub := fun b h => sw2.sub b (hsub b h)
  replace hlow := sw2.low
  replace hB := Nat.le_trans hB sw2.upd.1
  refine q1 (c_seq (q0 ?_))
  refine l_cons (o_lds tbOk (fun j v hv => h1.cell j v hv) rfl rfl rfl rfl rfl rfl ?_)
  refine l_cons (o_call fo70 rfl rfl rfl (either_specB t _ _ _ ht hlow) ?_)
  rintro _ w3 ⟨rfl, ew3⟩
  replace h2 := h2.ext hlow hB ew3
  replace hE := hE.trans (Below.mono ew3 hB)
  replace ht := Rep.ext ht ew3
  replace hk := hk.ext ew3
  replace h1 := h1.ext ew3
  replace hlow := hlow.ext ew3
  replace hB := Nat.le_trans hB ew3.size
  refine l_p 1 tbOk rfl (q1 ?_)
  refine c_ifB _ rfl (fun hr => ?_) (fun hr => ?_)
  · refine q0 ?_
    refine l_cons (o_build (cells := [.int .u8 0, .string ⟨#[]⟩, .int .i64 0, .slice none 0 0]) (css := []) bd25 rfl rfl rfl rfl rfl ?_)
    refine l_cons (o_st tbOk h2.box rfl rfl rfl rfl (by intro u hu; simp [Value.cells] at hu; rcases hu with rfl | rfl | rfl | rfl <;> rfl) rfl rfl ?_)
    intro w4 hw4 qw4 bew4
    have uw4 : UpdB _ _ _ := ⟨qw4, bew4⟩
    have sw4 := uw4.stp h2.inM hlow h2.ge
    have frw4 := qw4.2
    replace hE := hE.trans sw4.below
    replace ht := Rep.stp ht sw4
    replace hk := hk.stp sw4
    replace h1 := h1.stp sw4
    replace hsub := fun b h => sw4.sub b (hsub b h)
    replace hlow := sw4.low
    replace hB := Nat.le_trans hB sw4.upd.1
    replace h2 : MB w.heap.size _ w4 b2 _ [.int .u8 0, .string ⟨#[]⟩, .int .i64 0, .slice none 0 0] := ⟨hw4, h2.inM, h2.ge⟩
    refine q1 (c_ret (x_seqR ?_))
    refine x_ret1s tbOk (fun j v hv => h2.cell j v hv) rfl rfl rfl rfl rfl ?_
    rw [show (rightB t || rowB t) = false from hr]
    exact ⟨oty_leaf (by decide) (by decide) ⟨by decide, by decide⟩, hE⟩
  refine c_skip (x_seq (q0 ?_))
  refine l_cons (o_lds tbOk (fun j v hv => h1.cell j v hv) rfl rfl rfl rfl rfl rfl ?_)
  have l_h2 := h2.lt
  refine l_cons (o_call fo73 rfl rfl rfl (canon_own _ t _ _ _ _ (Nat.le_refl _) (Classical.choose_spec (shape_either hr)) ht hlow hz) ?_)
  rintro vc w5 ⟨hc, ew5⟩
  replace hc := hc.ge hB
  have hGl : ∀ c, Plus NoM w3 w5 c → w3.heap.size ≤ c ∧ c < w5.heap.size := fun c h => h.elim (fun h => h.elim) id
  generalize Plus NoM w3 w5 = G at hc hGl
  have sw5 := (Stp.ext ew5 hlow hB).more hGl
  replace h2 := h2.stp sw5 (ew5.block b2 h2.lt)
  replace hE := hE.trans sw5.below
  replace ht := Rep.stp ht sw5
  replace hk := hk.stp sw5
  replace h1 := h1.stp sw5
  replace hsub := fun b h => sw5.sub b (hsub b h)
  replace hlow := sw5.low
  replace hB := Nat.le_trans hB sw5.upd.1
  have d_hc_h2 : ∀ x, G x → x ≠ b2 := fun x hx => by have := (hGl x hx).1; omega
  obtain ⟨kvc, usc, Hc, rfl, opc, nmc, n64c, hlc, hrc, hOc, hHc⟩ := oty_open hc
  refine l_cons (o_st tbOk h2.box rfl rfl rfl rfl hc.one rfl rfl ?_)
  intro w6 hw6 qw6 bew6
  have uw6 : UpdB _ _ _ := ⟨qw6, bew6⟩
  have sw6 := uw6.stp h2.inM hlow h2.ge
  have frw6 := qw6.2
  replace hc := hc.stp sw6 (fun x hx => frw6 x (hc.lt x hx).2 (d_hc_h2 x hx))
  replace hE := hE.trans sw6.below
  replace ht := Rep.stp ht sw6
  replace hk := hk.stp sw6
  replace h1 := h1.stp sw6
  replace hsub := fun b h => sw6.sub b (hsub b h)
  replace hlow := sw6.low
  replace hB := Nat.le_trans hB sw6.upd.1
  replace h2 : MB w.heap.size _ w6 b2 _ [.int .u8 (canonF t).op, .string (canonF t).name, .int .i64 (canonF t).n, kvc] := ⟨hw6, h2.inM, h2.ge⟩
  refine q1 (c_ret ?_)
  refine x_ret1s tbOk (fun j v hv => h2.cell j v hv) rfl rfl rfl rfl rfl ?_
  rw [show (rightB t || rowB t) = true from hr]
  exact ⟨hc.mono (fun c h => .inr (hc.lt c h)) (fun c h => h.elim (fun h => h.elim) id), hE⟩

/-- Number: canonical, its variables numbered anew. -/
theorem Number_own (t : Ty) (M : Nat → Prop) (w : World) (v : Value) (ht : Rep.R M w v t) (hlow0 : Low M w) (hz : psz t ≤ 2000000) :
    Calls Try.prog 44 #[v] w (Ret fun r w' => OTy 25 w.heap.size w' (bif rightB t || rowB t then numberF t else (Ty.mk 0 ⟨#[]⟩ 0 [])) r (Plus NoM w w') ∧ Ext w w') := by
  have hlow := hlow0
  have hB : w.heap.size ≤ w.heap.size := Nat.le_refl _
  have hE : Below w.heap.size w w := Below.refl _ _
  have hsub : ∀ b, M b → M b := fun _ h => h
  obtain ⟨kv, rfl, op, nm, n64, hk⟩ := ty_open ht
  refine c_enter (n := 27) Try.func44 rfl rfl rfl ?_
  refine q0 ?_
  refine l_cons (o_box rfl rfl rfl ?_)
  intro b1 w1 hb_b1 ew1 h1
  replace h1 : Box _ b1 25 [.int .u8 t.op, .string t.name, .int .i64 t.n, kv] := h1
  replace h1 := h1.at (nM_of hlow hb_b1)
  replace hE := hE.trans (Below.mono ew1 hB)
  replace ht := Rep.ext ht ew1
  replace hk := hk.ext ew1
  replace hlow := hlow.ext ew1
  replace hB := Nat.le_trans hB ew1.size
  refine l_cons (o_new tbOk rfl rfl rfl ?_)
  intro b2 w2 qb2 ew2 hb2
  have sw2 := Stp.add ew2 hlow hB (Nat.le_of_eq qb2.symm) hb2.lt
  have h2 : MB w.heap.size (Rw.Add M b2) w2 b2 25 [.int .u8 0, .string ⟨#[]⟩, .int .i64 0, .slice none 0 0] := MB.mk' hb2 qb2 hB
  replace hE := hE.trans sw2.below
  replace ht := Rep.stp ht sw2
  replace hk := hk.stp sw2
  replace h1 := h1.stp sw2
  replace hsub := fun b h => sw2.sub b (hsub b h)
  replace hlow := sw2.low
  replace hB := Nat.le_trans hB sw2.upd.1
  refine q1 (c_seq (q0 ?_))
  refine l_cons (o_lds tbOk (fun j v hv => h1.cell j v hv) rfl rfl rfl rfl rfl rfl ?_)
  refine l_cons (o_call fo70 rfl rfl rfl (either_specB t _ _ _ ht hlow) ?_)
  rintro _ w3 ⟨rfl, ew3⟩
  replace h2 := h2.ext hlow hB ew3
  replace hE := hE.trans (Below.mono ew3 hB)
  replace ht := Rep.ext ht ew3
  replace hk := hk.ext ew3
  replace h1 := h1.ext ew3
  replace hlow := hlow.ext ew3
  replace hB := Nat.le_trans hB ew3.size
  refine l_p 1 tbOk rfl (q1 ?_)
  refine c_ifB _ rfl (fun hr => ?_) (fun hr => ?_)
  · refine q0 ?_
    refine l_cons (o_build (cells := [.int .u8 0, .string ⟨#[]⟩, .int .i64 0, .slice none 0 0]) (css := []) bd25 rfl rfl rfl rfl rfl ?_)
    refine l_cons (o_st tbOk h2.box rfl rfl rfl rfl (by intro u hu; simp [Value.cells] at hu; rcases hu with rfl | rfl | rfl | rfl <;> rfl) rfl rfl ?_)
    intro w4 hw4 qw4 bew4
    have uw4 : UpdB _ _ _ := ⟨qw4, bew4⟩
    have sw4 := uw4.stp h2.inM hlow h2.ge
    have frw4 := qw4.2
    replace hE := hE.trans sw4.below
    replace ht := Rep.stp ht sw4
    replace hk := hk.stp sw4
    replace h1 := h1.stp sw4
    replace hsub := fun b h => sw4.sub b (hsub b h)
    replace hlow := sw4.low
    replace hB := Nat.le_trans hB sw4.upd.1
    replace h2 : MB w.heap.size _ w4 b2 _ [.int .u8 0, .string ⟨#[]⟩, .int .i64 0, .slice none 0 0] := ⟨hw4, h2.inM, h2.ge⟩
    refine q1 (c_ret (x_seqR ?_))
    refine x_ret1s tbOk (fun j v hv => h2.cell j v hv) rfl rfl rfl rfl rfl ?_
    rw [show (rightB t || rowB t) = false from hr]
    exact ⟨oty_leaf (by decide) (by decide) ⟨by decide, by decide⟩, hE⟩
  refine c_skip (x_seq (q0 ?_))
  refine l_cons (o_mkmap (κ := Int) (ν := Int) (va := (fun x : Int => Value.int .i64 x)) rfl rfl ?_)
  intro bm w5 qbm ew5 ltbm hbm
  have ne_h2_hm : b2 ≠ bm := by have := h2.lt; omega
  have sw5 := Stp.add ew5 hlow hB (Nat.le_of_eq qbm.symm) ltbm
  have hm : OM (κ := Int) (fun x : Int => Value.int .i64 x) w.heap.size (Rw.Add (Rw.Add M b2) bm) w5 bm [] := OM.mk' hbm qbm hB
  replace h2 := h2.stp sw5 (ew5.block b2 h2.lt)
  replace hE := hE.trans sw5.below
  replace ht := Rep.stp ht sw5
  replace hk := hk.stp sw5
  replace h1 := h1.stp sw5
  replace hsub := fun b h => sw5.sub b (hsub b h)
  replace hlow := sw5.low
  replace hB := Nat.le_trans hB sw5.upd.1
  refine l_p 1 tbOk rfl (q1 (c_seq (q0 ?_)))
  refine l_cons (o_lds tbOk (fun j v hv => h1.cell j v hv) rfl rfl rfl rfl rfl rfl ?_)
  refine l_cons (o_call fo45 rfl rfl rfl (kVars_spec t _ _ _ ht hlow hz) ?_)
  rintro vhv w6 ⟨hv, ew6⟩
  replace h2 := h2.ext hlow hB ew6
  replace hm := hm.ext hlow hB ew6
  replace hE := hE.trans (Below.mono ew6 hB)
  replace ht := Rep.ext ht ew6
  replace hk := hk.ext ew6
  replace h1 := h1.ext ew6
  replace hlow := hlow.ext ew6
  replace hB := Nat.le_trans hB ew6.size
  rw [show (rightB t || rowB t) = true from hr] at hv
  replace hv : Sl _ w6 vhv (varsF t) := hv
  have hvl := hv.lt
  have hnd : (varsF t).Nodup := varsTo_nodup (by simp) _
  refine l_cons (o_len tbOk hv rfl rfl rfl rfl rfl ?_)
  refine l_p 1 tbOk rfl (q1 (c_blk ?_))
  refine c_loop (X := Nat) (fun i => [(1, .pointer (some ⟨b1, 0, none⟩)), (2, .pointer (some ⟨b2, 0, none⟩)), (3, .map (some bm)), (12, vhv), (13, .int .i64 ((varsF t).length : Int)), (14, .int .i64 (i : Nat))]) (fun i w' => i ≤ (varsF t).length ∧ MB w.heap.size (Rw.Add (Rw.Add M b2) bm) w' b2 25 [.int .u8 0, .string ⟨#[]⟩, .int .i64 0, .slice none 0 0] ∧ OM (κ := Int) (fun x : Int => Value.int .i64 x) w.heap.size (Rw.Add (Rw.Add M b2) bm) w' bm (tabTo (varsF t) i) ∧ Sl (Rw.Add (Rw.Add M b2) bm) w' vhv (varsF t) ∧ At (Rw.Add (Rw.Add M b2) bm) w' b1 0 [.int .u8 t.op, .string t.name, .int .i64 t.n, kv] ∧ Rep.R (Rw.Add (Rw.Add M b2) bm) w' (.agg #[.int .u8 t.op, .string t.name, .int .i64 t.n, kv]) t ∧ Low (Rw.Add (Rw.Add M b2) bm) w' ∧ (∀ b, M b → (Rw.Add (Rw.Add M b2) bm) b) ∧ Below w.heap.size w w' ∧ w.heap.size ≤ w'.heap.size) (fun i => (varsF t).length - i) (0) (s6 rfl rfl rfl rfl rfl rfl) ?_ ?_
  · refine ⟨Nat.zero_le _, h2, ?_, hv, h1, ht, hlow, hsub, hE, hB⟩
    rw [tabTo_zero]; exact hm
  clear hsub
  rintro i w7 ⟨hi, h2, hm, hv, h1, ht, hlow, hsub, hE, hB⟩
  refine q0 (l_p 1 tbOk rfl (q1 (c_seq ?_)))
  refine c_ifP _ rfl (fun hc0 => ?_) (fun hc0 => ?_)
  · refine c_skip (x_seq (c_seq (c_blk (q0 (l_p 1 tbOk rfl ?_)))))
    have hik : i < (varsF t).length := by omega
    refine l_cons (o_ixS tbOk hv (List.getElem?_eq_getElem hik) rfl rfl rfl rfl rfl rfl rfl rfl rfl ?_)
    intro ebx eox eux hyx hatx
    obtain ⟨rfl, hyi⟩ := hyx
    refine l_cons (o_ld tbOk (hatx.cell 0 _ rfl) rfl rfl rfl rfl rfl ?_)
    refine l_p 2 tbOk rfl (q1 (c_reg (l_p 3 tbOk rfl ?_)))
    refine l_cons (o_mupd tbOk hm.map (k := (varsF t)[i]) (v := (i : Int)) rfl rfl rfl rfl rfl ⟨_, Try.underlying3, rfl⟩ rfl ?_)
    intro w8 hw8 qw8 bew8
    have uw8 : UpdB _ _ _ := ⟨qw8, bew8⟩
    have sw8 := uw8.stp hm.inM hlow hm.ge
    have frw8 := qw8.2
    replace h2 := h2.stp sw8 (frw8 b2 h2.lt ne_h2_hm)
    replace hE := hE.trans sw8.below
    replace hv := hv.stp sw8
    replace h1 := h1.stp sw8
    replace ht := Rep.stp ht sw8
    replace hsub := fun b h => sw8.sub b (hsub b h)
    replace hlow := sw8.low
    replace hB := Nat.le_trans hB sw8.upd.1
    replace hm : OM _ _ _ w8 _ (putK (tabTo (varsF t) i) (varsF t)[i] (i : Int)) := ⟨hw8, hm.inM, hm.ge⟩
    refine q2 (x_seq (c_reg ?_))
    refine l_cons (o_ar rfl rfl rfl (IntWalk.i64_in _ (by omega)) rfl rfl ?_)
    refine l_p 1 tbOk rfl (l_nil ?_)
    exact x_round (i + 1) (s6 rfl rfl rfl rfl rfl (get_num rfl (by omega))) ⟨by omega, h2, by rw [tabTo_succ hik]; exact hm, hv, h1, ht, hlow, hsub, hE, hB⟩ (by omega)
  refine c_exit (x_seqE (x_seqE (x_blkE (x_seq (q0 ?_)))))
  refine l_cons (o_lds tbOk (fun j v hv => h1.cell j v hv) rfl rfl rfl rfl rfl rfl ?_)
  obtain rfl : i = (varsF t).length := by omega
  have l_h2 := h2.lt
  have l_hm := hm.lt
  refine l_cons (o_call fo73 rfl rfl rfl (canon_own _ t _ _ _ _ (Nat.le_refl _) (Classical.choose_spec (shape_either hr)) ht hlow hz) ?_)
  rintro vc w9 ⟨hc, ew9⟩
  replace hc := hc.ge hB
  have hGl : ∀ c, Plus NoM w7 w9 c → w7.heap.size ≤ c ∧ c < w9.heap.size := fun c h => h.elim (fun h => h.elim) id
  generalize Plus NoM w7 w9 = G at hc hGl
  have sw9 := (Stp.ext ew9 hlow hB).more hGl
  replace h2 := h2.stp sw9 (ew9.block b2 h2.lt)
  replace hm := hm.stp sw9 (ew9.block bm hm.lt)
  replace hE := hE.trans sw9.below
  replace hv := hv.stp sw9
  replace h1 := h1.stp sw9
  replace ht := Rep.stp ht sw9
  replace hsub := fun b h => sw9.sub b (hsub b h)
  replace hlow := sw9.low
  replace hB := Nat.le_trans hB sw9.upd.1
  have d_hc_h2 : ∀ x, G x → x ≠ b2 := fun x hx => by have := (hGl x hx).1; omega
  refine l_p 1 tbOk rfl ?_
  have l2_h2 := h2.lt
  refine l_cons (o_call fo79 rfl rfl rfl (renum_own (canonF t) (tabTo (varsF t) (varsF t).length) _ _ w.heap.size _ G bm hc (fun c hc => .inr hc) hm (fun g => by have := (hGl _ g).1; omega) (tab_i64 _ (Nat.le_refl _) hvl) hlow hB) ?_)
  rintro vq w10 ⟨Mw10, Fw10, hq, hq2, sw10, kw10⟩
  rw [number_tab] at hq
  replace h2 := h2.stp sw10 (kw10.blk b2 ⟨h2.lt, fun g => d_hc_h2 _ g rfl⟩)
  replace hm := hm.stp sw10 (kw10.blk bm ⟨hm.lt, fun g => by have := (hGl _ g).1; omega⟩)
  replace hE := hE.trans sw10.below
  replace hv := hv.stp sw10
  replace h1 := h1.stp sw10
  replace ht := Rep.stp ht sw10
  replace hsub := fun b h => sw10.sub b (hsub b h)
  replace hlow := sw10.low
  replace hB := Nat.le_trans hB sw10.upd.1
  have d_hq_h2 : ∀ x, Fw10 x → x ≠ b2 := fun x hx => (hq2 x hx).2.elim (d_hc_h2 x) (fun h => by omega)
  obtain ⟨kvq, usq, Hq, rfl, opq, nmq, n64q, hlq, hrq, hOq, hHq⟩ := oty_open hq
  refine l_cons (o_st tbOk h2.box rfl rfl rfl rfl hq.one rfl rfl ?_)
  intro w11 hw11 qw11 bew11
  have uw11 : UpdB _ _ _ := ⟨qw11, bew11⟩
  have sw11 := uw11.stp h2.inM hlow h2.ge
  have frw11 := qw11.2
  replace hm := hm.stp sw11 (frw11 bm hm.lt ne_h2_hm.symm)
  replace hq := hq.stp sw11 (fun x hx => frw11 x (hq.lt x hx).2 (d_hq_h2 x hx))
  replace hE := hE.trans sw11.below
  replace hv := hv.stp sw11
  replace h1 := h1.stp sw11
  replace ht := Rep.stp ht sw11
  replace hsub := fun b h => sw11.sub b (hsub b h)
  replace hlow := sw11.low
  replace hB := Nat.le_trans hB sw11.upd.1
  replace h2 : MB w.heap.size _ w11 b2 _ [.int .u8 (numberF t).op, .string (numberF t).name, .int .i64 (numberF t).n, kvq] := ⟨hw11, h2.inM, h2.ge⟩
  refine q1 (c_ret ?_)
  refine x_ret1s tbOk (fun j v hv => h2.cell j v hv) rfl rfl rfl rfl rfl ?_
  rw [show (rightB t || rowB t) = true from hr]
  exact ⟨hq.mono (fun c h => .inr (hq.lt c h)) (fun c h => h.elim (fun h => h.elim) id), hE⟩

/-- At: the first place of a number in a list; -1: none. -/
theorem at_spec (M : Nat → Prop) (w : World) (v : Value) (l : List Int) (n : Int) (hl : Sl M w v l) :
    Calls Try.prog 110 #[v, .int .i64 n] w (Ret fun r w' => r = .int .i64 (atOf l n) ∧ w = w') := by
  have hlt := hl.lt
  refine c_enter (n := 19) Try.func110 rfl rfl rfl ?_
  refine q0 (l_p 1 tbOk rfl (q1 (c_seq (q0 (l_p 1 tbOk rfl (q1 (c_blk ?_)))))))
  refine c_loop (X := Nat) (fun x => [(0, v), (1, .int .i64 n), (5, .int .i64 (x : Nat))]) (fun x w' => w = w' ∧ x ≤ l.length ∧ ∀ j, j < x → l[j]? ≠ some n) (fun x => l.length - x) (0) (s3 rfl rfl rfl) ?_ ?_
  · exact ⟨rfl, Nat.zero_le _, fun j hj => absurd hj (Nat.not_lt_zero _)⟩
  rintro k _ ⟨rfl, hk, hno⟩
  refine c_seq (q0 (l_p 2 tbOk rfl ?_))
  refine l_cons (o_len tbOk hl rfl rfl rfl rfl rfl ?_)
  refine l_p 1 tbOk rfl (q1 ?_)
  refine c_ifP _ rfl (fun h => ?_) (fun h => ?_)
  · have hkl : k < l.length := by omega
    refine c_skip (x_seq (c_seq (c_blk (q0 (l_p 2 tbOk rfl ?_)))))
    refine l_cons (o_ixS tbOk hl (List.getElem?_eq_getElem hkl) rfl rfl rfl rfl rfl rfl rfl rfl rfl ?_)
    intro b o u hr hat
    obtain ⟨rfl, hb⟩ := hr
    refine l_cons (o_ld tbOk (hat.cell 0 _ rfl) rfl rfl rfl rfl rfl ?_)
    refine l_p 2 tbOk rfl (q1 ?_)
    refine c_ifP _ rfl (fun h2 => ?_) (fun h2 => ?_)
    · refine q0 (l_p 2 tbOk rfl (q1 (c_ret (x_blkR (x_seqR (x_seqR (x_blkR (x_seqR (x_ret1 rfl rfl ?_)))))))))
      exact ⟨by rw [atOf_found hkl h2 hno], rfl⟩
    refine c_skip (x_blk (x_seq (c_reg (l_p 1 tbOk rfl ?_))))
    refine l_cons (o_ar rfl rfl rfl (IntWalk.i64_in _ (by omega)) rfl rfl ?_)
    refine l_p 1 tbOk rfl (l_nil ?_)
    exact x_round (k + 1) (s3 rfl rfl rfl) ⟨rfl, by omega, step_no hno hkl h2⟩ (by omega)
  refine c_exit (x_seqE (x_seqE (x_blkE (x_seq (q0 (l_p 1 tbOk rfl (q1 (c_ret (x_ret1 rfl rfl ?_)))))))))
  exact ⟨by rw [atOf_none (by omega) hno], rfl⟩

/-- In: is a number in a list? -/
theorem in_spec (M : Nat → Prop) (w : World) (v : Value) (l : List Int) (n : Int) (hl : Sl M w v l) :
    Calls Try.prog 83 #[v, .int .i64 n] w (Ret fun r w' => r = .bool (decide (n ∈ l)) ∧ w = w') := by
  refine c_enter (n := 9) Try.func83 rfl rfl rfl ?_
  refine q0 (l_p 1 tbOk rfl (q1 (q0 (l_p 2 tbOk rfl ?_))))
  refine l_cons (o_call fo110 rfl rfl rfl (at_spec M _ _ l n hl) ?_)
  rintro _ _ ⟨rfl, rfl⟩
  refine l_p 2 tbOk rfl (q1 (c_ret (x_ret1 rfl rfl ?_)))
  exact ⟨by rw [inOf_at], rfl⟩

/-- SameInts: are two lists the same? -/
theorem sameInts_spec (M : Nat → Prop) (w : World) (u v : Value) (a b : List Int) (ha : Sl M w u a) (hb : Sl M w v b) :
    Calls Try.prog 51 #[u, v] w (Ret fun r w' => r = .bool (decide (a = b)) ∧ Ext w w') := by
  have hla := ha.lt
  have hlb := hb.lt
  have hE := ext_refl w
  refine c_enter (n := 26) Try.func51 rfl rfl rfl ?_
  refine q0 (l_p 1 tbOk rfl (q1 (c_seq (q0 (l_p 1 tbOk rfl ?_)))))
  refine l_cons (o_len tbOk ha rfl rfl rfl rfl rfl ?_)
  refine l_p 1 tbOk rfl ?_
  refine l_cons (o_len tbOk hb rfl rfl rfl rfl rfl ?_)
  refine l_p 1 tbOk rfl (q1 ?_)
  refine c_ifN _ rfl (fun h1 => ?_) (fun h1 => ?_)
  · refine q0 (l_p 1 tbOk rfl (q1 (c_ret (x_seqR (x_ret1 rfl rfl ?_)))))
    exact ⟨by rw [len_ne h1], hE⟩
  refine c_skip (x_seq (c_seq (q0 (l_p 1 tbOk rfl (q1 (c_blk ?_))))))
  refine c_loop (X := Nat) (fun x => [(0, u), (1, v), (5, .int .i64 (x : Nat))]) (fun x w' => Ext w w' ∧ x ≤ a.length ∧ a.take x = b.take x) (fun x => a.length - x) (0) (s3 rfl rfl rfl) ?_ ?_
  · exact ⟨hE, Nat.zero_le _, rfl⟩
  rintro k w0 ⟨hE, hk, hs⟩
  replace ha := ha.ext hE
  replace hb := hb.ext hE
  refine c_seq (q0 (l_p 2 tbOk rfl ?_))
  refine l_cons (o_len tbOk ha rfl rfl rfl rfl rfl ?_)
  refine l_p 1 tbOk rfl (q1 ?_)
  refine c_ifP _ rfl (fun h => ?_) (fun h => ?_)
  · have hka : k < a.length := by omega
    have hkb : k < b.length := by omega
    refine c_skip (x_seq (c_seq (c_blk (c_seq ?_))))
    refine a_beg Ext rfl ?_
    intro w1 ew1
    replace ha := ha.ext ew1
    replace hb := hb.ext ew1
    have hS : Ext w1 w1 := ext_refl _
    have D_ha := ha
    have D_hb := hb
    refine a_p 0 tbOk rfl rfl rfl rfl (by kernel_rfl) (fun _ _ _ h => h) hS ?_
    refine a_p 1 tbOk rfl rfl rfl rfl (by kernel_rfl) (fun _ _ _ h => h) hS ?_
    refine a_ixS 2 tbOk D_ha (List.getElem?_eq_getElem hka) rfl rfl rfl rfl rfl rfl rfl rfl rfl rfl (by kernel_rfl) (fun _ _ _ _ h => h) hS ?_
    intro b1 o1 u1 hr1 hat1
    obtain ⟨rfl, hb1⟩ := hr1
    refine a_ld 3 tbOk (fun _ hs => (hat1.ext hs).cell 0 _ rfl) rfl rfl rfl rfl rfl rfl (by kernel_rfl) (fun _ _ _ h => h) hS ?_
    refine a_p 4 tbOk rfl rfl rfl rfl (by kernel_rfl) (fun _ _ _ h => h) hS ?_
    refine a_p 5 tbOk rfl rfl rfl rfl (by kernel_rfl) (fun _ _ _ h => h) hS ?_
    refine a_ixS 6 tbOk D_hb (List.getElem?_eq_getElem hkb) rfl rfl rfl rfl rfl rfl rfl rfl rfl rfl (by kernel_rfl) (fun _ _ _ _ h => h) hS ?_
    intro b2 o2 u2 hr2 hat2
    obtain ⟨rfl, hb2⟩ := hr2
    refine a_ld 7 tbOk (fun _ hs => (hat2.ext hs).cell 0 _ rfl) rfl rfl rfl rfl rfl rfl (by kernel_rfl) (fun _ _ _ h => h) hS ?_
    refine a_p 8 tbOk rfl rfl rfl rfl (by kernel_rfl) (fun _ _ _ h => h) hS ?_
    refine a_end (by kernel_rfl) ?_
    refine x_seq ?_
    refine c_ifN _ rfl (fun h2 => ?_) (fun h2 => ?_)
    · refine q0 (l_p 1 tbOk rfl (q1 (c_ret (x_blkR (x_seqR (x_seqR (x_blkR (x_seqR (x_ret1 rfl rfl ?_)))))))))
      exact ⟨by rw [take_ne hka hkb h2], hE.then ew1⟩
    refine c_skip (x_blk (x_seq (c_reg (l_p 1 tbOk rfl ?_))))
    refine l_cons (o_ar rfl rfl rfl (IntWalk.i64_in _ (by omega)) rfl rfl ?_)
    refine l_p 1 tbOk rfl (l_nil ?_)
    exact x_round (k + 1) (s3 rfl rfl rfl) ⟨hE.then ew1, by omega, take_succ_eq hka hkb hs h2⟩ (by omega)
  refine c_exit (x_seqE (x_seqE (x_blkE (x_seq (q0 (l_p 1 tbOk rfl (q1 (c_ret (x_ret1 rfl rfl ?_)))))))))
  exact ⟨by rw [take_all (by omega) h1 hs], hE⟩

/-- The document's Vars. -/
theorem refVars_spec (t : Ty) (c : UInt8) (M : Nat → Prop) (w : World) (v : Value) (hsh : shapeF t c = true) (ht : Rep.R M w v t) (hlow0 : Low M w) (hz : psz t ≤ 2000000) :
    Calls Try.prog 48 #[v] w (Ret fun r w' => Sl M w' r (varsF t) ∧ Ext w w') := by
  have hlow := hlow0
  have hB : w.heap.size ≤ w.heap.size := Nat.le_refl _
  have hE : Below w.heap.size w w := Below.refl _ _
  have hsub : ∀ b, M b → M b := fun _ h => h
  obtain ⟨kv, rfl, op, nm, n64, hk⟩ := ty_open ht
  have hpc := psz_canon _ t (Nat.le_refl _)
  have hpl : (partsL (canonF t)).length = psz (canonF t) := rfl
  refine c_enter (n := 48) Try.func48 rfl rfl rfl ?_
  refine q0 ?_
  refine l_cons (o_box rfl rfl rfl ?_)
  intro b1 w1 hb_b1 ew1 h1
  replace h1 : Box _ b1 25 [.int .u8 t.op, .string t.name, .int .i64 t.n, kv] := h1
  replace h1 := h1.at (nM_of hlow hb_b1)
  replace hE := hE.trans (Below.mono ew1 hB)
  replace ht := Rep.ext ht ew1
  replace hk := hk.ext ew1
  replace hlow := hlow.ext ew1
  replace hB := Nat.le_trans hB ew1.size
  refine l_p 1 tbOk rfl (q1 (q0 (l_p 1 tbOk rfl (q1 (q0 ?_)))))
  refine l_cons (o_lds tbOk (fun j v hv => h1.cell j v hv) rfl rfl rfl rfl rfl rfl ?_)
  refine l_cons (o_call fo49 rfl rfl rfl (refCanon_all _ t c _ _ _ (Nat.le_refl _) hsh ht hlow hz) ?_)
  rintro vc w2 ⟨hc, ew2⟩
  replace hE := hE.trans (Below.mono ew2 hB)
  replace ht := Rep.ext ht ew2
  replace hk := hk.ext ew2
  replace h1 := h1.ext ew2
  replace hlow := hlow.ext ew2
  replace hB := Nat.le_trans hB ew2.size
  refine l_cons (o_call fo21 rfl rfl rfl (parts_spec (canonF t) _ _ _ hc hlow (by omega)) ?_)
  rintro vhp w3 ⟨hp, ew3⟩
  replace hE := hE.trans (Below.mono ew3 hB)
  replace ht := Rep.ext ht ew3
  replace hk := hk.ext ew3
  replace h1 := h1.ext ew3
  replace hc := Rep.ext hc ew3
  replace hlow := hlow.ext ew3
  replace hB := Nat.le_trans hB ew3.size
  refine l_p 1 tbOk rfl (q1 (c_seq (q0 (l_p 1 tbOk rfl (q1 (c_blk ?_))))))
  refine c_loop3 (X := Nat) (Y := Value) (Z := Nat → Prop) (fun i v M1 => [(3, v), (4, vhp), (5, .int .i64 (i : Nat))]) (fun i v M1 w' => i ≤ (partsL (canonF t)).length ∧ OwnSl 3 w.heap.size M1 w' v (varsTo [] ((partsL (canonF t)).take i)) ∧ Sl M1 w' vhp (partsL (canonF t)) ∧ Low M1 w' ∧ (∀ b, M b → M1 b) ∧ Below w.heap.size w w' ∧ w.heap.size ≤ w'.heap.size) (fun i v M1 => (partsL (canonF t)).length - i) (0) (.slice none 0 0) (M) (s3 rfl rfl rfl) ?_ ?_
  · exact ⟨Nat.zero_le _, own_nil, hp, hlow, hsub, hE, hB⟩
  rintro i v M1 w4 ⟨hi, ho, hp, hlow, hsub, hE, hB⟩
  have hvl := varsTo_len [] ((partsL (canonF t)).take i)
  rw [List.length_nil, List.length_take] at hvl
  refine c_seq (q0 (l_p 2 tbOk rfl ?_))
  refine l_cons (o_len tbOk hp rfl rfl rfl rfl rfl ?_)
  refine l_p 1 tbOk rfl (q1 ?_)
  refine c_ifP _ rfl (fun c1 => ?_) (fun c1 => ?_)
  · refine c_skip (x_seq (c_seq (c_blk (q0 (l_p 2 tbOk rfl ?_)))))
    have hik : i < (partsL (canonF t)).length := by omega
    refine l_cons (o_ixS tbOk hp (List.getElem?_eq_getElem hik) rfl rfl rfl rfl rfl rfl rfl rfl rfl ?_)
    intro ebx0 eox0 eux0 hyx0 hatx0
    obtain ⟨kvx0, rfl, opx0, nmx0, n64x0, hkx0⟩ := ty_open hyx0
    replace hatx0 : At M1 w4 ebx0 eox0 [.int .u8 (partsL (canonF t))[i].op, .string (partsL (canonF t))[i].name, .int .i64 (partsL (canonF t))[i].n, kvx0] := hatx0
    refine l_p 1 tbOk rfl ?_
    refine l_cons (o_ld tbOk (hatx0.cell 0 _ rfl) rfl rfl rfl rfl rfl ?_)
    refine l_p 2 tbOk rfl ?_
    refine l_splitP 21 _ rfl (fun c2 => ?_) (fun c2 => ?_)
    · refine l_p 11 tbOk rfl ?_
      refine l_cons (o_ixS tbOk hp (List.getElem?_eq_getElem hik) rfl rfl rfl rfl rfl rfl rfl rfl rfl ?_)
      intro ebx1 eox1 eux1 hyx1 hatx1
      obtain ⟨kvx1, rfl, opx1, nmx1, n64x1, hkx1⟩ := ty_open hyx1
      replace hatx1 : At M1 w4 ebx1 eox1 [.int .u8 (partsL (canonF t))[i].op, .string (partsL (canonF t))[i].name, .int .i64 (partsL (canonF t))[i].n, kvx1] := hatx1
      refine l_p 1 tbOk rfl ?_
      refine l_cons (o_ld tbOk (hatx1.cell 2 _ rfl) rfl rfl rfl rfl rfl ?_)
      have hos : Sl NoM w4 v (varsTo [] ((partsL (canonF t)).take i)) := ho.sl (by omega) (fun _ h => h.elim) (fun _ h => h.elim)
      refine l_cons (o_call fo83 rfl rfl rfl (in_spec NoM _ _ _ _ hos) ?_)
      rintro _ _ ⟨rfl, rfl⟩
      refine l_p 2 tbOk rfl (q1 ?_)
      refine c_ifN _ rfl (fun c3 => ?_) (fun c3 => ?_)
      · refine c_reg (l_p 3 tbOk rfl ?_)
        refine l_cons (o_ixS tbOk hp (List.getElem?_eq_getElem hik) rfl rfl rfl rfl rfl rfl rfl rfl rfl ?_)
        intro ebx2 eox2 eux2 hyx2 hatx2
        obtain ⟨kvx2, rfl, opx2, nmx2, n64x2, hkx2⟩ := ty_open hyx2
        replace hatx2 : At M1 w4 ebx2 eox2 [.int .u8 (partsL (canonF t))[i].op, .string (partsL (canonF t))[i].name, .int .i64 (partsL (canonF t))[i].n, kvx2] := hatx2
        refine l_p 1 tbOk rfl ?_
        refine l_cons (o_ld tbOk (hatx2.cell 2 _ rfl) rfl rfl rfl rfl rfl ?_)
        refine l_cons (o_bs tbOk rfl rfl rfl rfl rfl rfl rfl (sz1 rfl) rfl rfl rfl ?_)
        intro bw5 w5 qbw5 ew5 hbw5
        have nbw5 := nM_of hlow qbw5
        replace ho := ho.ext hlow hB ew5
        replace hE := hE.trans (Below.mono ew5 hB)
        replace hp := hp.ext ew5
        replace hyx0 := Rep.ext hyx0 ew5
        replace hkx0 := hkx0.ext ew5
        replace hatx0 := hatx0.ext ew5
        replace hyx1 := Rep.ext hyx1 ew5
        replace hkx1 := hkx1.ext ew5
        replace hatx1 := hatx1.ext ew5
        replace hyx2 := Rep.ext hyx2 ew5
        replace hkx2 := hkx2.ext ew5
        replace hatx2 := hatx2.ext ew5
        replace hlow := hlow.ext ew5
        replace hB := Nat.le_trans hB ew5.size
        refine l_cons (o_app1 tbOk ho hbw5 nbw5 ⟨rfl, n64x2⟩ hlow hB rfl rfl rfl rfl rfl rfl rfl (by omega) (by show (_ + _) * 8 ≤ _; omega) rfl rfl ?_)
        intro vw6 w6 Mw6 hw6 sw6 frw6 blw6
        replace hE := hE.trans sw6.below
        replace hp := hp.stp sw6
        replace hyx0 := Rep.stp hyx0 sw6
        replace hkx0 := hkx0.stp sw6
        replace hatx0 := hatx0.stp sw6
        replace hyx1 := Rep.stp hyx1 sw6
        replace hkx1 := hkx1.stp sw6
        replace hatx1 := hatx1.stp sw6
        replace hyx2 := Rep.stp hyx2 sw6
        replace hkx2 := hkx2.stp sw6
        replace hatx2 := hatx2.stp sw6
        replace hsub := fun b h => sw6.sub b (hsub b h)
        replace hlow := sw6.low
        replace hB := Nat.le_trans hB sw6.upd.1
        replace ho := hw6
        clear hw6
        refine l_p 1 tbOk rfl (q2 (x_seq (c_reg (l_p 1 tbOk rfl ?_))))
        refine l_cons (o_ar rfl rfl rfl (IntWalk.i64_in _ (by omega)) rfl rfl ?_)
        refine l_p 1 tbOk rfl (l_nil ?_)
        have htk : (partsL (canonF t)).take (i + 1) = (partsL (canonF t)).take i ++ [(partsL (canonF t))[i]] := List.take_succ_eq_append_getElem hik
        have hnb : numB (partsL (canonF t))[i].op = true := by unfold numB; simp [*]
        have hni : (partsL (canonF t))[i].n ∉ varsTo [] ((partsL (canonF t)).take i) := by assumption
        exact x_round3 (i + 1) (vw6) (Mw6) (s3 rfl rfl (get_num rfl (by omega))) ⟨by omega, by rw [htk, varsTo_yes hnb hni]; exact ho, hp, hlow, hsub, hE, hB⟩ (by omega)
      refine c_skip (x_blk (x_seq (c_reg (l_p 1 tbOk rfl ?_))))
      refine l_cons (o_ar rfl rfl rfl (IntWalk.i64_in _ (by omega)) rfl rfl ?_)
      refine l_p 1 tbOk rfl (l_nil ?_)
      have htk : (partsL (canonF t)).take (i + 1) = (partsL (canonF t)).take i ++ [(partsL (canonF t))[i]] := List.take_succ_eq_append_getElem hik
      have hst : varsTo [] ((partsL (canonF t)).take (i + 1)) = varsTo [] ((partsL (canonF t)).take i) := by
        rw [htk]
        cases hnb : numB (partsL (canonF t))[i].op with
        | false => exact varsTo_no hnb
        | true =>
          refine varsTo_old ?_
          unfold numB at hnb
          simp_all
      exact x_round3 (i + 1) (v) (M1) (s3 rfl rfl (get_num rfl (by omega))) ⟨by omega, by rw [hst]; exact ho, hp, hlow, hsub, hE, hB⟩ (by omega)
    refine l_p 2 tbOk rfl ?_
    refine l_cons (o_ixS tbOk hp (List.getElem?_eq_getElem hik) rfl rfl rfl rfl rfl rfl rfl rfl rfl ?_)
    intro ebx1 eox1 eux1 hyx1 hatx1
    obtain ⟨kvx1, rfl, opx1, nmx1, n64x1, hkx1⟩ := ty_open hyx1
    replace hatx1 : At M1 w4 ebx1 eox1 [.int .u8 (partsL (canonF t))[i].op, .string (partsL (canonF t))[i].name, .int .i64 (partsL (canonF t))[i].n, kvx1] := hatx1
    refine l_p 1 tbOk rfl ?_
    refine l_cons (o_ld tbOk (hatx1.cell 0 _ rfl) rfl rfl rfl rfl rfl ?_)
    refine l_p 3 tbOk rfl ?_
    refine l_splitP 29 _ rfl (fun c4 => ?_) (fun c4 => ?_)
    · refine l_p 3 tbOk rfl ?_
      refine l_cons (o_ixS tbOk hp (List.getElem?_eq_getElem hik) rfl rfl rfl rfl rfl rfl rfl rfl rfl ?_)
      intro ebx2 eox2 eux2 hyx2 hatx2
      obtain ⟨kvx2, rfl, opx2, nmx2, n64x2, hkx2⟩ := ty_open hyx2
      replace hatx2 : At M1 w4 ebx2 eox2 [.int .u8 (partsL (canonF t))[i].op, .string (partsL (canonF t))[i].name, .int .i64 (partsL (canonF t))[i].n, kvx2] := hatx2
      refine l_p 1 tbOk rfl ?_
      refine l_cons (o_ld tbOk (hatx2.cell 2 _ rfl) rfl rfl rfl rfl rfl ?_)
      have hos : Sl NoM w4 v (varsTo [] ((partsL (canonF t)).take i)) := ho.sl (by omega) (fun _ h => h.elim) (fun _ h => h.elim)
      refine l_cons (o_call fo83 rfl rfl rfl (in_spec NoM _ _ _ _ hos) ?_)
      rintro _ _ ⟨rfl, rfl⟩
      refine l_p 2 tbOk rfl (q1 ?_)
      refine c_ifN _ rfl (fun c5 => ?_) (fun c5 => ?_)
      · refine c_reg (l_p 3 tbOk rfl ?_)
        refine l_cons (o_ixS tbOk hp (List.getElem?_eq_getElem hik) rfl rfl rfl rfl rfl rfl rfl rfl rfl ?_)
        intro ebx3 eox3 eux3 hyx3 hatx3
        obtain ⟨kvx3, rfl, opx3, nmx3, n64x3, hkx3⟩ := ty_open hyx3
        replace hatx3 : At M1 w4 ebx3 eox3 [.int .u8 (partsL (canonF t))[i].op, .string (partsL (canonF t))[i].name, .int .i64 (partsL (canonF t))[i].n, kvx3] := hatx3
        refine l_p 1 tbOk rfl ?_
        refine l_cons (o_ld tbOk (hatx3.cell 2 _ rfl) rfl rfl rfl rfl rfl ?_)
        refine l_cons (o_bs tbOk rfl rfl rfl rfl rfl rfl rfl (sz1 rfl) rfl rfl rfl ?_)
        intro bw7 w7 qbw7 ew7 hbw7
        have nbw7 := nM_of hlow qbw7
        replace ho := ho.ext hlow hB ew7
        replace hE := hE.trans (Below.mono ew7 hB)
        replace hp := hp.ext ew7
        replace hyx0 := Rep.ext hyx0 ew7
        replace hkx0 := hkx0.ext ew7
        replace hatx0 := hatx0.ext ew7
        replace hyx1 := Rep.ext hyx1 ew7
        replace hkx1 := hkx1.ext ew7
        replace hatx1 := hatx1.ext ew7
        replace hyx2 := Rep.ext hyx2 ew7
        replace hkx2 := hkx2.ext ew7
        replace hatx2 := hatx2.ext ew7
        replace hyx3 := Rep.ext hyx3 ew7
        replace hkx3 := hkx3.ext ew7
        replace hatx3 := hatx3.ext ew7
        replace hlow := hlow.ext ew7
        replace hB := Nat.le_trans hB ew7.size
        refine l_cons (o_app1 tbOk ho hbw7 nbw7 ⟨rfl, n64x3⟩ hlow hB rfl rfl rfl rfl rfl rfl rfl (by omega) (by show (_ + _) * 8 ≤ _; omega) rfl rfl ?_)
        intro vw8 w8 Mw8 hw8 sw8 frw8 blw8
        replace hE := hE.trans sw8.below
        replace hp := hp.stp sw8
        replace hyx0 := Rep.stp hyx0 sw8
        replace hkx0 := hkx0.stp sw8
        replace hatx0 := hatx0.stp sw8
        replace hyx1 := Rep.stp hyx1 sw8
        replace hkx1 := hkx1.stp sw8
        replace hatx1 := hatx1.stp sw8
        replace hyx2 := Rep.stp hyx2 sw8
        replace hkx2 := hkx2.stp sw8
        replace hatx2 := hatx2.stp sw8
        replace hyx3 := Rep.stp hyx3 sw8
        replace hkx3 := hkx3.stp sw8
        replace hatx3 := hatx3.stp sw8
        replace hsub := fun b h => sw8.sub b (hsub b h)
        replace hlow := sw8.low
        replace hB := Nat.le_trans hB sw8.upd.1
        replace ho := hw8
        clear hw8
        refine l_p 1 tbOk rfl (q2 (x_seq (c_reg (l_p 1 tbOk rfl ?_))))
        refine l_cons (o_ar rfl rfl rfl (IntWalk.i64_in _ (by omega)) rfl rfl ?_)
        refine l_p 1 tbOk rfl (l_nil ?_)
        have htk : (partsL (canonF t)).take (i + 1) = (partsL (canonF t)).take i ++ [(partsL (canonF t))[i]] := List.take_succ_eq_append_getElem hik
        have hnb : numB (partsL (canonF t))[i].op = true := by unfold numB; simp [*]
        have hni : (partsL (canonF t))[i].n ∉ varsTo [] ((partsL (canonF t)).take i) := by assumption
        exact x_round3 (i + 1) (vw8) (Mw8) (s3 rfl rfl (get_num rfl (by omega))) ⟨by omega, by rw [htk, varsTo_yes hnb hni]; exact ho, hp, hlow, hsub, hE, hB⟩ (by omega)
      refine c_skip (x_blk (x_seq (c_reg (l_p 1 tbOk rfl ?_))))
      refine l_cons (o_ar rfl rfl rfl (IntWalk.i64_in _ (by omega)) rfl rfl ?_)
      refine l_p 1 tbOk rfl (l_nil ?_)
      have htk : (partsL (canonF t)).take (i + 1) = (partsL (canonF t)).take i ++ [(partsL (canonF t))[i]] := List.take_succ_eq_append_getElem hik
      have hst : varsTo [] ((partsL (canonF t)).take (i + 1)) = varsTo [] ((partsL (canonF t)).take i) := by
        rw [htk]
        cases hnb : numB (partsL (canonF t))[i].op with
        | false => exact varsTo_no hnb
        | true =>
          refine varsTo_old ?_
          unfold numB at hnb
          simp_all
      exact x_round3 (i + 1) (v) (M1) (s3 rfl rfl (get_num rfl (by omega))) ⟨by omega, by rw [hst]; exact ho, hp, hlow, hsub, hE, hB⟩ (by omega)
    refine l_p 9 tbOk rfl (q1 (c_ifF rfl (c_skip (x_blk (x_seq (c_reg (l_p 1 tbOk rfl ?_)))))))
    refine l_cons (o_ar rfl rfl rfl (IntWalk.i64_in _ (by omega)) rfl rfl ?_)
    refine l_p 1 tbOk rfl (l_nil ?_)
    have htk : (partsL (canonF t)).take (i + 1) = (partsL (canonF t)).take i ++ [(partsL (canonF t))[i]] := List.take_succ_eq_append_getElem hik
    have hst : varsTo [] ((partsL (canonF t)).take (i + 1)) = varsTo [] ((partsL (canonF t)).take i) := by
      rw [htk]
      cases hnb : numB (partsL (canonF t))[i].op with
      | false => exact varsTo_no hnb
      | true =>
        refine varsTo_old ?_
        unfold numB at hnb
        simp_all
    exact x_round3 (i + 1) (v) (M1) (s3 rfl rfl (get_num rfl (by omega))) ⟨by omega, by rw [hst]; exact ho, hp, hlow, hsub, hE, hB⟩ (by omega)
  refine c_exit (x_seqE (x_seqE (x_blkE (x_seq (q0 (l_p 2 tbOk rfl (q1 (c_ret (x_ret1 rfl rfl ?_)))))))))
  obtain rfl : i = (partsL (canonF t)).length := by omega
  rw [List.take_of_length_le (Nat.le_refl _)] at ho hvl
  exact ⟨ho.sl (by omega) hlow0 hsub, hE⟩

/-- The document's Static. -/
theorem refStatic_spec (t : Ty) (M : Nat → Prop) (w : World) (v : Value) (ht : Rep.R M w v t) (hlow : Low M w) (hz : psz t ≤ 2000000) :
    Calls Try.prog 52 #[v] w (Ret fun r w' => r = .bool (staticF t) ∧ Ext w w') := by
  have hE : Below w.heap.size w w := Below.refl _ _
  have hB : w.heap.size ≤ w.heap.size := Nat.le_refl _
  obtain ⟨kv, rfl, op, nm, n64, hk⟩ := ty_open ht
  have hpl : (partsL t).length = psz t := rfl
  refine c_enter (n := 27) Try.func52 rfl rfl rfl ?_
  refine q0 ?_
  refine l_cons (o_box rfl rfl rfl ?_)
  intro b1 w1 hb_b1 ew1 h1
  replace h1 : Box _ b1 25 [.int .u8 t.op, .string t.name, .int .i64 t.n, kv] := h1
  replace h1 := h1.at (nM_of hlow hb_b1)
  replace hE := hE.trans (Below.mono ew1 hB)
  replace ht := Rep.ext ht ew1
  replace hk := hk.ext ew1
  replace hlow := hlow.ext ew1
  replace hB := Nat.le_trans hB ew1.size
  refine l_p 1 tbOk rfl (q1 (q0 ?_))
  refine l_cons (o_lds tbOk (fun j v hv => h1.cell j v hv) rfl rfl rfl rfl rfl rfl ?_)
  refine l_cons (o_call fo21 rfl rfl rfl (parts_spec t _ _ _ ht hlow hz) ?_)
  rintro vhp w2 ⟨hp, ew2⟩
  replace hE := hE.trans (Below.mono ew2 hB)
  replace ht := Rep.ext ht ew2
  replace hk := hk.ext ew2
  replace h1 := h1.ext ew2
  replace hlow := hlow.ext ew2
  replace hB := Nat.le_trans hB ew2.size
  refine l_p 1 tbOk rfl (q1 (c_seq (q0 (l_p 1 tbOk rfl (q1 (c_blk ?_))))))
  refine c_loop (X := Nat) (fun i => [(3, vhp), (4, .int .i64 (i : Nat))]) (fun i w' => i ≤ (partsL t).length ∧ ((partsL t).take i).all statB = true ∧ Sl M w' vhp (partsL t) ∧ Low M w' ∧ Below w.heap.size w w' ∧ w.heap.size ≤ w'.heap.size) (fun i => (partsL t).length - i) (0) (s2 rfl rfl) ?_ ?_
  · exact ⟨Nat.zero_le _, rfl, hp, hlow, hE, hB⟩
  rintro i w3 ⟨hi, hall, hp, hlow, hE, hB⟩
  refine c_seq (q0 (l_p 2 tbOk rfl ?_))
  refine l_cons (o_len tbOk hp rfl rfl rfl rfl rfl ?_)
  refine l_p 1 tbOk rfl (q1 ?_)
  refine c_ifP _ rfl (fun c1 => ?_) (fun c1 => ?_)
  · refine c_skip (x_seq (c_seq (c_blk (q0 (l_p 2 tbOk rfl ?_)))))
    have hik : i < (partsL t).length := by omega
    refine l_cons (o_ixS tbOk hp (List.getElem?_eq_getElem hik) rfl rfl rfl rfl rfl rfl rfl rfl rfl ?_)
    intro ebx0 eox0 eux0 hyx0 hatx0
    obtain ⟨kvx0, rfl, opx0, nmx0, n64x0, hkx0⟩ := ty_open hyx0
    replace hatx0 : At M w3 ebx0 eox0 [.int .u8 (partsL t)[i].op, .string (partsL t)[i].name, .int .i64 (partsL t)[i].n, kvx0] := hatx0
    refine l_p 1 tbOk rfl ?_
    refine l_cons (o_ld tbOk (hatx0.cell 0 _ rfl) rfl rfl rfl rfl rfl ?_)
    refine l_p 2 tbOk rfl ?_
    refine l_splitP 19 _ rfl (fun c2 => ?_) (fun c2 => ?_)
    · refine l_p 7 tbOk rfl (q1 (c_ifT rfl (q0 (l_p 1 tbOk rfl (q1 (c_ret (x_blkR (x_seqR (x_seqR (x_blkR (x_seqR (x_ret1 rfl rfl ?_))))))))))))
      have hsf : staticF t = false := List.all_eq_false.2 ⟨_, List.getElem_mem hik, by unfold statB; simp [*]⟩
      exact ⟨by rw [hsf], hE⟩
    refine l_p 2 tbOk rfl ?_
    refine l_cons (o_ixS tbOk hp (List.getElem?_eq_getElem hik) rfl rfl rfl rfl rfl rfl rfl rfl rfl ?_)
    intro ebx1 eox1 eux1 hyx1 hatx1
    obtain ⟨kvx1, rfl, opx1, nmx1, n64x1, hkx1⟩ := ty_open hyx1
    replace hatx1 : At M w3 ebx1 eox1 [.int .u8 (partsL t)[i].op, .string (partsL t)[i].name, .int .i64 (partsL t)[i].n, kvx1] := hatx1
    refine l_p 1 tbOk rfl ?_
    refine l_cons (o_ld tbOk (hatx1.cell 0 _ rfl) rfl rfl rfl rfl rfl ?_)
    refine l_p 2 tbOk rfl (q1 ?_)
    refine c_ifP _ rfl (fun c3 => ?_) (fun c3 => ?_)
    · refine q0 (l_p 1 tbOk rfl (q1 (c_ret (x_blkR (x_seqR (x_seqR (x_blkR (x_seqR (x_ret1 rfl rfl ?_)))))))))
      have hsf : staticF t = false := List.all_eq_false.2 ⟨_, List.getElem_mem hik, by unfold statB; simp [*]⟩
      exact ⟨by rw [hsf], hE⟩
    refine c_skip (x_blk (x_seq (c_reg (l_p 1 tbOk rfl ?_))))
    refine l_cons (o_ar rfl rfl rfl (IntWalk.i64_in _ (by omega)) rfl rfl ?_)
    refine l_p 1 tbOk rfl (l_nil ?_)
    have hsb : statB (partsL t)[i] = true := by unfold statB; simp [*]
    exact x_round (i + 1) (s2 rfl (get_num rfl (by omega))) ⟨by omega, by rw [List.take_succ_eq_append_getElem hik, List.all_append, hall]; simp [hsb], hp, hlow, hE, hB⟩ (by omega)
  refine c_exit (x_seqE (x_seqE (x_blkE (x_seq (q0 (l_p 1 tbOk rfl (q1 (c_ret (x_ret1 rfl rfl ?_)))))))))
  rw [List.take_of_length_le (by omega)] at hall
  exact ⟨by rw [show staticF t = true from hall], hE⟩

/-- The document's Numbered. -/
theorem numbered_spec : ∀ (t : Ty) (l : List Int) (M : Nat → Prop) (w : World) (v u : Value), Rep.R M w v t → Sl M w u l → Low M w → psz t ≤ 2000000 → Calls Try.prog 84 #[v, u] w (Ret fun r w' => Rep.R M w' r (renF (atOf l) t) ∧ Ext w w') := by
  refine Ty.ind fun t ih => ?_
  intro l M w v u ht hl hlow0 hsz
  have hlow := hlow0
  have hB : w.heap.size ≤ w.heap.size := Nat.le_refl _
  have hE : Below w.heap.size w w := Below.refl _ _
  have hsub : ∀ b, M b → M b := fun _ h => h
  obtain ⟨kv, rfl, op, nm, n64, hk⟩ := ty_open ht
  have hps := psz_eq t
  have hkl := len_psz t.kids
  have hll := hl.lt
  refine c_enter (n := 47) Try.func84 rfl rfl rfl ?_
  refine q0 ?_
  refine l_cons (o_box rfl rfl rfl ?_)
  intro b2 w1 hb_b2 ew1 h2
  replace h2 : Box _ b2 25 [.int .u8 t.op, .string t.name, .int .i64 t.n, kv] := h2
  replace h2 := h2.at (nM_of hlow hb_b2)
  replace hE := hE.trans (Below.mono ew1 hB)
  replace ht := Rep.ext ht ew1
  replace hk := hk.ext ew1
  replace hl := hl.ext ew1
  replace hlow := hlow.ext ew1
  replace hB := Nat.le_trans hB ew1.size
  refine l_cons (o_new tbOk rfl rfl rfl ?_)
  intro b4 w2 qb4 ew2 hb4
  have sw2 := Stp.add ew2 hlow hB (Nat.le_of_eq qb4.symm) hb4.lt
  have h4 : MB w.heap.size (Rw.Add M b4) w2 b4 25 [.int .u8 0, .string ⟨#[]⟩, .int .i64 0, .slice none 0 0] := MB.mk' hb4 qb4 hB
  replace hE := hE.trans sw2.below
  replace ht := Rep.stp ht sw2
  replace hk := hk.stp sw2
  replace hl := hl.stp sw2
  replace h2 := h2.stp sw2
  replace hsub := fun b h => sw2.sub b (hsub b h)
  replace hlow := sw2.low
  replace hB := Nat.le_trans hB sw2.upd.1
  refine q1 (q0 (l_p 1 tbOk rfl ?_))
  refine l_cons (o_ld tbOk (h2.cell 0 _ rfl) rfl rfl rfl rfl rfl ?_)
  refine l_p 1 tbOk rfl ?_
  refine l_cons (o_ld tbOk (h2.cell 1 _ rfl) rfl rfl rfl rfl rfl ?_)
  refine l_p 1 tbOk rfl ?_
  refine l_cons (o_ld tbOk (h2.cell 2 _ rfl) rfl rfl rfl rfl rfl ?_)
  refine l_cons (o_build (cells := [.int .u8 t.op, .string t.name, .int .i64 t.n, .slice none 0 0]) (css := [[.int .u8 t.op], [.string t.name], [.int .i64 t.n]]) bd25 rfl rfl rfl rfl rfl ?_)
  refine l_cons (o_new tbOk rfl rfl rfl ?_)
  intro b5 w3 qb5 ew3 hb5
  have ne_h4_h5 : b4 ≠ b5 := by have := h4.lt; omega
  have sw3 := Stp.add ew3 hlow hB (Nat.le_of_eq qb5.symm) hb5.lt
  have h5 : MB w.heap.size (Rw.Add (Rw.Add M b4) b5) w3 b5 25 [.int .u8 0, .string ⟨#[]⟩, .int .i64 0, .slice none 0 0] := MB.mk' hb5 qb5 hB
  replace h4 := h4.stp sw3 (ew3.block b4 h4.lt)
  replace hE := hE.trans sw3.below
  replace ht := Rep.stp ht sw3
  replace hk := hk.stp sw3
  replace hl := hl.stp sw3
  replace h2 := h2.stp sw3
  replace hsub := fun b h => sw3.sub b (hsub b h)
  replace hlow := sw3.low
  replace hB := Nat.le_trans hB sw3.upd.1
  refine l_cons (o_st tbOk h5.box rfl rfl rfl rfl (by intro u hu; simp [Value.cells] at hu; rcases hu with rfl | rfl | rfl | rfl <;> rfl) rfl rfl ?_)
  intro w4 hw4 qw4 bew4
  have uw4 : UpdB _ _ _ := ⟨qw4, bew4⟩
  have sw4 := uw4.stp h5.inM hlow h5.ge
  have frw4 := qw4.2
  replace h4 := h4.stp sw4 (frw4 b4 h4.lt ne_h4_h5)
  replace hE := hE.trans sw4.below
  replace ht := Rep.stp ht sw4
  replace hk := hk.stp sw4
  replace hl := hl.stp sw4
  replace h2 := h2.stp sw4
  replace hsub := fun b h => sw4.sub b (hsub b h)
  replace hlow := sw4.low
  replace hB := Nat.le_trans hB sw4.upd.1
  replace h5 : MB w.heap.size _ w4 b5 _ [.int .u8 t.op, .string t.name, .int .i64 t.n, .slice none 0 0] := ⟨hw4, h5.inM, h5.ge⟩
  refine q1 (c_seq (q0 (l_p 1 tbOk rfl ?_)))
  refine l_cons (o_ld tbOk (h2.cell 0 _ rfl) rfl rfl rfl rfl rfl ?_)
  refine l_p 2 tbOk rfl ?_
  refine l_splitP 17 _ rfl (fun c1 => ?_) (fun c1 => ?_)
  · refine l_p 4 tbOk rfl (q1 (c_ifT rfl (c_reg (l_p 2 tbOk rfl ?_))))
    refine l_cons (o_ld tbOk (h2.cell 2 _ rfl) rfl rfl rfl rfl rfl ?_)
    refine l_cons (o_call fo110 rfl rfl rfl (at_spec _ _ _ l t.n hl) ?_)
    rintro _ _ ⟨rfl, rfl⟩
    refine l_p 1 tbOk rfl ?_
    refine l_cons (o_st tbOk h5.box rfl rfl rfl rfl (by simp [Value.cells, Value.oneCell']) rfl rfl ?_)
    intro w5 hw5 qw5 bew5
    have uw5 : UpdB _ _ _ := ⟨qw5, bew5⟩
    have sw5 := uw5.stp h5.inM hlow h5.ge
    have frw5 := qw5.2
    replace h4 := h4.stp sw5 (frw5 b4 h4.lt ne_h4_h5)
    replace hE := hE.trans sw5.below
    replace ht := Rep.stp ht sw5
    replace hk := hk.stp sw5
    replace hl := hl.stp sw5
    replace h2 := h2.stp sw5
    replace hsub := fun b h => sw5.sub b (hsub b h)
    replace hlow := sw5.low
    replace hB := Nat.le_trans hB sw5.upd.1
    replace h5 : MB w.heap.size _ w5 b5 _ [.int .u8 t.op, .string t.name, .int .i64 (atOf l t.n), .slice none 0 0] := ⟨hw5, h5.inM, h5.ge⟩
    refine q1 (c_seq (q0 (l_p 1 tbOk rfl (q1 (c_blk ?_)))))
    have hnb : numB t.op = true := by clear ih; simp [numB, *]
    have hnn : (bif numB t.op then atOf l t.n else t.n) = (atOf l t.n) := by rw [hnb]; rfl
    rw [← hnn] at h5
    have d_ho_h4 : ∀ x, (.slice none 0 0 : Value).ownBlock = some x → x ≠ b4 := fun x hx => by simp [Value.ownBlock] at hx
    have d_ho_h5 : ∀ x, (.slice none 0 0 : Value).ownBlock = some x → x ≠ b5 := fun x hx => by simp [Value.ownBlock] at hx
    refine c_loop3 (X := Nat) (Y := Value) (Z := Nat → Prop) (fun i wv M1 => [(1, u), (2, .pointer (some ⟨b2, 0, none⟩)), (4, .pointer (some ⟨b4, 0, none⟩)), (5, .pointer (some ⟨b5, 0, none⟩)), (6, .int .i64 (i : Nat))]) (fun i wv M1 w' => i ≤ t.kids.length ∧ OwnSl 25 w.heap.size M1 w' wv ((t.kids.take i).map (renF (atOf l))) ∧ MB w.heap.size M1 w' b4 25 [.int .u8 0, .string ⟨#[]⟩, .int .i64 0, .slice none 0 0] ∧ MB w.heap.size M1 w' b5 25 [.int .u8 t.op, .string t.name, .int .i64 (bif numB t.op then atOf l t.n else t.n), wv] ∧ At M1 w' b2 0 [.int .u8 t.op, .string t.name, .int .i64 t.n, kv] ∧ (∀ x, (wv : Value).ownBlock = some x → x ≠ b4) ∧ (∀ x, (wv : Value).ownBlock = some x → x ≠ b5) ∧ Sl M1 w' kv t.kids ∧ Sl M1 w' u l ∧ Low M1 w' ∧ (∀ b, M b → M1 b) ∧ Below w.heap.size w w' ∧ w.heap.size ≤ w'.heap.size) (fun i wv M1 => t.kids.length - i) (0) (.slice none 0 0) ((Rw.Add (Rw.Add M b4) b5)) (s5 rfl rfl rfl rfl rfl) ?_ ?_
    · exact ⟨Nat.zero_le _, own_nil, h4, h5, h2, d_ho_h4, d_ho_h5, hk, hl, hlow, hsub, hE, hB⟩
    rintro i wv M1 w6 ⟨hi, ho, h4, h5, h2, d_ho_h4, d_ho_h5, hk, hl, hlow, hsub, hE, hB⟩
    refine c_seq (q0 (l_p 2 tbOk rfl ?_))
    refine l_cons (o_ld tbOk (h2.cell 3 _ rfl) rfl rfl rfl rfl rfl ?_)
    refine l_cons (o_len tbOk hk rfl rfl rfl rfl rfl ?_)
    refine l_p 1 tbOk rfl (q1 ?_)
    refine c_ifP _ rfl (fun c2 => ?_) (fun c2 => ?_)
    · refine c_skip (x_seq (c_seq (c_blk ?_)))
      refine a_beg Ext rfl ?_
      intro w7 ew7
      replace ho := ho.ext hlow hB ew7
      replace h4 := h4.ext hlow hB ew7
      replace h5 := h5.ext hlow hB ew7
      replace hE := hE.trans (Below.mono ew7 hB)
      replace h2 := h2.ext ew7
      replace hk := hk.ext ew7
      replace hl := hl.ext ew7
      replace hlow := hlow.ext ew7
      replace hB := Nat.le_trans hB ew7.size
      have hS : Ext w7 w7 := ext_refl _
      have D_h4 := h4.box
      have D_h5 := h5.box
      have D_h2 := h2
      have D_hk := hk
      have D_hl := hl
      refine a_p 0 tbOk rfl rfl rfl rfl (by kernel_rfl) (fun _ _ _ h => h) hS ?_
      refine a_ld 1 tbOk (fun _ hs => (D_h5.ext hs).cell 3 _ rfl) rfl rfl rfl rfl rfl rfl (by kernel_rfl) (fun _ _ _ h => h) hS ?_
      refine a_p 2 tbOk rfl rfl rfl rfl (by kernel_rfl) (fun _ _ _ h => h) hS ?_
      refine a_ld 3 tbOk (fun _ hs => (D_h2.ext hs).cell 3 _ rfl) rfl rfl rfl rfl rfl rfl (by kernel_rfl) (fun _ _ _ h => h) hS ?_
      refine a_p 4 tbOk rfl rfl rfl rfl (by kernel_rfl) (fun _ _ _ h => h) hS ?_
      have hik : i < t.kids.length := by omega
      have hp1 := psz_get hik
      refine a_ixS 5 tbOk D_hk (List.getElem?_eq_getElem hik) rfl rfl rfl rfl rfl rfl rfl rfl rfl rfl (by kernel_rfl) (fun _ _ _ _ h => h) hS ?_
      intro ebx eox eux hyx hatx
      obtain ⟨kvx, rfl, opx, nmx, n64x, hkx⟩ := ty_open hyx
      replace hatx : At M1 w7 ebx eox [.int .u8 t.kids[i].op, .string t.kids[i].name, .int .i64 t.kids[i].n, kvx] := hatx
      refine a_lds 6 tbOk (fun _ hs j v hv => (hatx.ext hs).cell j v hv) rfl rfl rfl rfl rfl rfl rfl (by kernel_rfl) (fun _ _ _ h => h) hS ?_
      refine a_p 7 tbOk rfl rfl rfl rfl (by kernel_rfl) (fun _ _ _ h => h) hS ?_
      refine a_one 8 rfl (by kernel_rfl) (o_call fo84 rfl rfl rfl (ih _ (List.getElem_mem hik) l _ _ _ _ hyx hl hlow (by omega)) ?_)
      rintro vc w8 ⟨hc, ew8⟩
      replace hS := hS.then ew8
      replace ho := ho.ext hlow hB ew8
      replace h4 := h4.ext hlow hB ew8
      replace h5 := h5.ext hlow hB ew8
      replace hE := hE.trans (Below.mono ew8 hB)
      replace h2 := h2.ext ew8
      replace hk := hk.ext ew8
      replace hl := hl.ext ew8
      replace hyx := Rep.ext hyx ew8
      replace hkx := hkx.ext ew8
      replace hatx := hatx.ext ew8
      replace hlow := hlow.ext ew8
      replace hB := Nat.le_trans hB ew8.size
      refine ⟨hS, ?_⟩
      refine a_one 9 rfl (by kernel_rfl) (o_bs tbOk rfl rfl rfl rfl rfl rfl rfl (sz1 (Rep.size hc)) rfl rfl rfl ?_)
      intro bw9 w9 qbw9 ew9 hbw9
      have nbw9 := nM_of hlow qbw9
      replace hS := hS.then ew9
      replace ho := ho.ext hlow hB ew9
      replace h4 := h4.ext hlow hB ew9
      replace h5 := h5.ext hlow hB ew9
      replace hE := hE.trans (Below.mono ew9 hB)
      replace h2 := h2.ext ew9
      replace hk := hk.ext ew9
      replace hl := hl.ext ew9
      replace hyx := Rep.ext hyx ew9
      replace hkx := hkx.ext ew9
      replace hatx := hatx.ext ew9
      replace hc := Rep.ext hc ew9
      replace hlow := hlow.ext ew9
      replace hB := Nat.le_trans hB ew9.size
      refine ⟨hS, ?_⟩
      refine a_barS Ext 10 rfl (by kernel_rfl) (by kernel_rfl) (o_app1 tbOk ho hbw9 nbw9 hc hlow hB rfl rfl rfl rfl rfl rfl rfl (by simp; omega) (by show (_ + _) * 56 ≤ _; simp; omega) rfl rfl ?_)
      intro vw10 w10 Mw10 hw10 sw10 frw10 blw10
      have zd_ho_h4 := d_ho_h4
      replace d_ho_h4 : ∀ x, (vw10 : Value).ownBlock = some x → x ≠ b4 := fun x hx => (blw10 x hx).elim (d_ho_h4 x) (fun h e => by have := h4.lt; omega)
      have zd_ho_h5 := d_ho_h5
      replace d_ho_h5 : ∀ x, (vw10 : Value).ownBlock = some x → x ≠ b5 := fun x hx => (blw10 x hx).elim (d_ho_h5 x) (fun h e => by have := h5.lt; omega)
      replace h4 := h4.stp sw10 (frw10 b4 h4.lt (fun e => zd_ho_h4 _ e.symm rfl))
      replace h5 := h5.stp sw10 (frw10 b5 h5.lt (fun e => zd_ho_h5 _ e.symm rfl))
      replace hE := hE.trans sw10.below
      replace h2 := h2.stp sw10
      replace hk := hk.stp sw10
      replace hl := hl.stp sw10
      replace hyx := Rep.stp hyx sw10
      replace hkx := hkx.stp sw10
      replace hatx := hatx.stp sw10
      replace hc := Rep.stp hc sw10
      replace hsub := fun b h => sw10.sub b (hsub b h)
      replace hlow := sw10.low
      replace hB := Nat.le_trans hB sw10.upd.1
      replace hS : Ext w10 w10 := ext_refl _
      replace ho := hw10
      clear hw10
      have D_h4 := h4.box
      have D_h5 := h5.box
      have D_h2 := h2
      have D_hk := hk
      have D_hl := hl
      have D_hkx := hkx
      have D_hatx := hatx
      refine a_p 11 tbOk rfl rfl rfl rfl (by kernel_rfl) (fun _ _ _ h => h) hS ?_
      obtain ⟨av6, cv6, rfl, _⟩ := ho.val
      refine a_barS Ext 12 rfl (by kernel_rfl) (by kernel_rfl) (o_st tbOk h5.box rfl rfl rfl rfl (by simp [Value.cells, Value.oneCell']) rfl rfl ?_)
      intro w11 hw11 qw11 bew11
      have uw11 : UpdB _ _ _ := ⟨qw11, bew11⟩
      have sw11 := uw11.stp h5.inM hlow h5.ge
      have frw11 := qw11.2
      replace ho := ho.stp sw11 (fun x hx => frw11 x (ho.lt x hx).2 (d_ho_h5 x hx))
      replace h4 := h4.stp sw11 (frw11 b4 h4.lt ne_h4_h5)
      replace hE := hE.trans sw11.below
      replace h2 := h2.stp sw11
      replace hk := hk.stp sw11
      replace hl := hl.stp sw11
      replace hyx := Rep.stp hyx sw11
      replace hkx := hkx.stp sw11
      replace hatx := hatx.stp sw11
      replace hc := Rep.stp hc sw11
      replace hsub := fun b h => sw11.sub b (hsub b h)
      replace hlow := sw11.low
      replace hB := Nat.le_trans hB sw11.upd.1
      replace hS : Ext w11 w11 := ext_refl _
      replace h5 : MB w.heap.size _ w11 b5 _ [.int .u8 t.op, .string t.name, .int .i64 (bif numB t.op then atOf l t.n else t.n), (.slice av6 ((t.kids.take i).map (renF (atOf l)) ++ [(renF (atOf l)) t.kids[i]]).length cv6)] := ⟨hw11, h5.inM, h5.ge⟩
      have D_h4 := h4.box
      have D_h5 := h5.box
      have D_h2 := h2
      have D_hk := hk
      have D_hl := hl
      have D_hkx := hkx
      have D_hatx := hatx
      refine a_end (by kernel_rfl) ?_
      refine x_blk (x_seq (c_reg (l_p 1 tbOk rfl ?_)))
      refine l_cons (o_ar rfl rfl rfl (IntWalk.i64_in _ (by omega)) rfl rfl ?_)
      refine l_p 1 tbOk rfl (l_nil ?_)
      exact x_round3 (i + 1) ((.slice av6 ((t.kids.take i).map (renF (atOf l)) ++ [(renF (atOf l)) t.kids[i]]).length cv6)) (Mw10) (s5 rfl rfl rfl rfl (get_num rfl (by omega))) ⟨by omega, by rw [List.take_succ_eq_append_getElem hik, List.map_append]; exact ho, h4, h5, h2, d_ho_h4, d_ho_h5, hk, hl, hlow, hsub, hE, hB⟩ (by omega)
    refine c_exit (x_seqE (x_seqE (x_blkE (x_seq (q0 ?_)))))
    refine l_cons (o_lds tbOk (fun j v hv => h5.cell j v hv) rfl rfl rfl rfl rfl rfl ?_)
    obtain rfl : i = t.kids.length := by omega
    rw [List.take_of_length_le (Nat.le_refl _)] at ho
    obtain ⟨av, cv, rfl, hcv⟩ := ho.val
    have hml : (t.kids.map (renF (atOf l))).length = t.kids.length := List.length_map _
    refine l_cons (o_st tbOk h4.box rfl rfl rfl rfl (by intro u hu; simp [Value.cells] at hu; rcases hu with rfl | rfl | rfl | rfl <;> rfl) rfl rfl ?_)
    intro w12 hw12 qw12 bew12
    have uw12 : UpdB _ _ _ := ⟨qw12, bew12⟩
    have sw12 := uw12.stp h4.inM hlow h4.ge
    have frw12 := qw12.2
    replace ho := ho.stp sw12 (fun x hx => frw12 x (ho.lt x hx).2 (d_ho_h4 x hx))
    replace h5 := h5.stp sw12 (frw12 b5 h5.lt ne_h4_h5.symm)
    replace hE := hE.trans sw12.below
    replace h2 := h2.stp sw12
    replace hk := hk.stp sw12
    replace hl := hl.stp sw12
    replace hsub := fun b h => sw12.sub b (hsub b h)
    replace hlow := sw12.low
    replace hB := Nat.le_trans hB sw12.upd.1
    replace h4 : MB w.heap.size _ w12 b4 _ [.int .u8 t.op, .string t.name, .int .i64 (bif numB t.op then atOf l t.n else t.n), .slice av (t.kids.map (renF (atOf l))).length cv] := ⟨hw12, h4.inM, h4.ge⟩
    refine q1 (c_ret ?_)
    refine x_ret1s tbOk (fun j v hv => h4.cell j v hv) rfl rfl rfl rfl rfl ?_
    have hn2 : I64 (bif numB t.op then atOf l t.n else t.n) := by rw [hnn]; exact atOf_i64 hll _
    have hfin := ty_mk op nm hn2 (ho.sl (by omega) hlow0 hsub)
    rw [← renF_eq] at hfin
    exact ⟨hfin, hE⟩
  refine l_p 1 tbOk rfl ?_
  refine l_cons (o_ld tbOk (h2.cell 0 _ rfl) rfl rfl rfl rfl rfl ?_)
  refine l_p 2 tbOk rfl (q1 ?_)
  refine c_ifP _ rfl (fun c3 => ?_) (fun c3 => ?_)
  · refine c_reg (l_p 2 tbOk rfl ?_)
    refine l_cons (o_ld tbOk (h2.cell 2 _ rfl) rfl rfl rfl rfl rfl ?_)
    refine l_cons (o_call fo110 rfl rfl rfl (at_spec _ _ _ l t.n hl) ?_)
    rintro _ _ ⟨rfl, rfl⟩
    refine l_p 1 tbOk rfl ?_
    refine l_cons (o_st tbOk h5.box rfl rfl rfl rfl (by simp [Value.cells, Value.oneCell']) rfl rfl ?_)
    intro w13 hw13 qw13 bew13
    have uw13 : UpdB _ _ _ := ⟨qw13, bew13⟩
    have sw13 := uw13.stp h5.inM hlow h5.ge
    have frw13 := qw13.2
    replace h4 := h4.stp sw13 (frw13 b4 h4.lt ne_h4_h5)
    replace hE := hE.trans sw13.below
    replace ht := Rep.stp ht sw13
    replace hk := hk.stp sw13
    replace hl := hl.stp sw13
    replace h2 := h2.stp sw13
    replace hsub := fun b h => sw13.sub b (hsub b h)
    replace hlow := sw13.low
    replace hB := Nat.le_trans hB sw13.upd.1
    replace h5 : MB w.heap.size _ w13 b5 _ [.int .u8 t.op, .string t.name, .int .i64 (atOf l t.n), .slice none 0 0] := ⟨hw13, h5.inM, h5.ge⟩
    refine q1 (c_seq (q0 (l_p 1 tbOk rfl (q1 (c_blk ?_)))))
    have hnb : numB t.op = true := by clear ih; simp [numB, *]
    have hnn : (bif numB t.op then atOf l t.n else t.n) = (atOf l t.n) := by rw [hnb]; rfl
    rw [← hnn] at h5
    have d_ho_h4 : ∀ x, (.slice none 0 0 : Value).ownBlock = some x → x ≠ b4 := fun x hx => by simp [Value.ownBlock] at hx
    have d_ho_h5 : ∀ x, (.slice none 0 0 : Value).ownBlock = some x → x ≠ b5 := fun x hx => by simp [Value.ownBlock] at hx
    refine c_loop3 (X := Nat) (Y := Value) (Z := Nat → Prop) (fun i wv M1 => [(1, u), (2, .pointer (some ⟨b2, 0, none⟩)), (4, .pointer (some ⟨b4, 0, none⟩)), (5, .pointer (some ⟨b5, 0, none⟩)), (6, .int .i64 (i : Nat))]) (fun i wv M1 w' => i ≤ t.kids.length ∧ OwnSl 25 w.heap.size M1 w' wv ((t.kids.take i).map (renF (atOf l))) ∧ MB w.heap.size M1 w' b4 25 [.int .u8 0, .string ⟨#[]⟩, .int .i64 0, .slice none 0 0] ∧ MB w.heap.size M1 w' b5 25 [.int .u8 t.op, .string t.name, .int .i64 (bif numB t.op then atOf l t.n else t.n), wv] ∧ At M1 w' b2 0 [.int .u8 t.op, .string t.name, .int .i64 t.n, kv] ∧ (∀ x, (wv : Value).ownBlock = some x → x ≠ b4) ∧ (∀ x, (wv : Value).ownBlock = some x → x ≠ b5) ∧ Sl M1 w' kv t.kids ∧ Sl M1 w' u l ∧ Low M1 w' ∧ (∀ b, M b → M1 b) ∧ Below w.heap.size w w' ∧ w.heap.size ≤ w'.heap.size) (fun i wv M1 => t.kids.length - i) (0) (.slice none 0 0) ((Rw.Add (Rw.Add M b4) b5)) (s5 rfl rfl rfl rfl rfl) ?_ ?_
    · exact ⟨Nat.zero_le _, own_nil, h4, h5, h2, d_ho_h4, d_ho_h5, hk, hl, hlow, hsub, hE, hB⟩
    rintro i wv M1 w14 ⟨hi, ho, h4, h5, h2, d_ho_h4, d_ho_h5, hk, hl, hlow, hsub, hE, hB⟩
    refine c_seq (q0 (l_p 2 tbOk rfl ?_))
    refine l_cons (o_ld tbOk (h2.cell 3 _ rfl) rfl rfl rfl rfl rfl ?_)
    refine l_cons (o_len tbOk hk rfl rfl rfl rfl rfl ?_)
    refine l_p 1 tbOk rfl (q1 ?_)
    refine c_ifP _ rfl (fun c4 => ?_) (fun c4 => ?_)
    · refine c_skip (x_seq (c_seq (c_blk ?_)))
      refine a_beg Ext rfl ?_
      intro w15 ew15
      replace ho := ho.ext hlow hB ew15
      replace h4 := h4.ext hlow hB ew15
      replace h5 := h5.ext hlow hB ew15
      replace hE := hE.trans (Below.mono ew15 hB)
      replace h2 := h2.ext ew15
      replace hk := hk.ext ew15
      replace hl := hl.ext ew15
      replace hlow := hlow.ext ew15
      replace hB := Nat.le_trans hB ew15.size
      have hS : Ext w15 w15 := ext_refl _
      have D_h4 := h4.box
      have D_h5 := h5.box
      have D_h2 := h2
      have D_hk := hk
      have D_hl := hl
      refine a_p 0 tbOk rfl rfl rfl rfl (by kernel_rfl) (fun _ _ _ h => h) hS ?_
      refine a_ld 1 tbOk (fun _ hs => (D_h5.ext hs).cell 3 _ rfl) rfl rfl rfl rfl rfl rfl (by kernel_rfl) (fun _ _ _ h => h) hS ?_
      refine a_p 2 tbOk rfl rfl rfl rfl (by kernel_rfl) (fun _ _ _ h => h) hS ?_
      refine a_ld 3 tbOk (fun _ hs => (D_h2.ext hs).cell 3 _ rfl) rfl rfl rfl rfl rfl rfl (by kernel_rfl) (fun _ _ _ h => h) hS ?_
      refine a_p 4 tbOk rfl rfl rfl rfl (by kernel_rfl) (fun _ _ _ h => h) hS ?_
      have hik : i < t.kids.length := by omega
      have hp1 := psz_get hik
      refine a_ixS 5 tbOk D_hk (List.getElem?_eq_getElem hik) rfl rfl rfl rfl rfl rfl rfl rfl rfl rfl (by kernel_rfl) (fun _ _ _ _ h => h) hS ?_
      intro ebx eox eux hyx hatx
      obtain ⟨kvx, rfl, opx, nmx, n64x, hkx⟩ := ty_open hyx
      replace hatx : At M1 w15 ebx eox [.int .u8 t.kids[i].op, .string t.kids[i].name, .int .i64 t.kids[i].n, kvx] := hatx
      refine a_lds 6 tbOk (fun _ hs j v hv => (hatx.ext hs).cell j v hv) rfl rfl rfl rfl rfl rfl rfl (by kernel_rfl) (fun _ _ _ h => h) hS ?_
      refine a_p 7 tbOk rfl rfl rfl rfl (by kernel_rfl) (fun _ _ _ h => h) hS ?_
      refine a_one 8 rfl (by kernel_rfl) (o_call fo84 rfl rfl rfl (ih _ (List.getElem_mem hik) l _ _ _ _ hyx hl hlow (by omega)) ?_)
      rintro vc w16 ⟨hc, ew16⟩
      replace hS := hS.then ew16
      replace ho := ho.ext hlow hB ew16
      replace h4 := h4.ext hlow hB ew16
      replace h5 := h5.ext hlow hB ew16
      replace hE := hE.trans (Below.mono ew16 hB)
      replace h2 := h2.ext ew16
      replace hk := hk.ext ew16
      replace hl := hl.ext ew16
      replace hyx := Rep.ext hyx ew16
      replace hkx := hkx.ext ew16
      replace hatx := hatx.ext ew16
      replace hlow := hlow.ext ew16
      replace hB := Nat.le_trans hB ew16.size
      refine ⟨hS, ?_⟩
      refine a_one 9 rfl (by kernel_rfl) (o_bs tbOk rfl rfl rfl rfl rfl rfl rfl (sz1 (Rep.size hc)) rfl rfl rfl ?_)
      intro bw17 w17 qbw17 ew17 hbw17
      have nbw17 := nM_of hlow qbw17
      replace hS := hS.then ew17
      replace ho := ho.ext hlow hB ew17
      replace h4 := h4.ext hlow hB ew17
      replace h5 := h5.ext hlow hB ew17
      replace hE := hE.trans (Below.mono ew17 hB)
      replace h2 := h2.ext ew17
      replace hk := hk.ext ew17
      replace hl := hl.ext ew17
      replace hyx := Rep.ext hyx ew17
      replace hkx := hkx.ext ew17
      replace hatx := hatx.ext ew17
      replace hc := Rep.ext hc ew17
      replace hlow := hlow.ext ew17
      replace hB := Nat.le_trans hB ew17.size
      refine ⟨hS, ?_⟩
      refine a_barS Ext 10 rfl (by kernel_rfl) (by kernel_rfl) (o_app1 tbOk ho hbw17 nbw17 hc hlow hB rfl rfl rfl rfl rfl rfl rfl (by simp; omega) (by show (_ + _) * 56 ≤ _; simp; omega) rfl rfl ?_)
      intro vw18 w18 Mw18 hw18 sw18 frw18 blw18
      have zd_ho_h4 := d_ho_h4
      replace d_ho_h4 : ∀ x, (vw18 : Value).ownBlock = some x → x ≠ b4 := fun x hx => (blw18 x hx).elim (d_ho_h4 x) (fun h e => by have := h4.lt; omega)
      have zd_ho_h5 := d_ho_h5
      replace d_ho_h5 : ∀ x, (vw18 : Value).ownBlock = some x → x ≠ b5 := fun x hx => (blw18 x hx).elim (d_ho_h5 x) (fun h e => by have := h5.lt; omega)
      replace h4 := h4.stp sw18 (frw18 b4 h4.lt (fun e => zd_ho_h4 _ e.symm rfl))
      replace h5 := h5.stp sw18 (frw18 b5 h5.lt (fun e => zd_ho_h5 _ e.symm rfl))
      replace hE := hE.trans sw18.below
      replace h2 := h2.stp sw18
      replace hk := hk.stp sw18
      replace hl := hl.stp sw18
      replace hyx := Rep.stp hyx sw18
      replace hkx := hkx.stp sw18
      replace hatx := hatx.stp sw18
      replace hc := Rep.stp hc sw18
      replace hsub := fun b h => sw18.sub b (hsub b h)
      replace hlow := sw18.low
      replace hB := Nat.le_trans hB sw18.upd.1
      replace hS : Ext w18 w18 := ext_refl _
      replace ho := hw18
      clear hw18
      have D_h4 := h4.box
      have D_h5 := h5.box
      have D_h2 := h2
      have D_hk := hk
      have D_hl := hl
      have D_hkx := hkx
      have D_hatx := hatx
      refine a_p 11 tbOk rfl rfl rfl rfl (by kernel_rfl) (fun _ _ _ h => h) hS ?_
      obtain ⟨av6, cv6, rfl, _⟩ := ho.val
      refine a_barS Ext 12 rfl (by kernel_rfl) (by kernel_rfl) (o_st tbOk h5.box rfl rfl rfl rfl (by simp [Value.cells, Value.oneCell']) rfl rfl ?_)
      intro w19 hw19 qw19 bew19
      have uw19 : UpdB _ _ _ := ⟨qw19, bew19⟩
      have sw19 := uw19.stp h5.inM hlow h5.ge
      have frw19 := qw19.2
      replace ho := ho.stp sw19 (fun x hx => frw19 x (ho.lt x hx).2 (d_ho_h5 x hx))
      replace h4 := h4.stp sw19 (frw19 b4 h4.lt ne_h4_h5)
      replace hE := hE.trans sw19.below
      replace h2 := h2.stp sw19
      replace hk := hk.stp sw19
      replace hl := hl.stp sw19
      replace hyx := Rep.stp hyx sw19
      replace hkx := hkx.stp sw19
      replace hatx := hatx.stp sw19
      replace hc := Rep.stp hc sw19
      replace hsub := fun b h => sw19.sub b (hsub b h)
      replace hlow := sw19.low
      replace hB := Nat.le_trans hB sw19.upd.1
      replace hS : Ext w19 w19 := ext_refl _
      replace h5 : MB w.heap.size _ w19 b5 _ [.int .u8 t.op, .string t.name, .int .i64 (bif numB t.op then atOf l t.n else t.n), (.slice av6 ((t.kids.take i).map (renF (atOf l)) ++ [(renF (atOf l)) t.kids[i]]).length cv6)] := ⟨hw19, h5.inM, h5.ge⟩
      have D_h4 := h4.box
      have D_h5 := h5.box
      have D_h2 := h2
      have D_hk := hk
      have D_hl := hl
      have D_hkx := hkx
      have D_hatx := hatx
      refine a_end (by kernel_rfl) ?_
      refine x_blk (x_seq (c_reg (l_p 1 tbOk rfl ?_)))
      refine l_cons (o_ar rfl rfl rfl (IntWalk.i64_in _ (by omega)) rfl rfl ?_)
      refine l_p 1 tbOk rfl (l_nil ?_)
      exact x_round3 (i + 1) ((.slice av6 ((t.kids.take i).map (renF (atOf l)) ++ [(renF (atOf l)) t.kids[i]]).length cv6)) (Mw18) (s5 rfl rfl rfl rfl (get_num rfl (by omega))) ⟨by omega, by rw [List.take_succ_eq_append_getElem hik, List.map_append]; exact ho, h4, h5, h2, d_ho_h4, d_ho_h5, hk, hl, hlow, hsub, hE, hB⟩ (by omega)
    refine c_exit (x_seqE (x_seqE (x_blkE (x_seq (q0 ?_)))))
    refine l_cons (o_lds tbOk (fun j v hv => h5.cell j v hv) rfl rfl rfl rfl rfl rfl ?_)
    obtain rfl : i = t.kids.length := by omega
    rw [List.take_of_length_le (Nat.le_refl _)] at ho
    obtain ⟨av, cv, rfl, hcv⟩ := ho.val
    have hml : (t.kids.map (renF (atOf l))).length = t.kids.length := List.length_map _
    refine l_cons (o_st tbOk h4.box rfl rfl rfl rfl (by intro u hu; simp [Value.cells] at hu; rcases hu with rfl | rfl | rfl | rfl <;> rfl) rfl rfl ?_)
    intro w20 hw20 qw20 bew20
    have uw20 : UpdB _ _ _ := ⟨qw20, bew20⟩
    have sw20 := uw20.stp h4.inM hlow h4.ge
    have frw20 := qw20.2
    replace ho := ho.stp sw20 (fun x hx => frw20 x (ho.lt x hx).2 (d_ho_h4 x hx))
    replace h5 := h5.stp sw20 (frw20 b5 h5.lt ne_h4_h5.symm)
    replace hE := hE.trans sw20.below
    replace h2 := h2.stp sw20
    replace hk := hk.stp sw20
    replace hl := hl.stp sw20
    replace hsub := fun b h => sw20.sub b (hsub b h)
    replace hlow := sw20.low
    replace hB := Nat.le_trans hB sw20.upd.1
    replace h4 : MB w.heap.size _ w20 b4 _ [.int .u8 t.op, .string t.name, .int .i64 (bif numB t.op then atOf l t.n else t.n), .slice av (t.kids.map (renF (atOf l))).length cv] := ⟨hw20, h4.inM, h4.ge⟩
    refine q1 (c_ret ?_)
    refine x_ret1s tbOk (fun j v hv => h4.cell j v hv) rfl rfl rfl rfl rfl ?_
    have hn2 : I64 (bif numB t.op then atOf l t.n else t.n) := by rw [hnn]; exact atOf_i64 hll _
    have hfin := ty_mk op nm hn2 (ho.sl (by omega) hlow0 hsub)
    rw [← renF_eq] at hfin
    exact ⟨hfin, hE⟩
  refine c_skip (x_seq (c_seq (q0 (l_p 1 tbOk rfl (q1 (c_blk ?_))))))
  have hnb : numB t.op = false := by clear ih; simp [numB, *]
  have hnn : (bif numB t.op then atOf l t.n else t.n) = t.n := by rw [hnb]; rfl
  rw [← hnn] at h5
  have d_ho_h4 : ∀ x, (.slice none 0 0 : Value).ownBlock = some x → x ≠ b4 := fun x hx => by simp [Value.ownBlock] at hx
  have d_ho_h5 : ∀ x, (.slice none 0 0 : Value).ownBlock = some x → x ≠ b5 := fun x hx => by simp [Value.ownBlock] at hx
  refine c_loop3 (X := Nat) (Y := Value) (Z := Nat → Prop) (fun i wv M1 => [(1, u), (2, .pointer (some ⟨b2, 0, none⟩)), (4, .pointer (some ⟨b4, 0, none⟩)), (5, .pointer (some ⟨b5, 0, none⟩)), (6, .int .i64 (i : Nat))]) (fun i wv M1 w' => i ≤ t.kids.length ∧ OwnSl 25 w.heap.size M1 w' wv ((t.kids.take i).map (renF (atOf l))) ∧ MB w.heap.size M1 w' b4 25 [.int .u8 0, .string ⟨#[]⟩, .int .i64 0, .slice none 0 0] ∧ MB w.heap.size M1 w' b5 25 [.int .u8 t.op, .string t.name, .int .i64 (bif numB t.op then atOf l t.n else t.n), wv] ∧ At M1 w' b2 0 [.int .u8 t.op, .string t.name, .int .i64 t.n, kv] ∧ (∀ x, (wv : Value).ownBlock = some x → x ≠ b4) ∧ (∀ x, (wv : Value).ownBlock = some x → x ≠ b5) ∧ Sl M1 w' kv t.kids ∧ Sl M1 w' u l ∧ Low M1 w' ∧ (∀ b, M b → M1 b) ∧ Below w.heap.size w w' ∧ w.heap.size ≤ w'.heap.size) (fun i wv M1 => t.kids.length - i) (0) (.slice none 0 0) ((Rw.Add (Rw.Add M b4) b5)) (s5 rfl rfl rfl rfl rfl) ?_ ?_
  · exact ⟨Nat.zero_le _, own_nil, h4, h5, h2, d_ho_h4, d_ho_h5, hk, hl, hlow, hsub, hE, hB⟩
  rintro i wv M1 w21 ⟨hi, ho, h4, h5, h2, d_ho_h4, d_ho_h5, hk, hl, hlow, hsub, hE, hB⟩
  refine c_seq (q0 (l_p 2 tbOk rfl ?_))
  refine l_cons (o_ld tbOk (h2.cell 3 _ rfl) rfl rfl rfl rfl rfl ?_)
  refine l_cons (o_len tbOk hk rfl rfl rfl rfl rfl ?_)
  refine l_p 1 tbOk rfl (q1 ?_)
  refine c_ifP _ rfl (fun c5 => ?_) (fun c5 => ?_)
  · refine c_skip (x_seq (c_seq (c_blk ?_)))
    refine a_beg Ext rfl ?_
    intro w22 ew22
    replace ho := ho.ext hlow hB ew22
    replace h4 := h4.ext hlow hB ew22
    replace h5 := h5.ext hlow hB ew22
    replace hE := hE.trans (Below.mono ew22 hB)
    replace h2 := h2.ext ew22
    replace hk := hk.ext ew22
    replace hl := hl.ext ew22
    replace hlow := hlow.ext ew22
    replace hB := Nat.le_trans hB ew22.size
    have hS : Ext w22 w22 := ext_refl _
    have D_h4 := h4.box
    have D_h5 := h5.box
    have D_h2 := h2
    have D_hk := hk
    have D_hl := hl
    refine a_p 0 tbOk rfl rfl rfl rfl (by kernel_rfl) (fun _ _ _ h => h) hS ?_
    refine a_ld 1 tbOk (fun _ hs => (D_h5.ext hs).cell 3 _ rfl) rfl rfl rfl rfl rfl rfl (by kernel_rfl) (fun _ _ _ h => h) hS ?_
    refine a_p 2 tbOk rfl rfl rfl rfl (by kernel_rfl) (fun _ _ _ h => h) hS ?_
    refine a_ld 3 tbOk (fun _ hs => (D_h2.ext hs).cell 3 _ rfl) rfl rfl rfl rfl rfl rfl (by kernel_rfl) (fun _ _ _ h => h) hS ?_
    refine a_p 4 tbOk rfl rfl rfl rfl (by kernel_rfl) (fun _ _ _ h => h) hS ?_
    have hik : i < t.kids.length := by omega
    have hp1 := psz_get hik
    refine a_ixS 5 tbOk D_hk (List.getElem?_eq_getElem hik) rfl rfl rfl rfl rfl rfl rfl rfl rfl rfl (by kernel_rfl) (fun _ _ _ _ h => h) hS ?_
    intro ebx eox eux hyx hatx
    obtain ⟨kvx, rfl, opx, nmx, n64x, hkx⟩ := ty_open hyx
    replace hatx : At M1 w22 ebx eox [.int .u8 t.kids[i].op, .string t.kids[i].name, .int .i64 t.kids[i].n, kvx] := hatx
    refine a_lds 6 tbOk (fun _ hs j v hv => (hatx.ext hs).cell j v hv) rfl rfl rfl rfl rfl rfl rfl (by kernel_rfl) (fun _ _ _ h => h) hS ?_
    refine a_p 7 tbOk rfl rfl rfl rfl (by kernel_rfl) (fun _ _ _ h => h) hS ?_
    refine a_one 8 rfl (by kernel_rfl) (o_call fo84 rfl rfl rfl (ih _ (List.getElem_mem hik) l _ _ _ _ hyx hl hlow (by omega)) ?_)
    rintro vc w23 ⟨hc, ew23⟩
    replace hS := hS.then ew23
    replace ho := ho.ext hlow hB ew23
    replace h4 := h4.ext hlow hB ew23
    replace h5 := h5.ext hlow hB ew23
    replace hE := hE.trans (Below.mono ew23 hB)
    replace h2 := h2.ext ew23
    replace hk := hk.ext ew23
    replace hl := hl.ext ew23
    replace hyx := Rep.ext hyx ew23
    replace hkx := hkx.ext ew23
    replace hatx := hatx.ext ew23
    replace hlow := hlow.ext ew23
    replace hB := Nat.le_trans hB ew23.size
    refine ⟨hS, ?_⟩
    refine a_one 9 rfl (by kernel_rfl) (o_bs tbOk rfl rfl rfl rfl rfl rfl rfl (sz1 (Rep.size hc)) rfl rfl rfl ?_)
    intro bw24 w24 qbw24 ew24 hbw24
    have nbw24 := nM_of hlow qbw24
    replace hS := hS.then ew24
    replace ho := ho.ext hlow hB ew24
    replace h4 := h4.ext hlow hB ew24
    replace h5 := h5.ext hlow hB ew24
    replace hE := hE.trans (Below.mono ew24 hB)
    replace h2 := h2.ext ew24
    replace hk := hk.ext ew24
    replace hl := hl.ext ew24
    replace hyx := Rep.ext hyx ew24
    replace hkx := hkx.ext ew24
    replace hatx := hatx.ext ew24
    replace hc := Rep.ext hc ew24
    replace hlow := hlow.ext ew24
    replace hB := Nat.le_trans hB ew24.size
    refine ⟨hS, ?_⟩
    refine a_barS Ext 10 rfl (by kernel_rfl) (by kernel_rfl) (o_app1 tbOk ho hbw24 nbw24 hc hlow hB rfl rfl rfl rfl rfl rfl rfl (by simp; omega) (by show (_ + _) * 56 ≤ _; simp; omega) rfl rfl ?_)
    intro vw25 w25 Mw25 hw25 sw25 frw25 blw25
    have zd_ho_h4 := d_ho_h4
    replace d_ho_h4 : ∀ x, (vw25 : Value).ownBlock = some x → x ≠ b4 := fun x hx => (blw25 x hx).elim (d_ho_h4 x) (fun h e => by have := h4.lt; omega)
    have zd_ho_h5 := d_ho_h5
    replace d_ho_h5 : ∀ x, (vw25 : Value).ownBlock = some x → x ≠ b5 := fun x hx => (blw25 x hx).elim (d_ho_h5 x) (fun h e => by have := h5.lt; omega)
    replace h4 := h4.stp sw25 (frw25 b4 h4.lt (fun e => zd_ho_h4 _ e.symm rfl))
    replace h5 := h5.stp sw25 (frw25 b5 h5.lt (fun e => zd_ho_h5 _ e.symm rfl))
    replace hE := hE.trans sw25.below
    replace h2 := h2.stp sw25
    replace hk := hk.stp sw25
    replace hl := hl.stp sw25
    replace hyx := Rep.stp hyx sw25
    replace hkx := hkx.stp sw25
    replace hatx := hatx.stp sw25
    replace hc := Rep.stp hc sw25
    replace hsub := fun b h => sw25.sub b (hsub b h)
    replace hlow := sw25.low
    replace hB := Nat.le_trans hB sw25.upd.1
    replace hS : Ext w25 w25 := ext_refl _
    replace ho := hw25
    clear hw25
    have D_h4 := h4.box
    have D_h5 := h5.box
    have D_h2 := h2
    have D_hk := hk
    have D_hl := hl
    have D_hkx := hkx
    have D_hatx := hatx
    refine a_p 11 tbOk rfl rfl rfl rfl (by kernel_rfl) (fun _ _ _ h => h) hS ?_
    obtain ⟨av6, cv6, rfl, _⟩ := ho.val
    refine a_barS Ext 12 rfl (by kernel_rfl) (by kernel_rfl) (o_st tbOk h5.box rfl rfl rfl rfl (by simp [Value.cells, Value.oneCell']) rfl rfl ?_)
    intro w26 hw26 qw26 bew26
    have uw26 : UpdB _ _ _ := ⟨qw26, bew26⟩
    have sw26 := uw26.stp h5.inM hlow h5.ge
    have frw26 := qw26.2
    replace ho := ho.stp sw26 (fun x hx => frw26 x (ho.lt x hx).2 (d_ho_h5 x hx))
    replace h4 := h4.stp sw26 (frw26 b4 h4.lt ne_h4_h5)
    replace hE := hE.trans sw26.below
    replace h2 := h2.stp sw26
    replace hk := hk.stp sw26
    replace hl := hl.stp sw26
    replace hyx := Rep.stp hyx sw26
    replace hkx := hkx.stp sw26
    replace hatx := hatx.stp sw26
    replace hc := Rep.stp hc sw26
    replace hsub := fun b h => sw26.sub b (hsub b h)
    replace hlow := sw26.low
    replace hB := Nat.le_trans hB sw26.upd.1
    replace hS : Ext w26 w26 := ext_refl _
    replace h5 : MB w.heap.size _ w26 b5 _ [.int .u8 t.op, .string t.name, .int .i64 (bif numB t.op then atOf l t.n else t.n), (.slice av6 ((t.kids.take i).map (renF (atOf l)) ++ [(renF (atOf l)) t.kids[i]]).length cv6)] := ⟨hw26, h5.inM, h5.ge⟩
    have D_h4 := h4.box
    have D_h5 := h5.box
    have D_h2 := h2
    have D_hk := hk
    have D_hl := hl
    have D_hkx := hkx
    have D_hatx := hatx
    refine a_end (by kernel_rfl) ?_
    refine x_blk (x_seq (c_reg (l_p 1 tbOk rfl ?_)))
    refine l_cons (o_ar rfl rfl rfl (IntWalk.i64_in _ (by omega)) rfl rfl ?_)
    refine l_p 1 tbOk rfl (l_nil ?_)
    exact x_round3 (i + 1) ((.slice av6 ((t.kids.take i).map (renF (atOf l)) ++ [(renF (atOf l)) t.kids[i]]).length cv6)) (Mw25) (s5 rfl rfl rfl rfl (get_num rfl (by omega))) ⟨by omega, by rw [List.take_succ_eq_append_getElem hik, List.map_append]; exact ho, h4, h5, h2, d_ho_h4, d_ho_h5, hk, hl, hlow, hsub, hE, hB⟩ (by omega)
  refine c_exit (x_seqE (x_seqE (x_blkE (x_seq (q0 ?_)))))
  refine l_cons (o_lds tbOk (fun j v hv => h5.cell j v hv) rfl rfl rfl rfl rfl rfl ?_)
  obtain rfl : i = t.kids.length := by omega
  rw [List.take_of_length_le (Nat.le_refl _)] at ho
  obtain ⟨av, cv, rfl, hcv⟩ := ho.val
  have hml : (t.kids.map (renF (atOf l))).length = t.kids.length := List.length_map _
  refine l_cons (o_st tbOk h4.box rfl rfl rfl rfl (by intro u hu; simp [Value.cells] at hu; rcases hu with rfl | rfl | rfl | rfl <;> rfl) rfl rfl ?_)
  intro w27 hw27 qw27 bew27
  have uw27 : UpdB _ _ _ := ⟨qw27, bew27⟩
  have sw27 := uw27.stp h4.inM hlow h4.ge
  have frw27 := qw27.2
  replace ho := ho.stp sw27 (fun x hx => frw27 x (ho.lt x hx).2 (d_ho_h4 x hx))
  replace h5 := h5.stp sw27 (frw27 b5 h5.lt ne_h4_h5.symm)
  replace hE := hE.trans sw27.below
  replace h2 := h2.stp sw27
  replace hk := hk.stp sw27
  replace hl := hl.stp sw27
  replace hsub := fun b h => sw27.sub b (hsub b h)
  replace hlow := sw27.low
  replace hB := Nat.le_trans hB sw27.upd.1
  replace h4 : MB w.heap.size _ w27 b4 _ [.int .u8 t.op, .string t.name, .int .i64 (bif numB t.op then atOf l t.n else t.n), .slice av (t.kids.map (renF (atOf l))).length cv] := ⟨hw27, h4.inM, h4.ge⟩
  refine q1 (c_ret ?_)
  refine x_ret1s tbOk (fun j v hv => h4.cell j v hv) rfl rfl rfl rfl rfl ?_
  have hn2 : I64 (bif numB t.op then atOf l t.n else t.n) := by rw [hnn]; exact n64
  have hfin := ty_mk op nm hn2 (ho.sl (by omega) hlow0 hsub)
  rw [← renF_eq] at hfin
  exact ⟨hfin, hE⟩

/-- The document's Number. -/
theorem refNumber_spec (t : Ty) (c : UInt8) (M : Nat → Prop) (w : World) (v : Value) (hsh : shapeF t c = true) (ht : Rep.R M w v t) (hlow0 : Low M w) (hz : psz t ≤ 2000000) :
    Calls Try.prog 50 #[v] w (Ret fun r w' => Rep.R M w' r (numberF t) ∧ Ext w w') := by
  have hlow := hlow0
  have hB : w.heap.size ≤ w.heap.size := Nat.le_refl _
  have hE : Below w.heap.size w w := Below.refl _ _
  have hsub : ∀ b, M b → M b := fun _ h => h
  obtain ⟨kv, rfl, op, nm, n64, hk⟩ := ty_open ht
  have hpc := psz_canon _ t (Nat.le_refl _)
  refine c_enter (n := 10) Try.func50 rfl rfl rfl ?_
  refine q0 ?_
  refine l_cons (o_box rfl rfl rfl ?_)
  intro b1 w1 hb_b1 ew1 h1
  replace h1 : Box _ b1 25 [.int .u8 t.op, .string t.name, .int .i64 t.n, kv] := h1
  replace h1 := h1.at (nM_of hlow hb_b1)
  replace hE := hE.trans (Below.mono ew1 hB)
  replace ht := Rep.ext ht ew1
  replace hk := hk.ext ew1
  replace hlow := hlow.ext ew1
  replace hB := Nat.le_trans hB ew1.size
  refine l_cons (o_new tbOk rfl rfl rfl ?_)
  intro b2 w2 qb2 ew2 hb2
  have sw2 := Stp.add ew2 hlow hB (Nat.le_of_eq qb2.symm) hb2.lt
  have h2 : MB w.heap.size (Rw.Add M b2) w2 b2 25 [.int .u8 0, .string ⟨#[]⟩, .int .i64 0, .slice none 0 0] := MB.mk' hb2 qb2 hB
  replace hE := hE.trans sw2.below
  replace ht := Rep.stp ht sw2
  replace hk := hk.stp sw2
  replace h1 := h1.stp sw2
  replace hsub := fun b h => sw2.sub b (hsub b h)
  replace hlow := sw2.low
  replace hB := Nat.le_trans hB sw2.upd.1
  refine q1 (q0 ?_)
  refine l_cons (o_lds tbOk (fun j v hv => h1.cell j v hv) rfl rfl rfl rfl rfl rfl ?_)
  refine l_cons (o_call fo49 rfl rfl rfl (refCanon_all _ t c _ _ _ (Nat.le_refl _) hsh ht hlow hz) ?_)
  rintro vc w3 ⟨hc, ew3⟩
  replace h2 := h2.ext hlow hB ew3
  replace hE := hE.trans (Below.mono ew3 hB)
  replace ht := Rep.ext ht ew3
  replace hk := hk.ext ew3
  replace h1 := h1.ext ew3
  replace hlow := hlow.ext ew3
  replace hB := Nat.le_trans hB ew3.size
  obtain ⟨kvc, rfl, opc, nmc, n64c, hkc⟩ := ty_open hc
  refine l_cons (o_new tbOk rfl rfl rfl ?_)
  intro b3 w4 qb3 ew4 hb3
  have nb3 := nM_of hlow qb3
  refine l_cons (o_st tbOk hb3 rfl rfl rfl rfl (Rep.one hc) rfl rfl ?_)
  intro w5 h3 uw5 bew5
  have ew5 : Ext w3 w5 := ew4.trans (bew5 _ (Nat.le_of_eq qb3.symm))
  replace h2 := h2.ext hlow hB ew5
  replace hE := hE.trans (Below.mono ew5 hB)
  replace ht := Rep.ext ht ew5
  replace hk := hk.ext ew5
  replace h1 := h1.ext ew5
  replace hc := Rep.ext hc ew5
  replace hlow := hlow.ext ew5
  replace hB := Nat.le_trans hB ew5.size
  replace h3 : Box w5 b3 25 [.int .u8 (canonF t).op, .string (canonF t).name, .int .i64 (canonF t).n, kvc] := h3
  replace h3 := h3.at nb3
  refine q1 (c_seq ?_)
  refine a_beg Ext rfl ?_
  intro w6 ew6
  replace h2 := h2.ext hlow hB ew6
  replace hE := hE.trans (Below.mono ew6 hB)
  replace ht := Rep.ext ht ew6
  replace hk := hk.ext ew6
  replace h1 := h1.ext ew6
  replace hc := Rep.ext hc ew6
  replace h3 := h3.ext ew6
  replace hlow := hlow.ext ew6
  replace hB := Nat.le_trans hB ew6.size
  have hS : Ext w6 w6 := ext_refl _
  have D_hk := hk
  have D_h1 := h1
  have D_h2 := h2.box
  have D_h3 := h3
  refine a_lds 0 tbOk (fun _ hs j v hv => (D_h3.ext hs).cell j v hv) rfl rfl rfl rfl rfl rfl rfl (by kernel_rfl) (fun _ _ _ h => h) hS ?_
  refine a_lds 1 tbOk (fun _ hs j v hv => (D_h3.ext hs).cell j v hv) rfl rfl rfl rfl rfl rfl rfl (by kernel_rfl) (fun _ _ _ h => h) hS ?_
  refine a_one 2 rfl (by kernel_rfl) (o_call fo48 rfl rfl rfl (refVars_spec (canonF t) c _ _ _ (shape_canon _ t c (Nat.le_refl _) hsh) hc hlow (by omega)) ?_)
  rintro vhv w7 ⟨hv, ew7⟩
  replace hS := hS.then ew7
  replace h2 := h2.ext hlow hB ew7
  replace hE := hE.trans (Below.mono ew7 hB)
  replace ht := Rep.ext ht ew7
  replace hk := hk.ext ew7
  replace h1 := h1.ext ew7
  replace hc := Rep.ext hc ew7
  replace h3 := h3.ext ew7
  replace hlow := hlow.ext ew7
  replace hB := Nat.le_trans hB ew7.size
  refine ⟨hS, ?_⟩
  rw [vars_canon hsh] at hv
  refine a_bar 3 rfl (by kernel_rfl) (by kernel_rfl) (o_call fo84 rfl rfl rfl (numbered_spec (canonF t) (varsF t) _ _ _ _ hc hv hlow (by omega)) ?_)
  rintro vn w8 ⟨hn, ew8⟩
  replace hS := hS.then ew8
  replace h2 := h2.ext hlow hB ew8
  replace hE := hE.trans (Below.mono ew8 hB)
  replace ht := Rep.ext ht ew8
  replace hk := hk.ext ew8
  replace h1 := h1.ext ew8
  replace hc := Rep.ext hc ew8
  replace h3 := h3.ext ew8
  replace hv := hv.ext ew8
  replace hlow := hlow.ext ew8
  replace hB := Nat.le_trans hB ew8.size
  obtain ⟨kvn, rfl, opn, nmn, n64n, hkn⟩ := ty_open hn
  refine a_barS Ext 4 rfl (by kernel_rfl) (by kernel_rfl) (o_st tbOk h2.box rfl rfl rfl rfl (Rep.one hn) rfl rfl ?_)
  intro w9 hw9 qw9 bew9
  have uw9 : UpdB _ _ _ := ⟨qw9, bew9⟩
  have sw9 := uw9.stp h2.inM hlow h2.ge
  have frw9 := qw9.2
  replace hE := hE.trans sw9.below
  replace ht := Rep.stp ht sw9
  replace hk := hk.stp sw9
  replace h1 := h1.stp sw9
  replace hc := Rep.stp hc sw9
  replace h3 := h3.stp sw9
  replace hv := hv.stp sw9
  replace hn := Rep.stp hn sw9
  replace hsub := fun b h => sw9.sub b (hsub b h)
  replace hlow := sw9.low
  replace hB := Nat.le_trans hB sw9.upd.1
  replace hS : Ext w9 w9 := ext_refl _
  replace h2 : MB w.heap.size _ w9 b2 _ [.int .u8 (numberF t).op, .string (numberF t).name, .int .i64 (numberF t).n, kvn] := ⟨hw9, h2.inM, h2.ge⟩
  have D_hk := hk
  have D_h1 := h1
  have D_h2 := h2.box
  have D_h3 := h3
  have D_hv := hv
  refine a_end (by kernel_rfl) ?_
  refine x_seq (c_ret ?_)
  refine x_ret1s tbOk (fun j v hv => h2.cell j v hv) rfl rfl rfl rfl rfl ?_
  exact ⟨Rep.wk hn (fun b _ h => hsub b h), hE⟩

end Go.Proofs.Ytpoahmeacjggfaa
