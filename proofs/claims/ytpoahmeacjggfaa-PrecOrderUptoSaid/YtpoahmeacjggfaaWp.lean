/- Walks: numbered types. Printed by wip/walks/kinds18.py. -/
import Derived.Test.YtpoahmeacjggfaaWk
namespace Go.Proofs.Ytpoahmeacjggfaa
open Go Rw Go.RowKit
set_option maxRecDepth 100000

/-- Canon: the canonical form. -/
theorem Canon_own (t : Ty) (M : Nat → Prop) (w : World) (v : Value) (ht : Rep.R M w v t) (hlow0 : Low M w) (hz : psz t ≤ 2000000) :
    Calls Try.prog 43 #[v] w (Ret fun r w' => OTy 25 w.heap.size w' (bif rightB t || rowB t then canonF t else (Ty.mk 0 ⟨#[]⟩ 0 [])) r (Plus NoM w w') ∧ Ext w w') := by
  have hlow := hlow0
  have hB : w.heap.size ≤ w.heap.size := Nat.le_refl _
  have hE : Below w.heap.size w w := Below.refl _ _
  have hsub : ∀ b, M b → M b := fun _ h => h
  obtain ⟨kv, rfl, op, nm, n64, hk⟩ := ty_open ht
  refine c_enter (n := 9) Try.func43 rfl rfl rfl ?_
  refine q0 ?_
  refine l_cons (o_box rfl rfl rfl ?_)
  intro b1 w1 hb_b1 ew1 h1
  replace h1 : Box _ b1 25 [.int .u8 t.op, .string t.name, .int .i64 t.n, kv] := h1
  replace h1 := h1.at (nM_of hlow hb_b1)
  replace hE := hE.trans (Below.mono ew1 hB)
  replace ht := Rep.ext ht ew1
  replace hk := hk.ext ew1
  replace hlow := hlow.ext ew1
  replace hB := Nat.le_trans hB ew1.size
  refine l_cons (o_new tbOk rfl rfl rfl ?_)
  intro b2 w2 qb2 ew2 hb2
  have sw2 := Stp.add ew2 hlow hB (Nat.le_of_eq qb2.symm) hb2.lt
  have h2 : MB w.heap.size (Rw.Add M b2) w2 b2 25 [.int .u8 0, .string ⟨#[]⟩, .int .i64 0, .slice none 0 0] := MB.mk' hb2 qb2 hB
  replace hE := hE.trans sw2.below
  replace ht := Rep.stp ht sw2
  replace hk := hk.stp sw2
  replace h1 := h1.stp sw2
  replace hsub := fun b h => sw2.sub b (hsub b h)
  replace hlow := sw2.low
  replace hB := Nat.le_trans hB sw2.upd.1
  refine q1 (c_seq (q0 ?_))
  refine l_cons (o_lds tbOk (fun j v hv => h1.cell j v hv) rfl rfl rfl rfl rfl rfl ?_)
  refine l_cons (o_call fo70 rfl rfl rfl (either_specB t _ _ _ ht hlow) ?_)
  rintro _ w3 ⟨rfl, ew3⟩
  replace h2 := h2.ext hlow hB ew3
  replace hE := hE.trans (Below.mono ew3 hB)
  replace ht := Rep.ext ht ew3
  replace hk := hk.ext ew3
  replace h1 := h1.ext ew3
  replace hlow := hlow.ext ew3
  replace hB := Nat.le_trans hB ew3.size
  refine l_p 1 tbOk rfl (q1 ?_)
  refine c_ifB _ rfl (fun hr => ?_) (fun hr => ?_)
  · refine q0 ?_
    refine l_cons (o_build (cells := [.int .u8 0, .string ⟨#[]⟩, .int .i64 0, .slice none 0 0]) (css := []) bd25 rfl rfl rfl rfl rfl ?_)
    refine l_cons (o_st tbOk h2.box rfl rfl rfl rfl (by intro u hu; simp [Value.cells] at hu; rcases hu with rfl | rfl | rfl | rfl <;> rfl) rfl rfl ?_)
    intro w4 hw4 qw4 bew4
    have uw4 : UpdB _ _ _ := ⟨qw4, bew4⟩
    have sw4 := uw4.stp h2.inM hlow h2.ge
    have frw4 := qw4.2
    replace hE := hE.trans sw4.below
    replace ht := Rep.stp ht sw4
    replace hk := hk.stp sw4
    replace h1 := h1.stp sw4
    replace hsub := fun b h => sw4.sub b (hsub b h)
    replace hlow := sw4.low
    replace hB := Nat.le_trans hB sw4.upd.1
    replace h2 : MB w.heap.size _ w4 b2 _ [.int .u8 0, .string ⟨#[]⟩, .int .i64 0, .slice none 0 0] := ⟨hw4, h2.inM, h2.ge⟩
    refine q1 (c_ret (x_seqR ?_))
    refine x_ret1s tbOk (fun j v hv => h2.cell j v hv) rfl rfl rfl rfl rfl ?_
    rw [show (rightB t || rowB t) = false from hr]
    exact ⟨oty_leaf (by decide) (by decide) ⟨by decide, by decide⟩, hE⟩
  refine c_skip (x_seq (q0 ?_))
  refine l_cons (o_lds tbOk (fun j v hv => h1.cell j v hv) rfl rfl rfl rfl rfl rfl ?_)
  have l_h2 := h2.lt
  refine l_cons (o_call fo73 rfl rfl rfl (canon_own _ t _ _ _ _ (Nat.le_refl _) (Classical.choose_spec (shape_either hr)) ht hlow hz) ?_)
  rintro vc w5 ⟨hc, ew5⟩
  replace hc := hc.ge hB
  have hGl : ∀ c, Plus NoM w3 w5 c → w3.heap.size ≤ c ∧ c < w5.heap.size := fun c h => h.elim (fun h => h.elim) id
  generalize Plus NoM w3 w5 = G at hc hGl
  have sw5 := (Stp.ext ew5 hlow hB).more hGl
  replace h2 := h2.stp sw5 (ew5.block b2 h2.lt)
  replace hE := hE.trans sw5.below
  replace ht := Rep.stp ht sw5
  replace hk := hk.stp sw5
  replace h1 := h1.stp sw5
  replace hsub := fun b h => sw5.sub b (hsub b h)
  replace hlow := sw5.low
  replace hB := Nat.le_trans hB sw5.upd.1
  have d_hc_h2 : ∀ x, G x → x ≠ b2 := fun x hx => by have := (hGl x hx).1; omega
  obtain ⟨kvc, usc, Hc, rfl, opc, nmc, n64c, hknc, hrc, hOc, hHc⟩ := oty_open hc
  refine l_cons (o_st tbOk h2.box rfl rfl rfl rfl hc.one rfl rfl ?_)
  intro w6 hw6 qw6 bew6
  have uw6 : UpdB _ _ _ := ⟨qw6, bew6⟩
  have sw6 := uw6.stp h2.inM hlow h2.ge
  have frw6 := qw6.2
  replace hc := hc.stp sw6 (fun x hx => frw6 x (hc.lt x hx).2 (d_hc_h2 x hx))
  replace hE := hE.trans sw6.below
  replace ht := Rep.stp ht sw6
  replace hk := hk.stp sw6
  replace h1 := h1.stp sw6
  replace hsub := fun b h => sw6.sub b (hsub b h)
  replace hlow := sw6.low
  replace hB := Nat.le_trans hB sw6.upd.1
  replace h2 : MB w.heap.size _ w6 b2 _ [.int .u8 (canonF t).op, .string (canonF t).name, .int .i64 (canonF t).n, kvc] := ⟨hw6, h2.inM, h2.ge⟩
  refine q1 (c_ret ?_)
  refine x_ret1s tbOk (fun j v hv => h2.cell j v hv) rfl rfl rfl rfl rfl ?_
  rw [show (rightB t || rowB t) = true from hr]
  exact ⟨hc.mono (fun c h => .inr (hc.lt c h)) (fun c h => h.elim (fun h => h.elim) id), hE⟩

end Go.Proofs.Ytpoahmeacjggfaa
