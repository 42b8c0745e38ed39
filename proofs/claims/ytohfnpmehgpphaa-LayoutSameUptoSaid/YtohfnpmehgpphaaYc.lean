/- Walks: slots, places of fields. Printed by wip/walks/layout3.py. -/
import Derived.Test.YtohfnpmehgpphaaYb
import Derived.Test.YtohfnpmehgpphaaPlainO
namespace Go.Proofs.Ytohfnpmehgpphaa
open Go Rw Go.RowKit
set_option maxRecDepth 100000

/-- many: more than 300 parts? -/
theorem many18_spec (t : Ty) (M : Nat → Prop) (w : World) (v : Value) (ht : Rep.R M w v t) (hlow : Low M w) (hsz : psz t ≤ 2000000) :
    Calls Try.prog 15 #[v] w (Ret fun r w' => r = .bool (decide (300 < (psz t : Int))) ∧ Ext w w') := by
  have hE : Below w.heap.size w w := Below.refl _ _
  have hB : w.heap.size ≤ w.heap.size := Nat.le_refl _
  obtain ⟨kv, rfl, op, nm, n64, hk⟩ := ty_open ht
  refine c_enter (n := 7) Try.func15 rfl rfl rfl ?_
  refine c_seq ?_
  refine c_reg ?_
  refine l_cons (o_box rfl rfl rfl ?_)
  intro b1 w1 hb_b1 ew1 h1
  replace h1 : Box _ b1 40 [.int .u8 t.op, .string t.name, .int .i64 t.n, kv] := h1
  replace h1 := h1.at (nM_of hlow hb_b1)
  replace hE := hE.trans (Below.mono ew1 hB)
  replace ht := Rep.ext ht ew1
  replace hk := hk.ext ew1
  replace hlow := hlow.ext ew1
  replace hB := Nat.le_trans hB ew1.size
  refine l_cons (o_p tbOk rfl rfl rfl ?_)
  refine l_nil ?_
  refine x_seq ?_
  refine c_seq ?_
  refine c_reg ?_
  refine l_cons (o_lds tbOk (fun j v hv => h1.cell j v hv) rfl rfl rfl rfl rfl rfl ?_)
  refine l_cons (o_call fo40 rfl rfl rfl (parts_spec t M _ _ ht hlow hsz) ?_)
  rintro vhr1 w2 ⟨hr1, ew2⟩
  replace hE := hE.trans (Below.mono ew2 hB)
  replace ht := Rep.ext ht ew2
  replace hk := hk.ext ew2
  replace h1 := h1.ext ew2
  replace hlow := hlow.ext ew2
  replace hB := Nat.le_trans hB ew2.size
  refine l_cons (o_len tbOk hr1 rfl rfl rfl rfl rfl ?_)
  refine l_cons (o_p tbOk rfl rfl rfl ?_)
  refine l_cons (o_p tbOk rfl rfl rfl ?_)
  refine l_nil ?_
  refine x_seq ?_
  refine c_ret ?_
  refine x_ret1 rfl rfl ?_
  exact ⟨rfl, hE⟩

/-- Slots: of a row's own fields. -/
theorem slots_spec (t : Ty) (M : Nat → Prop) (w : World) (v : Value) (ht : Rep.R M w v t) (hlow0 : Low M w) (hsz : psz t ≤ 2000000) :
    Calls Try.prog 16 #[v] w (Ret fun r w' => (∃ x, r = .tuple #[x, .int .u8 (bif rowB t then 0 else 1)] ∧ Sl M w' x (slotsF (flatF t).1)) ∧ Ext w w') := by
  have hlow := hlow0
  have hB : w.heap.size ≤ w.heap.size := Nat.le_refl _
  have hE : Below w.heap.size w w := Below.refl _ _
  have hsub : ∀ b, M b → M b := fun _ h => h
  obtain ⟨kv, rfl, op, nm, n64, hk⟩ := ty_open ht
  refine c_enter (n := 55) Try.func16 rfl rfl rfl ?_
  refine c_seq ?_
  refine c_reg ?_
  refine l_cons (o_box rfl rfl rfl ?_)
  intro b1 w1 hb_b1 ew1 h1
  replace h1 : Box _ b1 40 [.int .u8 t.op, .string t.name, .int .i64 t.n, kv] := h1
  replace h1 := h1.at (nM_of hlow hb_b1)
  replace hE := hE.trans (Below.mono ew1 hB)
  replace ht := Rep.ext ht ew1
  replace hk := hk.ext ew1
  replace hlow := hlow.ext ew1
  replace hB := Nat.le_trans hB ew1.size
  refine l_cons (o_p tbOk rfl rfl rfl ?_)
  refine l_cons (o_p tbOk rfl rfl rfl ?_)
  refine l_nil ?_
  refine x_seq ?_
  refine c_seq ?_
  refine c_seq ?_
  refine c_reg ?_
  refine l_cons (o_lds tbOk (fun j v hv => h1.cell j v hv) rfl rfl rfl rfl rfl rfl ?_)
  refine l_cons (o_call fo55 rfl rfl rfl (kRow_specB t _ _ _ ht hlow) ?_)
  rintro _ w2 ⟨rfl, ew2⟩
  replace hE := hE.trans (Below.mono ew2 hB)
  replace ht := Rep.ext ht ew2
  replace hk := hk.ext ew2
  replace h1 := h1.ext ew2
  replace hlow := hlow.ext ew2
  replace hB := Nat.le_trans hB ew2.size
  refine l_cons (o_p tbOk rfl rfl rfl ?_)
  refine l_nil ?_
  refine x_seq ?_
  refine c_ifB _ rfl (fun crow => ?_) (fun crow => ?_)
  · refine c_seq ?_
    refine c_reg ?_
    refine l_cons (o_p tbOk rfl rfl rfl ?_)
    refine l_cons (o_p tbOk rfl rfl rfl ?_)
    refine l_nil ?_
    refine x_seq ?_
    refine c_ret ?_
    refine x_seqR ?_
    refine x_ret2 rfl rfl rfl ?_
    have e1 : flatF t = ([], .mk 0 ⟨#[]⟩ 0 []) := by rw [flatF, crow]; rfl
    rw [e1, crow]
    exact ⟨⟨_, rfl, sl_nil⟩, hE⟩
  refine c_skip ?_
  refine x_seq ?_
  refine c_seq ?_
  refine c_reg ?_
  refine l_cons (o_lds tbOk (fun j v hv => h1.cell j v hv) rfl rfl rfl rfl rfl rfl ?_)
  refine l_cons (o_call fo56 rfl rfl rfl (Flat_spec t _ _ _ ht hlow hsz) ?_)
  rintro _ w3 ⟨⟨xv, tv, rfl, hfl, htl⟩, ew3⟩
  obtain ⟨l, el⟩ : ∃ l, (flatF t).1 = l := ⟨_, rfl⟩
  rw [el] at hfl
  have hsr : Srt l := el ▸ flatF_srt t
  have hlen : l.length ≤ 2000000 := by have := flatF_len t; rw [el] at this; omega
  replace hE := hE.trans (Below.mono ew3 hB)
  replace ht := Rep.ext ht ew3
  replace hk := hk.ext ew3
  replace h1 := h1.ext ew3
  replace hlow := hlow.ext ew3
  replace hB := Nat.le_trans hB ew3.size
  obtain ⟨kve, rfl, ope, nme, n64e, hke⟩ := ty_open htl
  refine l_cons (o_p tbOk rfl rfl rfl ?_)
  refine l_cons (o_p tbOk rfl rfl rfl ?_)
  refine l_cons (o_p tbOk rfl rfl rfl ?_)
  refine l_cons (o_new tbOk rfl rfl rfl ?_)
  intro b5 w4 qb5 ew4 hb5
  have sw4 := Stp.add ew4 hlow hB (Nat.le_of_eq qb5.symm) hb5.lt
  have h5 : MB w.heap.size (Rw.Add M b5) w4 b5 40 [.int .u8 0, .string ⟨#[]⟩, .int .i64 0, .slice none 0 0] := MB.mk' hb5 qb5 hB
  replace hE := hE.trans sw4.below
  replace ht := Rep.stp ht sw4
  replace hk := hk.stp sw4
  replace h1 := h1.stp sw4
  replace hfl := hfl.stp sw4
  replace htl := Rep.stp htl sw4
  replace hke := hke.stp sw4
  replace hsub := fun b h => sw4.sub b (hsub b h)
  replace hlow := sw4.low
  replace hB := Nat.le_trans hB sw4.upd.1
  refine l_cons (o_p tbOk rfl rfl rfl ?_)
  refine l_cons (o_st tbOk h5.box rfl rfl rfl rfl (Rep.one htl) rfl rfl ?_)
  intro w5 hw5 qw5 bew5
  have uw5 : UpdB _ _ _ := ⟨qw5, bew5⟩
  have sw5 := uw5.stp h5.inM hlow h5.ge
  have frw5 := qw5.2
  replace hE := hE.trans sw5.below
  replace ht := Rep.stp ht sw5
  replace hk := hk.stp sw5
  replace h1 := h1.stp sw5
  replace hfl := hfl.stp sw5
  replace htl := Rep.stp htl sw5
  replace hke := hke.stp sw5
  replace hsub := fun b h => sw5.sub b (hsub b h)
  replace hlow := sw5.low
  replace hB := Nat.le_trans hB sw5.upd.1
  replace h5 : MB w.heap.size _ w5 b5 _ [.int .u8 (flatF t).2.op, .string (flatF t).2.name, .int .i64 (flatF t).2.n, kve] := ⟨hw5, h5.inM, h5.ge⟩
  refine l_nil ?_
  refine x_seq ?_
  refine c_seq ?_
  refine c_reg ?_
  refine l_cons (o_p tbOk rfl rfl rfl ?_)
  refine l_nil ?_
  refine x_seq ?_
  refine c_seq ?_
  refine c_seq ?_
  refine c_reg ?_
  refine l_cons (o_p tbOk rfl rfl rfl ?_)
  refine l_cons (o_len tbOk hfl rfl rfl rfl rfl rfl ?_)
  refine l_cons (o_p tbOk rfl rfl rfl ?_)
  refine l_nil ?_
  refine x_seq ?_
  refine c_blk ?_
  clear h5
  refine c_loop3 (X := Nat) (Y := Value) (Z := Nat → Prop) (fun i wv M1 => [(4, xv), (6, wv), (18, xv), (19, .int .i64 (l.length : Int)), (20, .int .i64 (i : Nat))]) (fun i wv M1 w' => i ≤ l.length ∧ OwnSl 54 w.heap.size M1 w' wv ((slotsF l).take i) ∧ Sl M1 w' xv l ∧ Low M1 w' ∧ (∀ b, M b → M1 b) ∧ Below w.heap.size w w' ∧ w.heap.size ≤ w'.heap.size) (fun i wv M1 => l.length - i) (0) (.slice none 0 0) ((Rw.Add M b5)) (subL_cons rfl (subL_cons rfl (subL_cons rfl (subL_cons rfl (subL_cons rfl (subL_nil)))))) ?_ ?_
  · exact ⟨Nat.zero_le _, own_nil, hfl, hlow, hsub, hE, hB⟩
  rintro i wv M1 w6 ⟨hi, ho, hfl, hlow, hsub, hE, hB⟩
  refine c_seq ?_
  refine c_reg ?_
  refine l_cons (o_p tbOk rfl rfl rfl ?_)
  refine l_nil ?_
  refine x_seq ?_
  refine c_seq ?_
  refine c_ifP _ rfl (fun hc => ?_) (fun hc => ?_)
  · have hil : i < l.length := by omega
    have hst := slots_tlen (l := l) hi
    refine c_skip ?_
    refine x_seq ?_
    refine c_seq ?_
    refine c_blk ?_
    refine c_seq ?_
    refine c_reg ?_
    refine l_cons (o_p tbOk rfl rfl rfl ?_)
    refine l_cons (o_ixS tbOk hfl (List.getElem?_eq_getElem hil) rfl rfl rfl rfl rfl rfl rfl rfl rfl ?_)
    intro ebq eoq euq hrq hatq
    obtain ⟨szq, kvq, rfl, hyq⟩ := fld_open hrq
    replace hatq : At _ w6 ebq eoq [.string l[i].name, .int .u8 l[i].ty.op, .string l[i].ty.name, .int .i64 l[i].ty.n, kvq] := hatq
    refine l_cons (o_lds tbOk (fun j v hv => hatq.cell j v hv) rfl rfl rfl rfl rfl rfl ?_)
    refine l_cons (o_new tbOk rfl rfl rfl ?_)
    intro b8 w7 qb8 ew7 hb8
    have nb8 := nM_of hlow qb8
    refine l_cons (o_p tbOk rfl rfl rfl ?_)
    refine l_cons (o_st tbOk hb8 rfl rfl rfl rfl (Rep.one hrq) rfl rfl ?_)
    intro w8 h8 uw8 bew8
    have ew8 : Ext w6 w8 := ew7.trans (bew8 _ (Nat.le_of_eq qb8.symm))
    replace ho := ho.ext hlow hB ew8
    replace hE := hE.trans (Below.mono ew8 hB)
    replace hfl := hfl.ext ew8
    replace hrq := Rep.ext hrq ew8
    replace hyq := Rep.ext hyq ew8
    replace hatq := hatq.ext ew8
    replace hlow := hlow.ext ew8
    replace hB := Nat.le_trans hB ew8.size
    replace h8 : Box w8 b8 56 [.string l[i].name, .int .u8 l[i].ty.op, .string l[i].ty.name, .int .i64 l[i].ty.n, kvq] := h8
    replace h8 := h8.at nb8
    refine l_nil ?_
    refine x_seq ?_
    refine c_seq ?_
    refine c_reg ?_
    refine l_cons (o_p tbOk rfl rfl rfl ?_)
    refine l_cons (o_ld tbOk (h8.cell 0 _ rfl) rfl rfl rfl rfl rfl ?_)
    refine l_cons (o_build (cells := [.string l[i].name, .int .i64 0]) (css := [[.string l[i].name]]) bd54 rfl rfl rfl rfl rfl ?_)
    refine l_cons (o_new tbOk rfl rfl rfl ?_)
    intro b9 w9 qb9 ew9 hb9
    have d_ho_h9 : ∀ x, (wv : Value).ownBlock = some x → x ≠ b9 := fun x hx => by have := (ho.lt x hx).2; omega
    have sw9 := Stp.add ew9 hlow hB (Nat.le_of_eq qb9.symm) hb9.lt
    have h9 : MB w.heap.size (Rw.Add M1 b9) w9 b9 54 [.string ⟨#[]⟩, .int .i64 0] := MB.mk' hb9 qb9 hB
    replace ho := ho.stp sw9 (fun x hx => ew9.block x (ho.lt x hx).2)
    replace hE := hE.trans sw9.below
    replace hfl := hfl.stp sw9
    replace hrq := Rep.stp hrq sw9
    replace hyq := Rep.stp hyq sw9
    replace hatq := hatq.stp sw9
    replace h8 := h8.stp sw9
    replace hsub := fun b h => sw9.sub b (hsub b h)
    replace hlow := sw9.low
    replace hB := Nat.le_trans hB sw9.upd.1
    refine l_cons (o_st tbOk h9.box rfl rfl rfl rfl (by intro u hu; simp [Value.cells] at hu; rcases hu with rfl | rfl <;> rfl) rfl rfl ?_)
    intro w10 hw10 qw10 bew10
    have uw10 : UpdB _ _ _ := ⟨qw10, bew10⟩
    have sw10 := uw10.stp h9.inM hlow h9.ge
    have frw10 := qw10.2
    replace ho := ho.stp sw10 (fun x hx => frw10 x (ho.lt x hx).2 (d_ho_h9 x hx))
    replace hE := hE.trans sw10.below
    replace hfl := hfl.stp sw10
    replace hrq := Rep.stp hrq sw10
    replace hyq := Rep.stp hyq sw10
    replace hatq := hatq.stp sw10
    replace h8 := h8.stp sw10
    replace hsub := fun b h => sw10.sub b (hsub b h)
    replace hlow := sw10.low
    replace hB := Nat.le_trans hB sw10.upd.1
    replace h9 : MB w.heap.size _ w10 b9 _ [.string l[i].name, .int .i64 0] := ⟨hw10, h9.inM, h9.ge⟩
    refine l_nil ?_
    refine x_seq ?_
    refine c_seq ?_
    refine c_seq ?_
    refine a_beg Ext rfl ?_
    intro w11 ew11
    replace ho := ho.ext hlow hB ew11
    replace h9 := h9.ext hlow hB ew11
    replace hE := hE.trans (Below.mono ew11 hB)
    replace hfl := hfl.ext ew11
    replace hrq := Rep.ext hrq ew11
    replace hyq := Rep.ext hyq ew11
    replace hatq := hatq.ext ew11
    replace h8 := h8.ext ew11
    replace hlow := hlow.ext ew11
    replace hB := Nat.le_trans hB ew11.size
    have hS : Ext w11 w11 := ext_refl _
    have D_hfl := hfl
    have D_hatq := hatq
    have D_h8 := h8
    have D_h9 := h9.box
    refine a_p 0 tbOk rfl rfl rfl rfl (by kernel_rfl) (fun _ _ _ h => h) hS ?_
    refine a_p 1 tbOk rfl rfl rfl rfl (by kernel_rfl) (fun _ _ _ h => h) hS ?_
    refine a_p 2 tbOk rfl rfl rfl rfl (by kernel_rfl) (fun _ _ _ h => h) hS ?_
    refine a_splitP 30 _ rfl (fun h0 => ?_) (fun h0 => ?_)
    · replace h0 : 0 < i := by omega
      have hpl : i - 1 < l.length := by omega
      refine a_p 3 tbOk rfl rfl rfl rfl (by kernel_rfl) (fun _ _ _ h => h) hS ?_
      refine a_p 4 tbOk rfl rfl rfl rfl (by kernel_rfl) (fun _ _ _ h => h) hS ?_
      refine a_ar 5 rfl rfl rfl rfl (IntWalk.i64_in _ (by omega)) rfl rfl (by kernel_rfl) (fun _ _ _ h => h) hS ?_
      refine a_ixS 6 tbOk D_hfl (List.getElem?_eq_getElem hpl) rfl rfl rfl (by omega) rfl rfl rfl rfl rfl rfl (by kernel_rfl) (fun _ _ _ _ h => h) hS ?_
      intro ebp eop eup hrp hatp
      obtain ⟨szp, kvp, rfl, hyp⟩ := fld_open hrp
      replace hatp : At _ w11 ebp eop [.string l[i - 1].name, .int .u8 l[i - 1].ty.op, .string l[i - 1].ty.name, .int .i64 l[i - 1].ty.n, kvp] := hatp
      refine a_p 7 tbOk rfl rfl rfl rfl (by kernel_rfl) (fun _ _ _ h => h) hS ?_
      refine a_ld 8 tbOk (fun _ hs => (hatp.ext hs).cell 0 _ rfl) rfl rfl rfl rfl rfl rfl (by kernel_rfl) (fun _ _ _ h => h) hS ?_
      refine a_p 9 tbOk rfl rfl rfl rfl (by kernel_rfl) (fun _ _ _ h => h) hS ?_
      refine a_ld 10 tbOk (fun _ hs => (D_h8.ext hs).cell 0 _ rfl) rfl rfl rfl rfl rfl rfl (by kernel_rfl) (fun _ _ _ h => h) hS ?_
      refine a_p 11 tbOk rfl rfl rfl rfl (by kernel_rfl) (fun _ _ _ h => h) hS ?_
      refine a_p 12 tbOk rfl rfl rfl rfl (by kernel_rfl) (fun _ _ _ h => h) hS ?_
      refine a_end (by kernel_rfl) ?_
      refine x_seq ?_
      refine c_ifP _ rfl (fun hnm => ?_) (fun hnm => ?_)
      · have hcn := cnt_next2 h0 hil hnm
        refine c_reg ?_
        refine l_cons (o_p tbOk rfl rfl rfl ?_)
        refine l_cons (o_p tbOk rfl rfl rfl ?_)
        refine l_cons (o_ar rfl rfl rfl (IntWalk.i64_in _ (by omega)) rfl rfl ?_)
        refine l_cons (o_ixO tbOk ho (slots_tget hpl (by omega)) rfl rfl (by omega) rfl rfl rfl rfl rfl rfl ?_)
        intro ib iu hob hrs hats
        obtain ⟨rfl, _, _⟩ := hrs
        replace hats : At NoM w11 ib _ [.string l[i - 1].name, .int .i64 ((cntN (l.take (i - 1)) l[i - 1].name : Nat) : Int)] := ⟨(ho.lt _ hob).2, fun h => h, hats.cell⟩
        have hpc := cntN_take_le l (i - 1) l[i - 1].name
        refine l_cons (o_p tbOk rfl rfl rfl ?_)
        refine l_cons (o_ld tbOk (hats.cell 1 _ rfl) rfl rfl rfl rfl rfl ?_)
        refine l_cons (o_ar rfl rfl rfl (IntWalk.i64_in _ (by omega)) rfl rfl ?_)
        refine l_cons (o_p tbOk rfl rfl rfl ?_)
        refine l_cons (o_st tbOk h9.box rfl rfl rfl rfl (by simp [Value.cells, Value.oneCell']) rfl rfl ?_)
        intro w12 hw12 qw12 bew12
        have uw12 : UpdB _ _ _ := ⟨qw12, bew12⟩
        have sw12 := uw12.stp h9.inM hlow h9.ge
        have frw12 := qw12.2
        replace ho := ho.stp sw12 (fun x hx => frw12 x (ho.lt x hx).2 (d_ho_h9 x hx))
        replace hE := hE.trans sw12.below
        replace hfl := hfl.stp sw12
        replace hrq := Rep.stp hrq sw12
        replace hyq := Rep.stp hyq sw12
        replace hatq := hatq.stp sw12
        replace h8 := h8.stp sw12
        replace hrp := Rep.stp hrp sw12
        replace hyp := Rep.stp hyp sw12
        replace hatp := hatp.stp sw12
        replace hsub := fun b h => sw12.sub b (hsub b h)
        replace hlow := sw12.low
        replace hB := Nat.le_trans hB sw12.upd.1
        replace h9 : MB w.heap.size _ w12 b9 _ [.string l[i].name, .int .i64 (((cntN (l.take (i - 1)) l[i - 1].name : Nat) : Int) + 1)] := ⟨hw12, h9.inM, h9.ge⟩
        have hz : (((cntN (l.take (i - 1)) l[i - 1].name : Nat) : Int) + 1) = (cntN (l.take i) l[i].name : Nat) := by omega
        refine l_nil ?_
        refine x_seq ?_
        refine c_reg ?_
        refine l_cons (o_p tbOk rfl rfl rfl ?_)
        refine l_cons (o_lds tbOk (fun j v hv => h9.cell j v hv) rfl rfl rfl rfl rfl rfl ?_)
        have hct := cntN_take_le l i l[i].name
        refine l_cons (o_bs tbOk rfl rfl rfl rfl rfl rfl rfl (sz1 rfl) rfl rfl rfl ?_)
        intro bw13 w13 qbw13 ew13 hbw13
        have nbw13 := nM_of hlow qbw13
        replace ho := ho.ext hlow hB ew13
        replace h9 := h9.ext hlow hB ew13
        replace hE := hE.trans (Below.mono ew13 hB)
        replace hfl := hfl.ext ew13
        replace hrq := Rep.ext hrq ew13
        replace hyq := Rep.ext hyq ew13
        replace hatq := hatq.ext ew13
        replace h8 := h8.ext ew13
        replace hrp := Rep.ext hrp ew13
        replace hyp := Rep.ext hyp ew13
        replace hatp := hatp.ext ew13
        replace hlow := hlow.ext ew13
        replace hB := Nat.le_trans hB ew13.size
        refine l_cons (o_app1 tbOk ho hbw13 nbw13 (show Rep.R _ _ _ (⟨l[i].name, (((cntN (l.take (i - 1)) l[i - 1].name : Nat) : Int) + 1)⟩ : Slo) from ⟨rfl, szq, (show I64 (((cntN (l.take (i - 1)) l[i - 1].name : Nat) : Int) + 1) from ⟨by omega, by omega⟩)⟩) hlow hB rfl rfl rfl rfl rfl rfl rfl (by omega) (by show (_ + _) * 24 ≤ _; omega) rfl rfl ?_)
        intro vw14 w14 Mw14 hw14 sw14 frw14 blw14
        have zd_ho_h9 := d_ho_h9
        replace d_ho_h9 : ∀ x, (vw14 : Value).ownBlock = some x → x ≠ b9 := fun x hx => (blw14 x hx).elim (d_ho_h9 x) (fun h e => by have := h9.lt; omega)
        replace h9 := h9.stp sw14 (frw14 b9 h9.lt (fun e => zd_ho_h9 _ e.symm rfl))
        replace hE := hE.trans sw14.below
        replace hfl := hfl.stp sw14
        replace hrq := Rep.stp hrq sw14
        replace hyq := Rep.stp hyq sw14
        replace hatq := hatq.stp sw14
        replace h8 := h8.stp sw14
        replace hrp := Rep.stp hrp sw14
        replace hyp := Rep.stp hyp sw14
        replace hatp := hatp.stp sw14
        replace hsub := fun b h => sw14.sub b (hsub b h)
        replace hlow := sw14.low
        replace hB := Nat.le_trans hB sw14.upd.1
        replace ho := hw14
        clear hw14
        refine l_cons (o_p tbOk rfl rfl rfl ?_)
        refine l_nil ?_
        refine x_blk ?_
        refine x_seq ?_
        refine c_reg ?_
        refine l_cons (o_ar rfl rfl rfl (IntWalk.i64_in _ (by omega)) rfl rfl ?_)
        refine l_cons (o_p tbOk rfl rfl rfl ?_)
        refine l_nil ?_
        exact x_round3 (i + 1) (vw14) (Mw14) (subL_cons rfl (subL_cons rfl (subL_cons rfl (subL_cons rfl (subL_cons (get_num rfl (by omega)) (subL_nil)))))) ⟨by omega, by rw [← slots_take hil hz]; exact ho, hfl, hlow, hsub, hE, hB⟩ (by omega)
      have hz : (0 : Int) = (cntN (l.take i) l[i].name : Nat) := by rw [cnt_first2 hsr h0 hil hnm]; rfl
      refine c_skip ?_
      refine x_seq ?_
      refine c_reg ?_
      refine l_cons (o_p tbOk rfl rfl rfl ?_)
      refine l_cons (o_lds tbOk (fun j v hv => h9.cell j v hv) rfl rfl rfl rfl rfl rfl ?_)
      have hct := cntN_take_le l i l[i].name
      refine l_cons (o_bs tbOk rfl rfl rfl rfl rfl rfl rfl (sz1 rfl) rfl rfl rfl ?_)
      intro bw15 w15 qbw15 ew15 hbw15
      have nbw15 := nM_of hlow qbw15
      replace ho := ho.ext hlow hB ew15
      replace h9 := h9.ext hlow hB ew15
      replace hE := hE.trans (Below.mono ew15 hB)
      replace hfl := hfl.ext ew15
      replace hrq := Rep.ext hrq ew15
      replace hyq := Rep.ext hyq ew15
      replace hatq := hatq.ext ew15
      replace h8 := h8.ext ew15
      replace hrp := Rep.ext hrp ew15
      replace hyp := Rep.ext hyp ew15
      replace hatp := hatp.ext ew15
      replace hlow := hlow.ext ew15
      replace hB := Nat.le_trans hB ew15.size
      refine l_cons (o_app1 tbOk ho hbw15 nbw15 (show Rep.R _ _ _ (⟨l[i].name, 0⟩ : Slo) from ⟨rfl, szq, (show I64 0 from ⟨by omega, by omega⟩)⟩) hlow hB rfl rfl rfl rfl rfl rfl rfl (by omega) (by show (_ + _) * 24 ≤ _; omega) rfl rfl ?_)
      intro vw16 w16 Mw16 hw16 sw16 frw16 blw16
      have zd_ho_h9 := d_ho_h9
      replace d_ho_h9 : ∀ x, (vw16 : Value).ownBlock = some x → x ≠ b9 := fun x hx => (blw16 x hx).elim (d_ho_h9 x) (fun h e => by have := h9.lt; omega)
      replace h9 := h9.stp sw16 (frw16 b9 h9.lt (fun e => zd_ho_h9 _ e.symm rfl))
      replace hE := hE.trans sw16.below
      replace hfl := hfl.stp sw16
      replace hrq := Rep.stp hrq sw16
      replace hyq := Rep.stp hyq sw16
      replace hatq := hatq.stp sw16
      replace h8 := h8.stp sw16
      replace hrp := Rep.stp hrp sw16
      replace hyp := Rep.stp hyp sw16
      replace hatp := hatp.stp sw16
      replace hsub := fun b h => sw16.sub b (hsub b h)
      replace hlow := sw16.low
      replace hB := Nat.le_trans hB sw16.upd.1
      replace ho := hw16
      clear hw16
      refine l_cons (o_p tbOk rfl rfl rfl ?_)
      refine l_nil ?_
      refine x_blk ?_
      refine x_seq ?_
      refine c_reg ?_
      refine l_cons (o_ar rfl rfl rfl (IntWalk.i64_in _ (by omega)) rfl rfl ?_)
      refine l_cons (o_p tbOk rfl rfl rfl ?_)
      refine l_nil ?_
      exact x_round3 (i + 1) (vw16) (Mw16) (subL_cons rfl (subL_cons rfl (subL_cons rfl (subL_cons rfl (subL_cons (get_num rfl (by omega)) (subL_nil)))))) ⟨by omega, by rw [← slots_take hil hz]; exact ho, hfl, hlow, hsub, hE, hB⟩ (by omega)
    have hz : (0 : Int) = (cntN (l.take i) l[i].name : Nat) := by
      obtain rfl : i = 0 := by omega
      rfl
    refine a_skip 3 rfl rfl rfl (by kernel_rfl) (fun _ _ _ h => h) hS ?_
    refine a_skip 4 rfl rfl rfl (by kernel_rfl) (fun _ _ _ h => h) hS ?_
    refine a_skip 5 rfl rfl rfl (by kernel_rfl) (fun _ _ _ h => h) hS ?_
    refine a_skip 6 rfl rfl rfl (by kernel_rfl) (fun _ _ _ h => h) hS ?_
    refine a_skip 7 rfl rfl rfl (by kernel_rfl) (fun _ _ _ h => h) hS ?_
    refine a_skip 8 rfl rfl rfl (by kernel_rfl) (fun _ _ _ h => h) hS ?_
    refine a_skip 9 rfl rfl rfl (by kernel_rfl) (fun _ _ _ h => h) hS ?_
    refine a_skip 10 rfl rfl rfl (by kernel_rfl) (fun _ _ _ h => h) hS ?_
    refine a_skip 11 rfl rfl rfl (by kernel_rfl) (fun _ _ _ h => h) hS ?_
    refine a_p 12 tbOk rfl rfl rfl rfl (by kernel_rfl) (fun _ _ _ h => h) hS ?_
    refine a_end (by kernel_rfl) ?_
    refine x_seq ?_
    refine c_ifF rfl ?_
    refine c_skip ?_
    refine x_seq ?_
    refine c_reg ?_
    refine l_cons (o_p tbOk rfl rfl rfl ?_)
    refine l_cons (o_lds tbOk (fun j v hv => h9.cell j v hv) rfl rfl rfl rfl rfl rfl ?_)
    have hct := cntN_take_le l i l[i].name
    refine l_cons (o_bs tbOk rfl rfl rfl rfl rfl rfl rfl (sz1 rfl) rfl rfl rfl ?_)
    intro bw17 w17 qbw17 ew17 hbw17
    have nbw17 := nM_of hlow qbw17
    replace ho := ho.ext hlow hB ew17
    replace h9 := h9.ext hlow hB ew17
    replace hE := hE.trans (Below.mono ew17 hB)
    replace hfl := hfl.ext ew17
    replace hrq := Rep.ext hrq ew17
    replace hyq := Rep.ext hyq ew17
    replace hatq := hatq.ext ew17
    replace h8 := h8.ext ew17
    replace hlow := hlow.ext ew17
    replace hB := Nat.le_trans hB ew17.size
    refine l_cons (o_app1 tbOk ho hbw17 nbw17 (show Rep.R _ _ _ (⟨l[i].name, 0⟩ : Slo) from ⟨rfl, szq, (show I64 0 from ⟨by omega, by omega⟩)⟩) hlow hB rfl rfl rfl rfl rfl rfl rfl (by omega) (by show (_ + _) * 24 ≤ _; omega) rfl rfl ?_)
    intro vw18 w18 Mw18 hw18 sw18 frw18 blw18
    have zd_ho_h9 := d_ho_h9
    replace d_ho_h9 : ∀ x, (vw18 : Value).ownBlock = some x → x ≠ b9 := fun x hx => (blw18 x hx).elim (d_ho_h9 x) (fun h e => by have := h9.lt; omega)
    replace h9 := h9.stp sw18 (frw18 b9 h9.lt (fun e => zd_ho_h9 _ e.symm rfl))
    replace hE := hE.trans sw18.below
    replace hfl := hfl.stp sw18
    replace hrq := Rep.stp hrq sw18
    replace hyq := Rep.stp hyq sw18
    replace hatq := hatq.stp sw18
    replace h8 := h8.stp sw18
    replace hsub := fun b h => sw18.sub b (hsub b h)
    replace hlow := sw18.low
    replace hB := Nat.le_trans hB sw18.upd.1
    replace ho := hw18
    clear hw18
    refine l_cons (o_p tbOk rfl rfl rfl ?_)
    refine l_nil ?_
    refine x_blk ?_
    refine x_seq ?_
    refine c_reg ?_
    refine l_cons (o_ar rfl rfl rfl (IntWalk.i64_in _ (by omega)) rfl rfl ?_)
    refine l_cons (o_p tbOk rfl rfl rfl ?_)
    refine l_nil ?_
    exact x_round3 (i + 1) (vw18) (Mw18) (subL_cons rfl (subL_cons rfl (subL_cons rfl (subL_cons rfl (subL_cons (get_num rfl (by omega)) (subL_nil)))))) ⟨by omega, by rw [← slots_take hil hz]; exact ho, hfl, hlow, hsub, hE, hB⟩ (by omega)
  refine c_exit ?_
  refine x_seqE ?_
  refine x_seqE ?_
  refine x_blkE ?_
  refine x_seq ?_
  refine c_seq ?_
  refine c_reg ?_
  refine l_cons (o_p tbOk rfl rfl rfl ?_)
  refine l_cons (o_p tbOk rfl rfl rfl ?_)
  refine l_cons (o_p tbOk rfl rfl rfl ?_)
  refine l_nil ?_
  refine x_seq ?_
  refine c_ret ?_
  refine x_ret2 rfl rfl rfl ?_
  obtain rfl : i = l.length := by omega
  rw [List.take_of_length_le (by rw [slots_len]; exact Nat.le_refl _)] at ho
  rw [el, crow]
  exact ⟨⟨_, rfl, ho.sl (by rw [slots_len]; omega) hlow0 hsub⟩, hE⟩

/-- Nth: the place of a name's n-th field. -/
theorem nth_spec (t : Ty) (name : ByteArray) (n : Int) (M : Nat → Prop) (w : World) (v : Value) (ht : Rep.R M w v t) (hnm : name.size < 140737488355328) (hn : I64 n) (hlow0 : Low M w) (hsz : psz t ≤ 2000000) :
    Calls Try.prog 18 #[v, .string name, .int .i64 n] w (Ret fun r w' => r = .tuple #[.agg #[.int .i64 ((nthF t name n).1.base), .int .i64 ((nthF t name n).1.var), .string (nthF t name n).1.name], .int .u8 (nthF t name n).2] ∧ Ext w w') := by
  have hlow := hlow0
  have hB : w.heap.size ≤ w.heap.size := Nat.le_refl _
  have hE : Below w.heap.size w w := Below.refl _ _
  have hsub : ∀ b, M b → M b := fun _ h => h
  obtain ⟨kv, rfl, op, nm, n64, hk⟩ := ty_open ht
  have hn1 := hn.1
  have hn2 := hn.2
  refine c_enter (n := 57) Try.func18 rfl rfl rfl ?_
  refine c_seq ?_
  refine c_reg ?_
  refine l_cons (o_box rfl rfl rfl ?_)
  intro b3 w1 hb_b3 ew1 h3
  replace h3 : Box _ b3 40 [.int .u8 t.op, .string t.name, .int .i64 t.n, kv] := h3
  replace h3 := h3.at (nM_of hlow hb_b3)
  replace hE := hE.trans (Below.mono ew1 hB)
  replace ht := Rep.ext ht ew1
  replace hk := hk.ext ew1
  replace hlow := hlow.ext ew1
  replace hB := Nat.le_trans hB ew1.size
  refine l_cons (o_new tbOk rfl rfl rfl ?_)
  intro b6 w2 qb6 ew2 hb6
  have sw2 := Stp.add ew2 hlow hB (Nat.le_of_eq qb6.symm) hb6.lt
  have h6 : MB w.heap.size (Rw.Add M b6) w2 b6 23 [.int .i64 0, .int .i64 0, .string ⟨#[]⟩] := MB.mk' hb6 qb6 hB
  replace hE := hE.trans sw2.below
  replace ht := Rep.stp ht sw2
  replace hk := hk.stp sw2
  replace h3 := h3.stp sw2
  replace hsub := fun b h => sw2.sub b (hsub b h)
  replace hlow := sw2.low
  replace hB := Nat.le_trans hB sw2.upd.1
  refine l_cons (o_p tbOk rfl rfl rfl ?_)
  refine l_nil ?_
  refine x_seq ?_
  refine c_seq ?_
  refine c_reg ?_
  refine l_cons (o_lds tbOk (fun j v hv => h3.cell j v hv) rfl rfl rfl rfl rfl rfl ?_)
  refine l_cons (o_p tbOk rfl rfl rfl ?_)
  refine l_cons (o_call fo17 rfl rfl rfl (at_spec t name _ _ _ ht hnm hlow hsz) ?_)
  rintro _ w3 ⟨rfl, ew3⟩
  replace h6 := h6.ext hlow hB ew3
  replace hE := hE.trans (Below.mono ew3 hB)
  replace ht := Rep.ext ht ew3
  replace hk := hk.ext ew3
  replace h3 := h3.ext ew3
  replace hlow := hlow.ext ew3
  replace hB := Nat.le_trans hB ew3.size
  refine l_cons (o_p tbOk rfl rfl rfl ?_)
  refine l_cons (o_p tbOk rfl rfl rfl ?_)
  refine l_cons (o_p tbOk rfl rfl rfl ?_)
  refine l_cons (o_new tbOk rfl rfl rfl ?_)
  intro b8 w4 qb8 ew4 hb8
  have ne_h6_h8 : b6 ≠ b8 := by have := h6.lt; omega
  have sw4 := Stp.add ew4 hlow hB (Nat.le_of_eq qb8.symm) hb8.lt
  have h8 : MB w.heap.size (Rw.Add (Rw.Add M b6) b8) w4 b8 23 [.int .i64 0, .int .i64 0, .string ⟨#[]⟩] := MB.mk' hb8 qb8 hB
  replace h6 := h6.stp sw4 (ew4.block b6 h6.lt)
  replace hE := hE.trans sw4.below
  replace ht := Rep.stp ht sw4
  replace hk := hk.stp sw4
  replace h3 := h3.stp sw4
  replace hsub := fun b h => sw4.sub b (hsub b h)
  replace hlow := sw4.low
  replace hB := Nat.le_trans hB sw4.upd.1
  refine l_cons (o_st tbOk h8.box rfl rfl rfl rfl (by intro u hu; simp [Value.cells] at hu; rcases hu with rfl | rfl | rfl <;> rfl) rfl rfl ?_)
  intro w5 hw5 qw5 bew5
  have uw5 : UpdB _ _ _ := ⟨qw5, bew5⟩
  have sw5 := uw5.stp h8.inM hlow h8.ge
  have frw5 := qw5.2
  replace h6 := h6.stp sw5 (frw5 b6 h6.lt ne_h6_h8)
  replace hE := hE.trans sw5.below
  replace ht := Rep.stp ht sw5
  replace hk := hk.stp sw5
  replace h3 := h3.stp sw5
  replace hsub := fun b h => sw5.sub b (hsub b h)
  replace hlow := sw5.low
  replace hB := Nat.le_trans hB sw5.upd.1
  replace h8 : MB w.heap.size _ w5 b8 _ [.int .i64 ((atF t name).1.base), .int .i64 ((atF t name).1.var), .string (atF t name).1.name] := ⟨hw5, h8.inM, h8.ge⟩
  refine l_cons (o_p tbOk rfl rfl rfl ?_)
  refine l_nil ?_
  refine x_seq ?_
  refine c_seq ?_
  refine c_seq ?_
  refine c_reg ?_
  refine l_cons (o_p tbOk rfl rfl rfl ?_)
  refine l_cons (o_p tbOk rfl rfl rfl ?_)
  refine l_nil ?_
  refine x_seq ?_
  refine c_ifN _ rfl (fun hc => ?_) (fun hc => ?_)
  · have hg : (rowB t && isWordB name) = false := by
      rcases hb : (rowB t && isWordB name) with _ | _
      · rfl
      · rw [atF_good hb] at hc; exact absurd rfl hc
    refine c_seq ?_
    refine c_reg ?_
    refine l_cons (o_lds tbOk (fun j v hv => h8.cell j v hv) rfl rfl rfl rfl rfl rfl ?_)
    refine l_cons (o_p tbOk rfl rfl rfl ?_)
    refine l_cons (o_st tbOk h6.box rfl rfl rfl rfl (by intro u hu; simp [Value.cells] at hu; rcases hu with rfl | rfl | rfl <;> rfl) rfl rfl ?_)
    intro w6 hw6 qw6 bew6
    have uw6 : UpdB _ _ _ := ⟨qw6, bew6⟩
    have sw6 := uw6.stp h6.inM hlow h6.ge
    have frw6 := qw6.2
    replace h8 := h8.stp sw6 (frw6 b8 h8.lt ne_h6_h8.symm)
    replace hE := hE.trans sw6.below
    replace ht := Rep.stp ht sw6
    replace hk := hk.stp sw6
    replace h3 := h3.stp sw6
    replace hsub := fun b h => sw6.sub b (hsub b h)
    replace hlow := sw6.low
    replace hB := Nat.le_trans hB sw6.upd.1
    replace h6 : MB w.heap.size _ w6 b6 _ [.int .i64 ((atF t name).1.base), .int .i64 ((atF t name).1.var), .string (atF t name).1.name] := ⟨hw6, h6.inM, h6.ge⟩
    refine l_cons (o_p tbOk rfl rfl rfl ?_)
    refine l_nil ?_
    refine x_seq ?_
    refine c_ret ?_
    refine x_seqR ?_
    refine x_ret2st tbOk (fun j v hv => h6.cell j v hv) rfl rfl rfl rfl rfl rfl ?_
    rw [nthF_bad hg, atF_bad hg]
    exact ⟨rfl, hE⟩
  have hg : (rowB t && isWordB name) = true := by
    rcases hb : (rowB t && isWordB name) with _ | _
    · rw [atF_bad hb] at hc; exact absurd hc (by decide)
    · rfl
  have eb : (atF t name).1.base = (lessN (flatF t).1 name : Nat) := by rw [atF_good hg]; rfl
  refine c_skip ?_
  refine x_seq ?_
  refine c_seq ?_
  refine c_reg ?_
  refine l_cons (o_lds tbOk (fun j v hv => h3.cell j v hv) rfl rfl rfl rfl rfl rfl ?_)
  refine l_cons (o_call fo56 rfl rfl rfl (Flat_spec t _ _ _ ht hlow hsz) ?_)
  rintro _ w7 ⟨⟨xv, tv, rfl, hfl, htl⟩, ew7⟩
  obtain ⟨l, el⟩ : ∃ l, (flatF t).1 = l := ⟨_, rfl⟩
  rw [el] at hfl
  have hsr : Srt l := el ▸ flatF_srt t
  have hlen : l.length ≤ 2000000 := by have := flatF_len t; rw [el] at this; omega
  replace h6 := h6.ext hlow hB ew7
  replace h8 := h8.ext hlow hB ew7
  replace hE := hE.trans (Below.mono ew7 hB)
  replace ht := Rep.ext ht ew7
  replace hk := hk.ext ew7
  replace h3 := h3.ext ew7
  replace hlow := hlow.ext ew7
  replace hB := Nat.le_trans hB ew7.size
  obtain ⟨kve, rfl, ope, nme, n64e, hke⟩ := ty_open htl
  rw [el] at eb
  have hle := lessN_le l name
  refine l_cons (o_p tbOk rfl rfl rfl ?_)
  refine l_cons (o_p tbOk rfl rfl rfl ?_)
  refine l_cons (o_p tbOk rfl rfl rfl ?_)
  refine l_cons (o_new tbOk rfl rfl rfl ?_)
  intro b11 w8 qb11 ew8 hb11
  have ne_h6_h11 : b6 ≠ b11 := by have := h6.lt; omega
  have ne_h8_h11 : b8 ≠ b11 := by have := h8.lt; omega
  have sw8 := Stp.add ew8 hlow hB (Nat.le_of_eq qb11.symm) hb11.lt
  have h11 : MB w.heap.size (Rw.Add (Rw.Add (Rw.Add M b6) b8) b11) w8 b11 40 [.int .u8 0, .string ⟨#[]⟩, .int .i64 0, .slice none 0 0] := MB.mk' hb11 qb11 hB
  replace h6 := h6.stp sw8 (ew8.block b6 h6.lt)
  replace h8 := h8.stp sw8 (ew8.block b8 h8.lt)
  replace hE := hE.trans sw8.below
  replace ht := Rep.stp ht sw8
  replace hk := hk.stp sw8
  replace h3 := h3.stp sw8
  replace hfl := hfl.stp sw8
  replace htl := Rep.stp htl sw8
  replace hke := hke.stp sw8
  replace hsub := fun b h => sw8.sub b (hsub b h)
  replace hlow := sw8.low
  replace hB := Nat.le_trans hB sw8.upd.1
  refine l_cons (o_p tbOk rfl rfl rfl ?_)
  refine l_cons (o_st tbOk h11.box rfl rfl rfl rfl (Rep.one htl) rfl rfl ?_)
  intro w9 hw9 qw9 bew9
  have uw9 : UpdB _ _ _ := ⟨qw9, bew9⟩
  have sw9 := uw9.stp h11.inM hlow h11.ge
  have frw9 := qw9.2
  replace h6 := h6.stp sw9 (frw9 b6 h6.lt ne_h6_h11)
  replace h8 := h8.stp sw9 (frw9 b8 h8.lt ne_h8_h11)
  replace hE := hE.trans sw9.below
  replace ht := Rep.stp ht sw9
  replace hk := hk.stp sw9
  replace h3 := h3.stp sw9
  replace hfl := hfl.stp sw9
  replace htl := Rep.stp htl sw9
  replace hke := hke.stp sw9
  replace hsub := fun b h => sw9.sub b (hsub b h)
  replace hlow := sw9.low
  replace hB := Nat.le_trans hB sw9.upd.1
  replace h11 : MB w.heap.size _ w9 b11 _ [.int .u8 (flatF t).2.op, .string (flatF t).2.name, .int .i64 (flatF t).2.n, kve] := ⟨hw9, h11.inM, h11.ge⟩
  refine l_nil ?_
  refine x_seq ?_
  refine c_seq ?_
  refine c_seq ?_
  refine c_reg ?_
  refine l_cons (o_p tbOk rfl rfl rfl ?_)
  refine l_cons (o_p tbOk rfl rfl rfl ?_)
  refine l_cons (o_p tbOk rfl rfl rfl ?_)
  refine l_splitP 29 _ rfl (fun hneg => ?_) (fun hneg => ?_)
  · refine l_cons (o_skip rfl rfl ?_)
    refine l_cons (o_skip rfl rfl ?_)
    refine l_cons (o_skip rfl rfl ?_)
    refine l_cons (o_skip rfl rfl ?_)
    refine l_cons (o_skip rfl rfl ?_)
    refine l_cons (o_skip rfl rfl ?_)
    refine l_cons (o_skip rfl rfl ?_)
    refine l_cons (o_p tbOk rfl rfl rfl ?_)
    refine l_cons (o_p tbOk rfl rfl rfl ?_)
    refine l_cons (o_skip rfl rfl ?_)
    refine l_cons (o_skip rfl rfl ?_)
    refine l_cons (o_skip rfl rfl ?_)
    refine l_cons (o_skip rfl rfl ?_)
    refine l_cons (o_skip rfl rfl ?_)
    refine l_cons (o_skip rfl rfl ?_)
    refine l_cons (o_skip rfl rfl ?_)
    refine l_cons (o_skip rfl rfl ?_)
    refine l_cons (o_skip rfl rfl ?_)
    refine l_cons (o_skip rfl rfl ?_)
    refine l_cons (o_p tbOk rfl rfl rfl ?_)
    refine l_nil ?_
    refine x_seq ?_
    refine c_ifT rfl ?_
    refine c_seq ?_
    refine c_reg ?_
    refine l_cons (o_build (cells := [.int .i64 0, .int .i64 0, .string ⟨#[]⟩]) (css := []) bd23 rfl rfl rfl rfl rfl ?_)
    refine l_cons (o_st tbOk h6.box rfl rfl rfl rfl (by intro u hu; simp [Value.cells] at hu; rcases hu with rfl | rfl | rfl <;> rfl) rfl rfl ?_)
    intro w10 hw10 qw10 bew10
    have uw10 : UpdB _ _ _ := ⟨qw10, bew10⟩
    have sw10 := uw10.stp h6.inM hlow h6.ge
    have frw10 := qw10.2
    replace h8 := h8.stp sw10 (frw10 b8 h8.lt ne_h6_h8.symm)
    replace h11 := h11.stp sw10 (frw10 b11 h11.lt ne_h6_h11.symm)
    replace hE := hE.trans sw10.below
    replace ht := Rep.stp ht sw10
    replace hk := hk.stp sw10
    replace h3 := h3.stp sw10
    replace hfl := hfl.stp sw10
    replace htl := Rep.stp htl sw10
    replace hke := hke.stp sw10
    replace hsub := fun b h => sw10.sub b (hsub b h)
    replace hlow := sw10.low
    replace hB := Nat.le_trans hB sw10.upd.1
    replace h6 : MB w.heap.size _ w10 b6 _ [.int .i64 0, .int .i64 0, .string ⟨#[]⟩] := ⟨hw10, h6.inM, h6.ge⟩
    refine l_cons (o_p tbOk rfl rfl rfl ?_)
    refine l_nil ?_
    refine x_seq ?_
    refine c_ret ?_
    refine x_seqR ?_
    refine x_ret2st tbOk (fun j v hv => h6.cell j v hv) rfl rfl rfl rfl rfl rfl ?_
    have e1 := nthF_none (n := n) hg (by rw [el]; exact nth_none hsr (.inl hneg))
    rw [e1]
    exact ⟨rfl, hE⟩
  refine l_cons (o_p tbOk rfl rfl rfl ?_)
  refine l_cons (o_p tbOk rfl rfl rfl ?_)
  refine l_cons (o_len tbOk hfl rfl rfl rfl rfl rfl ?_)
  refine l_cons (o_p tbOk rfl rfl rfl ?_)
  refine l_cons (o_ld tbOk (h8.cell 0 _ rfl) rfl rfl rfl rfl rfl ?_)
  refine l_cons (o_ar rfl rfl rfl (IntWalk.i64_in _ (by omega)) rfl rfl ?_)
  refine l_cons (o_p tbOk rfl rfl rfl ?_)
  refine l_cons (o_p tbOk rfl rfl rfl ?_)
  refine l_cons (o_p tbOk rfl rfl rfl ?_)
  refine l_splitP 38 _ rfl (fun hbig => ?_) (fun hbig => ?_)
  · refine l_cons (o_skip rfl rfl ?_)
    refine l_cons (o_skip rfl rfl ?_)
    refine l_cons (o_skip rfl rfl ?_)
    refine l_cons (o_skip rfl rfl ?_)
    refine l_cons (o_skip rfl rfl ?_)
    refine l_cons (o_skip rfl rfl ?_)
    refine l_cons (o_skip rfl rfl ?_)
    refine l_cons (o_skip rfl rfl ?_)
    refine l_cons (o_skip rfl rfl ?_)
    refine l_cons (o_skip rfl rfl ?_)
    refine l_cons (o_p tbOk rfl rfl rfl ?_)
    refine l_nil ?_
    refine x_seq ?_
    refine c_ifT rfl ?_
    refine c_seq ?_
    refine c_reg ?_
    refine l_cons (o_build (cells := [.int .i64 0, .int .i64 0, .string ⟨#[]⟩]) (css := []) bd23 rfl rfl rfl rfl rfl ?_)
    refine l_cons (o_st tbOk h6.box rfl rfl rfl rfl (by intro u hu; simp [Value.cells] at hu; rcases hu with rfl | rfl | rfl <;> rfl) rfl rfl ?_)
    intro w11 hw11 qw11 bew11
    have uw11 : UpdB _ _ _ := ⟨qw11, bew11⟩
    have sw11 := uw11.stp h6.inM hlow h6.ge
    have frw11 := qw11.2
    replace h8 := h8.stp sw11 (frw11 b8 h8.lt ne_h6_h8.symm)
    replace h11 := h11.stp sw11 (frw11 b11 h11.lt ne_h6_h11.symm)
    replace hE := hE.trans sw11.below
    replace ht := Rep.stp ht sw11
    replace hk := hk.stp sw11
    replace h3 := h3.stp sw11
    replace hfl := hfl.stp sw11
    replace htl := Rep.stp htl sw11
    replace hke := hke.stp sw11
    replace hsub := fun b h => sw11.sub b (hsub b h)
    replace hlow := sw11.low
    replace hB := Nat.le_trans hB sw11.upd.1
    replace h6 : MB w.heap.size _ w11 b6 _ [.int .i64 0, .int .i64 0, .string ⟨#[]⟩] := ⟨hw11, h6.inM, h6.ge⟩
    refine l_cons (o_p tbOk rfl rfl rfl ?_)
    refine l_nil ?_
    refine x_seq ?_
    refine c_ret ?_
    refine x_seqR ?_
    refine x_ret2st tbOk (fun j v hv => h6.cell j v hv) rfl rfl rfl rfl rfl rfl ?_
    have e1 := nthF_none (n := n) hg (by rw [el]; exact nth_none hsr (.inr (.inl (by omega))))
    rw [e1]
    exact ⟨rfl, hE⟩
  have hkl : lessN l name + n.toNat < l.length := by omega
  refine l_cons (o_p tbOk rfl rfl rfl ?_)
  refine l_cons (o_p tbOk rfl rfl rfl ?_)
  refine l_cons (o_ld tbOk (h8.cell 0 _ rfl) rfl rfl rfl rfl rfl ?_)
  refine l_cons (o_p tbOk rfl rfl rfl ?_)
  refine l_cons (o_ar rfl rfl rfl (IntWalk.i64_in _ (by omega)) rfl rfl ?_)
  refine l_cons (o_ixS tbOk hfl (List.getElem?_eq_getElem hkl) rfl rfl (by omega) rfl rfl rfl rfl rfl rfl ?_)
  intro ebq eoq euq hrq hatq
  obtain ⟨szq, kvq, rfl, hyq⟩ := fld_open hrq
  replace hatq : At _ w9 ebq eoq [.string l[lessN l name + n.toNat].name, .int .u8 l[lessN l name + n.toNat].ty.op, .string l[lessN l name + n.toNat].ty.name, .int .i64 l[lessN l name + n.toNat].ty.n, kvq] := hatq
  refine l_cons (o_p tbOk rfl rfl rfl ?_)
  refine l_cons (o_ld tbOk (hatq.cell 0 _ rfl) rfl rfl rfl rfl rfl ?_)
  refine l_cons (o_p tbOk rfl rfl rfl ?_)
  refine l_cons (o_p tbOk rfl rfl rfl ?_)
  refine l_cons (o_p tbOk rfl rfl rfl ?_)
  refine l_nil ?_
  refine x_seq ?_
  refine c_ifN _ rfl (fun hne => ?_) (fun hne => ?_)
  · refine c_seq ?_
    refine c_reg ?_
    refine l_cons (o_build (cells := [.int .i64 0, .int .i64 0, .string ⟨#[]⟩]) (css := []) bd23 rfl rfl rfl rfl rfl ?_)
    refine l_cons (o_st tbOk h6.box rfl rfl rfl rfl (by intro u hu; simp [Value.cells] at hu; rcases hu with rfl | rfl | rfl <;> rfl) rfl rfl ?_)
    intro w12 hw12 qw12 bew12
    have uw12 : UpdB _ _ _ := ⟨qw12, bew12⟩
    have sw12 := uw12.stp h6.inM hlow h6.ge
    have frw12 := qw12.2
    replace h8 := h8.stp sw12 (frw12 b8 h8.lt ne_h6_h8.symm)
    replace h11 := h11.stp sw12 (frw12 b11 h11.lt ne_h6_h11.symm)
    replace hE := hE.trans sw12.below
    replace ht := Rep.stp ht sw12
    replace hk := hk.stp sw12
    replace h3 := h3.stp sw12
    replace hfl := hfl.stp sw12
    replace htl := Rep.stp htl sw12
    replace hke := hke.stp sw12
    replace hrq := Rep.stp hrq sw12
    replace hyq := Rep.stp hyq sw12
    replace hatq := hatq.stp sw12
    replace hsub := fun b h => sw12.sub b (hsub b h)
    replace hlow := sw12.low
    replace hB := Nat.le_trans hB sw12.upd.1
    replace h6 : MB w.heap.size _ w12 b6 _ [.int .i64 0, .int .i64 0, .string ⟨#[]⟩] := ⟨hw12, h6.inM, h6.ge⟩
    refine l_cons (o_p tbOk rfl rfl rfl ?_)
    refine l_nil ?_
    refine x_seq ?_
    refine c_ret ?_
    refine x_seqR ?_
    refine x_ret2st tbOk (fun j v hv => h6.cell j v hv) rfl rfl rfl rfl rfl rfl ?_
    have e1 := nthF_none (n := n) hg (by rw [el]; exact nth_none hsr (.inr (.inr ⟨n.toNat, by omega, hkl, hne⟩)))
    rw [e1]
    exact ⟨rfl, hE⟩
  refine c_skip ?_
  refine x_seq ?_
  refine c_seq ?_
  refine c_reg ?_
  refine l_cons (o_p tbOk rfl rfl rfl ?_)
  refine l_cons (o_ld tbOk (h8.cell 0 _ rfl) rfl rfl rfl rfl rfl ?_)
  refine l_cons (o_p tbOk rfl rfl rfl ?_)
  refine l_cons (o_ar rfl rfl rfl (IntWalk.i64_in _ (by omega)) rfl rfl ?_)
  refine l_cons (o_p tbOk rfl rfl rfl ?_)
  refine l_cons (o_st tbOk h8.box rfl rfl rfl rfl (by simp [Value.cells, Value.oneCell']) rfl rfl ?_)
  intro w13 hw13 qw13 bew13
  have uw13 : UpdB _ _ _ := ⟨qw13, bew13⟩
  have sw13 := uw13.stp h8.inM hlow h8.ge
  have frw13 := qw13.2
  replace h6 := h6.stp sw13 (frw13 b6 h6.lt ne_h6_h8)
  replace h11 := h11.stp sw13 (frw13 b11 h11.lt ne_h8_h11.symm)
  replace hE := hE.trans sw13.below
  replace ht := Rep.stp ht sw13
  replace hk := hk.stp sw13
  replace h3 := h3.stp sw13
  replace hfl := hfl.stp sw13
  replace htl := Rep.stp htl sw13
  replace hke := hke.stp sw13
  replace hrq := Rep.stp hrq sw13
  replace hyq := Rep.stp hyq sw13
  replace hatq := hatq.stp sw13
  replace hsub := fun b h => sw13.sub b (hsub b h)
  replace hlow := sw13.low
  replace hB := Nat.le_trans hB sw13.upd.1
  replace h8 : MB w.heap.size _ w13 b8 _ [.int .i64 ((atF t name).1.base + n), .int .i64 ((atF t name).1.var), .string (atF t name).1.name] := ⟨hw13, h8.inM, h8.ge⟩
  refine l_nil ?_
  refine x_seq ?_
  refine c_seq ?_
  refine c_reg ?_
  refine l_cons (o_lds tbOk (fun j v hv => h8.cell j v hv) rfl rfl rfl rfl rfl rfl ?_)
  refine l_cons (o_st tbOk h6.box rfl rfl rfl rfl (by intro u hu; simp [Value.cells] at hu; rcases hu with rfl | rfl | rfl <;> rfl) rfl rfl ?_)
  intro w14 hw14 qw14 bew14
  have uw14 : UpdB _ _ _ := ⟨qw14, bew14⟩
  have sw14 := uw14.stp h6.inM hlow h6.ge
  have frw14 := qw14.2
  replace h8 := h8.stp sw14 (frw14 b8 h8.lt ne_h6_h8.symm)
  replace h11 := h11.stp sw14 (frw14 b11 h11.lt ne_h6_h11.symm)
  replace hE := hE.trans sw14.below
  replace ht := Rep.stp ht sw14
  replace hk := hk.stp sw14
  replace h3 := h3.stp sw14
  replace hfl := hfl.stp sw14
  replace htl := Rep.stp htl sw14
  replace hke := hke.stp sw14
  replace hrq := Rep.stp hrq sw14
  replace hyq := Rep.stp hyq sw14
  replace hatq := hatq.stp sw14
  replace hsub := fun b h => sw14.sub b (hsub b h)
  replace hlow := sw14.low
  replace hB := Nat.le_trans hB sw14.upd.1
  replace h6 : MB w.heap.size _ w14 b6 _ [.int .i64 ((atF t name).1.base + n), .int .i64 ((atF t name).1.var), .string (atF t name).1.name] := ⟨hw14, h6.inM, h6.ge⟩
  refine l_cons (o_p tbOk rfl rfl rfl ?_)
  refine l_nil ?_
  refine x_seq ?_
  refine c_ret ?_
  refine x_ret2st tbOk (fun j v hv => h6.cell j v hv) rfl rfl rfl rfl rfl rfl ?_
  have e1 := nthF_some (n := n) hg (by rw [el, show n = ((n.toNat : Nat) : Int) by omega]; exact nth_some hsr hkl hne)
  rw [e1, atF_good hg]
  exact ⟨rfl, hE⟩

/-- Count: how many fields of a name. -/
theorem count_spec (l : List Fld) (s : ByteArray) (M : Nat → Prop) (w : World) (v : Value) (hs : Sl M w v l) (hlow : Low M w) :
    Calls Try.prog 22 #[v, .string s] w (Ret fun r w' => r = .int .i64 (cntN l s : Nat) ∧ Ext w w') := by
  have hE : Below w.heap.size w w := Below.refl _ _
  have hB : w.heap.size ≤ w.heap.size := Nat.le_refl _
  have hL := hs.lt
  refine c_enter (n := 23) Try.func22 rfl rfl rfl ?_
  refine c_seq ?_
  refine c_reg ?_
  refine l_cons (o_p tbOk rfl rfl rfl ?_)
  refine l_nil ?_
  refine x_seq ?_
  refine c_seq ?_
  refine c_reg ?_
  refine l_cons (o_p tbOk rfl rfl rfl ?_)
  refine l_nil ?_
  refine x_seq ?_
  refine c_seq ?_
  refine c_seq ?_
  refine c_reg ?_
  refine l_cons (o_p tbOk rfl rfl rfl ?_)
  refine l_nil ?_
  refine x_seq ?_
  refine c_blk ?_
  refine c_loop (X := Nat) (fun i => [(0, v), (1, .string s), (5, .int .i64 (cntN (l.take i) s : Nat)), (6, .int .i64 (i : Nat))]) (fun i w' => i ≤ l.length ∧ Sl M w' v l ∧ Low M w' ∧ Below w.heap.size w w' ∧ w.heap.size ≤ w'.heap.size) (fun i => l.length - i) (0) (subL_cons rfl (subL_cons rfl (subL_cons rfl (subL_cons rfl (subL_nil))))) ?_ ?_
  · exact ⟨Nat.zero_le _, hs, hlow, hE, hB⟩
  rintro i w1 ⟨hi, hs, hlow, hE, hB⟩
  refine c_seq ?_
  refine c_seq ?_
  refine c_reg ?_
  refine l_cons (o_p tbOk rfl rfl rfl ?_)
  refine l_cons (o_p tbOk rfl rfl rfl ?_)
  refine l_cons (o_len tbOk hs rfl rfl rfl rfl rfl ?_)
  refine l_cons (o_p tbOk rfl rfl rfl ?_)
  refine l_nil ?_
  refine x_seq ?_
  refine c_ifP _ rfl (fun hc => ?_) (fun hc => ?_)
  · have hil : i < l.length := by omega
    have hcl := cntN_take_le l i s
    refine c_skip ?_
    refine x_seq ?_
    refine c_seq ?_
    refine c_blk ?_
    refine c_seq ?_
    refine c_reg ?_
    refine l_cons (o_p tbOk rfl rfl rfl ?_)
    refine l_cons (o_p tbOk rfl rfl rfl ?_)
    refine l_cons (o_ixS tbOk hs (List.getElem?_eq_getElem hil) rfl rfl rfl rfl rfl rfl rfl rfl rfl ?_)
    intro ebq eoq euq hrq hatq
    obtain ⟨szq, kvq, rfl, hyq⟩ := fld_open hrq
    replace hatq : At _ w1 ebq eoq [.string l[i].name, .int .u8 l[i].ty.op, .string l[i].ty.name, .int .i64 l[i].ty.n, kvq] := hatq
    refine l_cons (o_p tbOk rfl rfl rfl ?_)
    refine l_cons (o_ld tbOk (hatq.cell 0 _ rfl) rfl rfl rfl rfl rfl ?_)
    refine l_cons (o_p tbOk rfl rfl rfl ?_)
    refine l_cons (o_p tbOk rfl rfl rfl ?_)
    refine l_nil ?_
    refine x_seq ?_
    refine c_ifP _ rfl (fun hnm => ?_) (fun hnm => ?_)
    · refine c_reg ?_
      refine l_cons (o_p tbOk rfl rfl rfl ?_)
      refine l_cons (o_ar rfl rfl rfl (IntWalk.i64_in _ (by omega)) rfl rfl ?_)
      refine l_cons (o_p tbOk rfl rfl rfl ?_)
      refine l_nil ?_
      refine x_blk ?_
      refine x_seq ?_
      refine c_reg ?_
      refine l_cons (o_p tbOk rfl rfl rfl ?_)
      refine l_cons (o_ar rfl rfl rfl (IntWalk.i64_in _ (by omega)) rfl rfl ?_)
      refine l_cons (o_p tbOk rfl rfl rfl ?_)
      refine l_nil ?_
      exact x_round (i + 1) (subL_cons rfl (subL_cons rfl (subL_cons (get_num rfl (by rw [cntN_takeY hil hnm]; omega)) (subL_cons (get_num rfl (by omega)) (subL_nil))))) ⟨by omega, hs, hlow, hE, hB⟩ (by omega)
    refine c_skip ?_
    refine x_blk ?_
    refine x_seq ?_
    refine c_reg ?_
    refine l_cons (o_p tbOk rfl rfl rfl ?_)
    refine l_cons (o_ar rfl rfl rfl (IntWalk.i64_in _ (by omega)) rfl rfl ?_)
    refine l_cons (o_p tbOk rfl rfl rfl ?_)
    refine l_nil ?_
    exact x_round (i + 1) (subL_cons rfl (subL_cons rfl (subL_cons (get_num rfl (by rw [cntN_takeN hil hnm])) (subL_cons (get_num rfl (by omega)) (subL_nil))))) ⟨by omega, hs, hlow, hE, hB⟩ (by omega)
  refine c_exit ?_
  refine x_seqE ?_
  refine x_seqE ?_
  refine x_blkE ?_
  refine x_seq ?_
  refine c_seq ?_
  refine c_reg ?_
  refine l_cons (o_p tbOk rfl rfl rfl ?_)
  refine l_cons (o_p tbOk rfl rfl rfl ?_)
  refine l_nil ?_
  refine x_seq ?_
  refine c_ret ?_
  refine x_ret1 rfl rfl ?_
  obtain rfl : i = l.length := by omega
  rw [List.take_of_length_le (Nat.le_refl _)]
  exact ⟨rfl, hE⟩

/-- The document's At. -/
theorem refAt_spec (t : Ty) (name : ByteArray) (M : Nat → Prop) (w : World) (v : Value) (hrow : rowB t = true) (ht : Rep.R M w v t) (hnm : name.size < 140737488355328) (hlow0 : Low M w) (hsz : psz t ≤ 2000000) :
    Calls Try.prog 24 #[v, .string name] w (Ret fun r w' => r = .agg #[.int .i64 ((atP (flatF t).1 (flatF t).2 name).base), .int .i64 ((atP (flatF t).1 (flatF t).2 name).var), .string (atP (flatF t).1 (flatF t).2 name).name] ∧ Ext w w') := by
  have hlow := hlow0
  have hB : w.heap.size ≤ w.heap.size := Nat.le_refl _
  have hE : Below w.heap.size w w := Below.refl _ _
  have hsub : ∀ b, M b → M b := fun _ h => h
  obtain ⟨kv, rfl, op, nm, n64, hk⟩ := ty_open ht
  have e1 : flatF t = (fieldsF (spineF t).1, (spineF t).2) := by rw [flatF, hrow]; rfl
  have hsh : shapeF t 114 = true := by have h := hrow; unfold rowB at h; rw [Bool.and_eq_true] at h; exact h.1
  refine c_enter (n := 41) Try.func24 rfl rfl rfl ?_
  refine c_seq ?_
  refine c_reg ?_
  refine l_cons (o_box rfl rfl rfl ?_)
  intro b2 w1 hb_b2 ew1 h2
  replace h2 : Box _ b2 40 [.int .u8 t.op, .string t.name, .int .i64 t.n, kv] := h2
  replace h2 := h2.at (nM_of hlow hb_b2)
  replace hE := hE.trans (Below.mono ew1 hB)
  replace ht := Rep.ext ht ew1
  replace hk := hk.ext ew1
  replace hlow := hlow.ext ew1
  replace hB := Nat.le_trans hB ew1.size
  refine l_cons (o_new tbOk rfl rfl rfl ?_)
  intro b4 w2 qb4 ew2 hb4
  have sw2 := Stp.add ew2 hlow hB (Nat.le_of_eq qb4.symm) hb4.lt
  have h4 : MB w.heap.size (Rw.Add M b4) w2 b4 35 [.int .i64 0, .int .i64 0, .string ⟨#[]⟩] := MB.mk' hb4 qb4 hB
  replace hE := hE.trans sw2.below
  replace ht := Rep.stp ht sw2
  replace hk := hk.stp sw2
  replace h2 := h2.stp sw2
  replace hsub := fun b h => sw2.sub b (hsub b h)
  replace hlow := sw2.low
  replace hB := Nat.le_trans hB sw2.upd.1
  refine l_nil ?_
  refine x_seq ?_
  refine c_seq ?_
  refine c_reg ?_
  refine l_cons (o_lds tbOk (fun j v hv => h2.cell j v hv) rfl rfl rfl rfl rfl rfl ?_)
  refine l_cons (o_call fo21 rfl rfl rfl (fields_spec t _ _ _ hsh ht hlow hsz) ?_)
  rintro _ w3 ⟨⟨xv2, tv2, rfl, hfi, hen⟩, ew3⟩
  rw [show fieldsF (spineF t).1 = (flatF t).1 by rw [e1]] at hfi
  rw [show (spineF t).2 = (flatF t).2 by rw [e1]] at hen
  replace h4 := h4.ext hlow hB ew3
  replace hE := hE.trans (Below.mono ew3 hB)
  replace ht := Rep.ext ht ew3
  replace hk := hk.ext ew3
  replace h2 := h2.ext ew3
  replace hlow := hlow.ext ew3
  replace hB := Nat.le_trans hB ew3.size
  obtain ⟨l, el⟩ : ∃ l, (flatF t).1 = l := ⟨_, rfl⟩
  rw [el] at hfi
  have hsr : Srt l := el ▸ flatF_srt t
  have hlen : l.length ≤ 2000000 := by have := flatF_len t; rw [el] at this; omega
  obtain ⟨kvn, rfl, opn, nmn, n64n, hkn⟩ := ty_open hen
  refine l_cons (o_p tbOk rfl rfl rfl ?_)
  refine l_cons (o_p tbOk rfl rfl rfl ?_)
  refine l_cons (o_p tbOk rfl rfl rfl ?_)
  refine l_cons (o_new tbOk rfl rfl rfl ?_)
  intro b6 w4 qb6 ew4 hb6
  have ne_h4_h6 : b4 ≠ b6 := by have := h4.lt; omega
  have sw4 := Stp.add ew4 hlow hB (Nat.le_of_eq qb6.symm) hb6.lt
  have h6 : MB w.heap.size (Rw.Add (Rw.Add M b4) b6) w4 b6 40 [.int .u8 0, .string ⟨#[]⟩, .int .i64 0, .slice none 0 0] := MB.mk' hb6 qb6 hB
  replace h4 := h4.stp sw4 (ew4.block b4 h4.lt)
  replace hE := hE.trans sw4.below
  replace ht := Rep.stp ht sw4
  replace hk := hk.stp sw4
  replace h2 := h2.stp sw4
  replace hfi := hfi.stp sw4
  replace hen := Rep.stp hen sw4
  replace hkn := hkn.stp sw4
  replace hsub := fun b h => sw4.sub b (hsub b h)
  replace hlow := sw4.low
  replace hB := Nat.le_trans hB sw4.upd.1
  refine l_cons (o_p tbOk rfl rfl rfl ?_)
  refine l_cons (o_st tbOk h6.box rfl rfl rfl rfl (Rep.one hen) rfl rfl ?_)
  intro w5 hw5 qw5 bew5
  have uw5 : UpdB _ _ _ := ⟨qw5, bew5⟩
  have sw5 := uw5.stp h6.inM hlow h6.ge
  have frw5 := qw5.2
  replace h4 := h4.stp sw5 (frw5 b4 h4.lt ne_h4_h6)
  replace hE := hE.trans sw5.below
  replace ht := Rep.stp ht sw5
  replace hk := hk.stp sw5
  replace h2 := h2.stp sw5
  replace hfi := hfi.stp sw5
  replace hen := Rep.stp hen sw5
  replace hkn := hkn.stp sw5
  replace hsub := fun b h => sw5.sub b (hsub b h)
  replace hlow := sw5.low
  replace hB := Nat.le_trans hB sw5.upd.1
  replace h6 : MB w.heap.size _ w5 b6 _ [.int .u8 (flatF t).2.op, .string (flatF t).2.name, .int .i64 (flatF t).2.n, kvn] := ⟨hw5, h6.inM, h6.ge⟩
  refine l_nil ?_
  refine x_seq ?_
  refine c_seq ?_
  refine c_reg ?_
  refine l_cons (o_build (cells := [.int .i64 (0), .int .i64 (-1), .string ⟨#[]⟩]) (css := [[.int .i64 (-1)]]) bd35 rfl rfl rfl rfl rfl ?_)
  refine l_cons (o_new tbOk rfl rfl rfl ?_)
  intro b7 w6 qb7 ew6 hb7
  have ne_h4_h7 : b4 ≠ b7 := by have := h4.lt; omega
  have ne_h6_h7 : b6 ≠ b7 := by have := h6.lt; omega
  have sw6 := Stp.add ew6 hlow hB (Nat.le_of_eq qb7.symm) hb7.lt
  have h7 : MB w.heap.size (Rw.Add (Rw.Add (Rw.Add M b4) b6) b7) w6 b7 35 [.int .i64 0, .int .i64 0, .string ⟨#[]⟩] := MB.mk' hb7 qb7 hB
  replace h4 := h4.stp sw6 (ew6.block b4 h4.lt)
  replace h6 := h6.stp sw6 (ew6.block b6 h6.lt)
  replace hE := hE.trans sw6.below
  replace ht := Rep.stp ht sw6
  replace hk := hk.stp sw6
  replace h2 := h2.stp sw6
  replace hfi := hfi.stp sw6
  replace hen := Rep.stp hen sw6
  replace hkn := hkn.stp sw6
  replace hsub := fun b h => sw6.sub b (hsub b h)
  replace hlow := sw6.low
  replace hB := Nat.le_trans hB sw6.upd.1
  refine l_cons (o_st tbOk h7.box rfl rfl rfl rfl (by intro u hu; simp [Value.cells] at hu; rcases hu with rfl | rfl | rfl <;> rfl) rfl rfl ?_)
  intro w7 hw7 qw7 bew7
  have uw7 : UpdB _ _ _ := ⟨qw7, bew7⟩
  have sw7 := uw7.stp h7.inM hlow h7.ge
  have frw7 := qw7.2
  replace h4 := h4.stp sw7 (frw7 b4 h4.lt ne_h4_h7)
  replace h6 := h6.stp sw7 (frw7 b6 h6.lt ne_h6_h7)
  replace hE := hE.trans sw7.below
  replace ht := Rep.stp ht sw7
  replace hk := hk.stp sw7
  replace h2 := h2.stp sw7
  replace hfi := hfi.stp sw7
  replace hen := Rep.stp hen sw7
  replace hkn := hkn.stp sw7
  replace hsub := fun b h => sw7.sub b (hsub b h)
  replace hlow := sw7.low
  replace hB := Nat.le_trans hB sw7.upd.1
  replace h7 : MB w.heap.size _ w7 b7 _ [.int .i64 (0), .int .i64 (-1), .string ⟨#[]⟩] := ⟨hw7, h7.inM, h7.ge⟩
  refine l_nil ?_
  refine x_seq ?_
  refine c_seq ?_
  refine c_seq ?_
  refine c_reg ?_
  refine l_cons (o_p tbOk rfl rfl rfl ?_)
  refine l_nil ?_
  refine x_seq ?_
  refine c_blk ?_
  refine c_loop (X := Nat) (fun i => [(1, .string name), (4, .pointer (some ⟨b4, 0, none⟩)), (5, xv2), (6, .pointer (some ⟨b6, 0, none⟩)), (7, .pointer (some ⟨b7, 0, none⟩)), (8, .int .i64 (i : Nat))]) (fun i w' => i ≤ l.length ∧ MB w.heap.size (Rw.Add (Rw.Add (Rw.Add M b4) b6) b7) w' b4 35 [.int .i64 0, .int .i64 0, .string ⟨#[]⟩] ∧ MB w.heap.size (Rw.Add (Rw.Add (Rw.Add M b4) b6) b7) w' b6 40 [.int .u8 (flatF t).2.op, .string (flatF t).2.name, .int .i64 (flatF t).2.n, kvn] ∧ MB w.heap.size (Rw.Add (Rw.Add (Rw.Add M b4) b6) b7) w' b7 35 [.int .i64 (((lessN (l.take i) name : Nat) : Int)), .int .i64 (-1), .string ⟨#[]⟩] ∧ Sl (Rw.Add (Rw.Add (Rw.Add M b4) b6) b7) w' xv2 l ∧ Rep.R (Rw.Add (Rw.Add (Rw.Add M b4) b6) b7) w' (.agg #[.int .u8 (flatF t).2.op, .string (flatF t).2.name, .int .i64 (flatF t).2.n, kvn]) (flatF t).2 ∧ Low (Rw.Add (Rw.Add (Rw.Add M b4) b6) b7) w' ∧ (∀ b, M b → (Rw.Add (Rw.Add (Rw.Add M b4) b6) b7) b) ∧ Below w.heap.size w w' ∧ w.heap.size ≤ w'.heap.size) (fun i => l.length - i) (0) (subL_cons rfl (subL_cons rfl (subL_cons rfl (subL_cons rfl (subL_cons rfl (subL_cons rfl (subL_nil))))))) ?_ ?_
  · exact ⟨Nat.zero_le _, h4, h6, h7, hfi, hen, hlow, hsub, hE, hB⟩
  rintro i w8 ⟨hi, h4, h6, h7, hfi, hen, hlow, hsub, hE, hB⟩
  refine c_seq ?_
  refine c_seq ?_
  refine c_reg ?_
  refine l_cons (o_p tbOk rfl rfl rfl ?_)
  refine l_cons (o_p tbOk rfl rfl rfl ?_)
  refine l_cons (o_len tbOk hfi rfl rfl rfl rfl rfl ?_)
  refine l_cons (o_p tbOk rfl rfl rfl ?_)
  refine l_nil ?_
  refine x_seq ?_
  refine c_ifP _ rfl (fun hc => ?_) (fun hc => ?_)
  · have hil : i < l.length := by omega
    have hcl := lessN_take_le l i name
    refine c_skip ?_
    refine x_seq ?_
    refine c_seq ?_
    refine c_blk ?_
    refine c_seq ?_
    refine c_reg ?_
    refine l_cons (o_p tbOk rfl rfl rfl ?_)
    refine l_cons (o_p tbOk rfl rfl rfl ?_)
    refine l_cons (o_ixS tbOk hfi (List.getElem?_eq_getElem hil) rfl rfl rfl rfl rfl rfl rfl rfl rfl ?_)
    intro ebq eoq euq hrq hatq
    obtain ⟨szq, kvq, rfl, hyq⟩ := fld_open hrq
    replace hatq : At _ w8 ebq eoq [.string l[i].name, .int .u8 l[i].ty.op, .string l[i].ty.name, .int .i64 l[i].ty.n, kvq] := hatq
    refine l_cons (o_p tbOk rfl rfl rfl ?_)
    refine l_cons (o_ld tbOk (hatq.cell 0 _ rfl) rfl rfl rfl rfl rfl ?_)
    refine l_cons (o_p tbOk rfl rfl rfl ?_)
    refine l_cons (o_p tbOk rfl rfl rfl ?_)
    refine l_nil ?_
    refine x_seq ?_
    refine c_if _ rfl (fun hlt => ?_) (fun hlt => ?_)
    · rw [sLt_cmpN] at hlt
      replace hlt := of_decide_eq_true hlt
      refine c_reg ?_
      refine l_cons (o_p tbOk rfl rfl rfl ?_)
      refine l_cons (o_ld tbOk (h7.cell 0 _ rfl) rfl rfl rfl rfl rfl ?_)
      refine l_cons (o_ar rfl rfl rfl (IntWalk.i64_in _ (by omega)) rfl rfl ?_)
      refine l_cons (o_p tbOk rfl rfl rfl ?_)
      refine l_cons (o_st tbOk h7.box rfl rfl rfl rfl (by simp [Value.cells, Value.oneCell']) rfl rfl ?_)
      intro w9 hw9 qw9 bew9
      have uw9 : UpdB _ _ _ := ⟨qw9, bew9⟩
      have sw9 := uw9.stp h7.inM hlow h7.ge
      have frw9 := qw9.2
      replace h4 := h4.stp sw9 (frw9 b4 h4.lt ne_h4_h7)
      replace h6 := h6.stp sw9 (frw9 b6 h6.lt ne_h6_h7)
      replace hE := hE.trans sw9.below
      replace hfi := hfi.stp sw9
      replace hen := Rep.stp hen sw9
      replace hrq := Rep.stp hrq sw9
      replace hyq := Rep.stp hyq sw9
      replace hatq := hatq.stp sw9
      replace hsub := fun b h => sw9.sub b (hsub b h)
      replace hlow := sw9.low
      replace hB := Nat.le_trans hB sw9.upd.1
      replace h7 : MB w.heap.size _ w9 b7 _ [.int .i64 (((lessN (l.take i) name : Nat) : Int) + 1), .int .i64 (-1), .string ⟨#[]⟩] := ⟨hw9, h7.inM, h7.ge⟩
      refine l_nil ?_
      refine x_blk ?_
      refine x_seq ?_
      refine c_reg ?_
      refine l_cons (o_p tbOk rfl rfl rfl ?_)
      refine l_cons (o_ar rfl rfl rfl (IntWalk.i64_in _ (by omega)) rfl rfl ?_)
      refine l_cons (o_p tbOk rfl rfl rfl ?_)
      refine l_nil ?_
      exact x_round (i + 1) (subL_cons rfl (subL_cons rfl (subL_cons rfl (subL_cons rfl (subL_cons rfl (subL_cons (get_num rfl (by omega)) (subL_nil))))))) ⟨by omega, h4, h6, by rw [lessN_takeY hil hlt, show (((lessN (l.take i) name + 1 : Nat) : Int)) = ((lessN (l.take i) name : Nat) : Int) + 1 by omega]; exact h7, hfi, hen, hlow, hsub, hE, hB⟩ (by omega)
    rw [sLt_cmpN] at hlt
    replace hlt := of_decide_eq_false hlt
    refine c_skip ?_
    refine x_blk ?_
    refine x_seq ?_
    refine c_reg ?_
    refine l_cons (o_p tbOk rfl rfl rfl ?_)
    refine l_cons (o_ar rfl rfl rfl (IntWalk.i64_in _ (by omega)) rfl rfl ?_)
    refine l_cons (o_p tbOk rfl rfl rfl ?_)
    refine l_nil ?_
    exact x_round (i + 1) (subL_cons rfl (subL_cons rfl (subL_cons rfl (subL_cons rfl (subL_cons rfl (subL_cons (get_num rfl (by omega)) (subL_nil))))))) ⟨by omega, h4, h6, by rw [lessN_takeN hil hlt]; exact h7, hfi, hen, hlow, hsub, hE, hB⟩ (by omega)
  obtain rfl : i = l.length := by omega
  refine c_exit ?_
  refine x_seqE ?_
  refine x_seqE ?_
  refine x_blkE ?_
  refine x_seq ?_
  refine c_seq ?_
  refine c_seq ?_
  refine c_reg ?_
  refine l_cons (o_p tbOk rfl rfl rfl ?_)
  refine l_cons (o_ld tbOk (h6.cell 0 _ rfl) rfl rfl rfl rfl rfl ?_)
  refine l_cons (o_p tbOk rfl rfl rfl ?_)
  refine l_nil ?_
  refine x_seq ?_
  refine c_ifP _ rfl (fun hop => ?_) (fun hop => ?_)
  · refine c_seq ?_
    refine c_reg ?_
    refine l_cons (o_p tbOk rfl rfl rfl ?_)
    refine l_cons (o_ld tbOk (h6.cell 2 _ rfl) rfl rfl rfl rfl rfl ?_)
    refine l_cons (o_p tbOk rfl rfl rfl ?_)
    refine l_cons (o_st tbOk h7.box rfl rfl rfl rfl (by simp [Value.cells, Value.oneCell']) rfl rfl ?_)
    intro w10 hw10 qw10 bew10
    have uw10 : UpdB _ _ _ := ⟨qw10, bew10⟩
    have sw10 := uw10.stp h7.inM hlow h7.ge
    have frw10 := qw10.2
    replace h4 := h4.stp sw10 (frw10 b4 h4.lt ne_h4_h7)
    replace h6 := h6.stp sw10 (frw10 b6 h6.lt ne_h6_h7)
    replace hE := hE.trans sw10.below
    replace hfi := hfi.stp sw10
    replace hen := Rep.stp hen sw10
    replace hsub := fun b h => sw10.sub b (hsub b h)
    replace hlow := sw10.low
    replace hB := Nat.le_trans hB sw10.upd.1
    replace h7 : MB w.heap.size _ w10 b7 _ [.int .i64 (((lessN (l.take l.length) name : Nat) : Int)), .int .i64 ((flatF t).2.n), .string ⟨#[]⟩] := ⟨hw10, h7.inM, h7.ge⟩
    refine l_nil ?_
    refine x_seq ?_
    refine c_reg ?_
    refine l_cons (o_p tbOk rfl rfl rfl ?_)
    refine l_cons (o_p tbOk rfl rfl rfl ?_)
    refine l_cons (o_st tbOk h7.box rfl rfl rfl rfl (by simp [Value.cells, Value.oneCell']) rfl rfl ?_)
    intro w11 hw11 qw11 bew11
    have uw11 : UpdB _ _ _ := ⟨qw11, bew11⟩
    have sw11 := uw11.stp h7.inM hlow h7.ge
    have frw11 := qw11.2
    replace h4 := h4.stp sw11 (frw11 b4 h4.lt ne_h4_h7)
    replace h6 := h6.stp sw11 (frw11 b6 h6.lt ne_h6_h7)
    replace hE := hE.trans sw11.below
    replace hfi := hfi.stp sw11
    replace hen := Rep.stp hen sw11
    replace hsub := fun b h => sw11.sub b (hsub b h)
    replace hlow := sw11.low
    replace hB := Nat.le_trans hB sw11.upd.1
    replace h7 : MB w.heap.size _ w11 b7 _ [.int .i64 (((lessN (l.take l.length) name : Nat) : Int)), .int .i64 ((flatF t).2.n), .string name] := ⟨hw11, h7.inM, h7.ge⟩
    refine l_nil ?_
    refine x_seq ?_
    refine c_seq ?_
    refine c_reg ?_
    refine l_cons (o_lds tbOk (fun j v hv => h7.cell j v hv) rfl rfl rfl rfl rfl rfl ?_)
    refine l_cons (o_st tbOk h4.box rfl rfl rfl rfl (by intro u hu; simp [Value.cells] at hu; rcases hu with rfl | rfl | rfl <;> rfl) rfl rfl ?_)
    intro w12 hw12 qw12 bew12
    have uw12 : UpdB _ _ _ := ⟨qw12, bew12⟩
    have sw12 := uw12.stp h4.inM hlow h4.ge
    have frw12 := qw12.2
    replace h6 := h6.stp sw12 (frw12 b6 h6.lt ne_h4_h6.symm)
    replace h7 := h7.stp sw12 (frw12 b7 h7.lt ne_h4_h7.symm)
    replace hE := hE.trans sw12.below
    replace hfi := hfi.stp sw12
    replace hen := Rep.stp hen sw12
    replace hsub := fun b h => sw12.sub b (hsub b h)
    replace hlow := sw12.low
    replace hB := Nat.le_trans hB sw12.upd.1
    replace h4 : MB w.heap.size _ w12 b4 _ [.int .i64 (((lessN (l.take l.length) name : Nat) : Int)), .int .i64 ((flatF t).2.n), .string name] := ⟨hw12, h4.inM, h4.ge⟩
    refine l_nil ?_
    refine x_seq ?_
    refine c_ret ?_
    refine x_ret1s tbOk (fun j v hv => h4.cell j v hv) rfl rfl rfl rfl rfl ?_
    rw [List.take_of_length_le (Nat.le_refl _), ← el]
    rw [atP, decide_eq_true hop]
    exact ⟨rfl, hE⟩
  refine c_skip ?_
  refine x_seq ?_
  refine c_seq ?_
  refine c_reg ?_
  refine l_cons (o_lds tbOk (fun j v hv => h7.cell j v hv) rfl rfl rfl rfl rfl rfl ?_)
  refine l_cons (o_st tbOk h4.box rfl rfl rfl rfl (by intro u hu; simp [Value.cells] at hu; rcases hu with rfl | rfl | rfl <;> rfl) rfl rfl ?_)
  intro w13 hw13 qw13 bew13
  have uw13 : UpdB _ _ _ := ⟨qw13, bew13⟩
  have sw13 := uw13.stp h4.inM hlow h4.ge
  have frw13 := qw13.2
  replace h6 := h6.stp sw13 (frw13 b6 h6.lt ne_h4_h6.symm)
  replace h7 := h7.stp sw13 (frw13 b7 h7.lt ne_h4_h7.symm)
  replace hE := hE.trans sw13.below
  replace hfi := hfi.stp sw13
  replace hen := Rep.stp hen sw13
  replace hsub := fun b h => sw13.sub b (hsub b h)
  replace hlow := sw13.low
  replace hB := Nat.le_trans hB sw13.upd.1
  replace h4 : MB w.heap.size _ w13 b4 _ [.int .i64 (((lessN (l.take l.length) name : Nat) : Int)), .int .i64 (-1), .string ⟨#[]⟩] := ⟨hw13, h4.inM, h4.ge⟩
  refine l_nil ?_
  refine x_seq ?_
  refine c_ret ?_
  refine x_ret1s tbOk (fun j v hv => h4.cell j v hv) rfl rfl rfl rfl rfl ?_
  rw [List.take_of_length_le (Nat.le_refl _), ← el]
  rw [atP, decide_eq_false hop]
  exact ⟨rfl, hE⟩

/-- The document's Nth. -/
theorem refNth_spec (t : Ty) (name : ByteArray) (n : Int) (M : Nat → Prop) (w : World) (v : Value) (ht : Rep.R M w v t) (hnm : name.size < 140737488355328) (hn : I64 n) (hlow0 : Low M w) (hsz : psz t ≤ 2000000) :
    Calls Try.prog 19 #[v, .string name, .int .i64 n] w (Ret fun r w' => r = .tuple #[.agg #[.int .i64 ((nthF t name n).1.base), .int .i64 ((nthF t name n).1.var), .string (nthF t name n).1.name], .int .i64 (nthF t name n).2] ∧ Ext w w') := by
  have hlow := hlow0
  have hB : w.heap.size ≤ w.heap.size := Nat.le_refl _
  have hE : Below w.heap.size w w := Below.refl _ _
  have hsub : ∀ b, M b → M b := fun _ h => h
  obtain ⟨kv, rfl, op, nm, n64, hk⟩ := ty_open ht
  have hn1 := hn.1
  have hn2 := hn.2
  refine c_enter (n := 44) Try.func19 rfl rfl rfl ?_
  refine c_seq ?_
  refine c_reg ?_
  refine l_cons (o_box rfl rfl rfl ?_)
  intro b3 w1 hb_b3 ew1 h3
  replace h3 : Box _ b3 40 [.int .u8 t.op, .string t.name, .int .i64 t.n, kv] := h3
  replace h3 := h3.at (nM_of hlow hb_b3)
  replace hE := hE.trans (Below.mono ew1 hB)
  replace ht := Rep.ext ht ew1
  replace hk := hk.ext ew1
  replace hlow := hlow.ext ew1
  replace hB := Nat.le_trans hB ew1.size
  refine l_cons (o_new tbOk rfl rfl rfl ?_)
  intro b6 w2 qb6 ew2 hb6
  have sw2 := Stp.add ew2 hlow hB (Nat.le_of_eq qb6.symm) hb6.lt
  have h6 : MB w.heap.size (Rw.Add M b6) w2 b6 35 [.int .i64 0, .int .i64 0, .string ⟨#[]⟩] := MB.mk' hb6 qb6 hB
  replace hE := hE.trans sw2.below
  replace ht := Rep.stp ht sw2
  replace hk := hk.stp sw2
  replace h3 := h3.stp sw2
  replace hsub := fun b h => sw2.sub b (hsub b h)
  replace hlow := sw2.low
  replace hB := Nat.le_trans hB sw2.upd.1
  refine l_cons (o_p tbOk rfl rfl rfl ?_)
  refine l_nil ?_
  refine x_seq ?_
  refine c_seq ?_
  refine c_seq ?_
  refine c_reg ?_
  refine l_cons (o_lds tbOk (fun j v hv => h3.cell j v hv) rfl rfl rfl rfl rfl rfl ?_)
  refine l_cons (o_call fo20 rfl rfl rfl (refRow_spec t _ _ _ ht hlow hsz) ?_)
  rintro _ w3 ⟨rfl, ew3⟩
  replace h6 := h6.ext hlow hB ew3
  replace hE := hE.trans (Below.mono ew3 hB)
  replace ht := Rep.ext ht ew3
  replace hk := hk.ext ew3
  replace h3 := h3.ext ew3
  replace hlow := hlow.ext ew3
  replace hB := Nat.le_trans hB ew3.size
  refine l_cons (o_p tbOk rfl rfl rfl ?_)
  refine l_cons (o_p tbOk rfl rfl rfl ?_)
  refine l_splitB 14 _ rfl (fun crow => ?_) (fun crow => ?_)
  · have hg : (rowB t && isWordB name) = false := by rw [crow]; rfl
    refine l_cons (o_skip rfl rfl ?_)
    refine l_cons (o_skip rfl rfl ?_)
    refine l_cons (o_skip rfl rfl ?_)
    refine l_cons (o_p tbOk rfl rfl rfl ?_)
    refine l_nil ?_
    refine x_seq ?_
    refine c_ifT rfl ?_
    refine c_seq ?_
    refine c_reg ?_
    refine l_cons (o_build (cells := [.int .i64 0, .int .i64 0, .string ⟨#[]⟩]) (css := []) bd35 rfl rfl rfl rfl rfl ?_)
    refine l_cons (o_st tbOk h6.box rfl rfl rfl rfl (by intro u hu; simp [Value.cells] at hu; rcases hu with rfl | rfl | rfl <;> rfl) rfl rfl ?_)
    intro w4 hw4 qw4 bew4
    have uw4 : UpdB _ _ _ := ⟨qw4, bew4⟩
    have sw4 := uw4.stp h6.inM hlow h6.ge
    have frw4 := qw4.2
    replace hE := hE.trans sw4.below
    replace ht := Rep.stp ht sw4
    replace hk := hk.stp sw4
    replace h3 := h3.stp sw4
    replace hsub := fun b h => sw4.sub b (hsub b h)
    replace hlow := sw4.low
    replace hB := Nat.le_trans hB sw4.upd.1
    replace h6 : MB w.heap.size _ w4 b6 _ [.int .i64 0, .int .i64 0, .string ⟨#[]⟩] := ⟨hw4, h6.inM, h6.ge⟩
    refine l_cons (o_p tbOk rfl rfl rfl ?_)
    refine l_nil ?_
    refine x_seq ?_
    refine c_ret ?_
    refine x_seqR ?_
    refine x_ret2st tbOk (fun j v hv => h6.cell j v hv) rfl rfl rfl rfl rfl rfl ?_
    rw [nthF_bad hg]
    exact ⟨rfl, hE⟩
  refine l_cons (o_p tbOk rfl rfl rfl ?_)
  refine l_cons (o_call fo23 rfl rfl rfl (risWord_spec _ _ name hnm hlow) ?_)
  rintro _ w5 ⟨rfl, ew5⟩
  replace h6 := h6.ext hlow hB ew5
  replace hE := hE.trans (Below.mono ew5 hB)
  replace ht := Rep.ext ht ew5
  replace hk := hk.ext ew5
  replace h3 := h3.ext ew5
  replace hlow := hlow.ext ew5
  replace hB := Nat.le_trans hB ew5.size
  refine l_cons (o_p tbOk rfl rfl rfl ?_)
  refine l_cons (o_p tbOk rfl rfl rfl ?_)
  refine l_nil ?_
  refine x_seq ?_
  refine c_ifB _ rfl (fun cwd => ?_) (fun cwd => ?_)
  · have hg : (rowB t && isWordB name) = false := by rw [crow, cwd]; rfl
    refine c_seq ?_
    refine c_reg ?_
    refine l_cons (o_build (cells := [.int .i64 0, .int .i64 0, .string ⟨#[]⟩]) (css := []) bd35 rfl rfl rfl rfl rfl ?_)
    refine l_cons (o_st tbOk h6.box rfl rfl rfl rfl (by intro u hu; simp [Value.cells] at hu; rcases hu with rfl | rfl | rfl <;> rfl) rfl rfl ?_)
    intro w6 hw6 qw6 bew6
    have uw6 : UpdB _ _ _ := ⟨qw6, bew6⟩
    have sw6 := uw6.stp h6.inM hlow h6.ge
    have frw6 := qw6.2
    replace hE := hE.trans sw6.below
    replace ht := Rep.stp ht sw6
    replace hk := hk.stp sw6
    replace h3 := h3.stp sw6
    replace hsub := fun b h => sw6.sub b (hsub b h)
    replace hlow := sw6.low
    replace hB := Nat.le_trans hB sw6.upd.1
    replace h6 : MB w.heap.size _ w6 b6 _ [.int .i64 0, .int .i64 0, .string ⟨#[]⟩] := ⟨hw6, h6.inM, h6.ge⟩
    refine l_cons (o_p tbOk rfl rfl rfl ?_)
    refine l_nil ?_
    refine x_seq ?_
    refine c_ret ?_
    refine x_seqR ?_
    refine x_ret2st tbOk (fun j v hv => h6.cell j v hv) rfl rfl rfl rfl rfl rfl ?_
    rw [nthF_bad hg]
    exact ⟨rfl, hE⟩
  have hg : (rowB t && isWordB name) = true := by rw [crow, cwd]; rfl
  have e1 : flatF t = (fieldsF (spineF t).1, (spineF t).2) := by rw [flatF, crow]; rfl
  have hsh : shapeF t 114 = true := by have h := crow; unfold rowB at h; rw [Bool.and_eq_true] at h; exact h.1
  refine c_skip ?_
  refine x_seq ?_
  refine c_seq ?_
  refine c_reg ?_
  refine l_cons (o_lds tbOk (fun j v hv => h3.cell j v hv) rfl rfl rfl rfl rfl rfl ?_)
  refine l_cons (o_call fo21 rfl rfl rfl (fields_spec t _ _ _ hsh ht hlow hsz) ?_)
  rintro _ w7 ⟨⟨xv2, tv2, rfl, hfi, hen⟩, ew7⟩
  rw [show fieldsF (spineF t).1 = (flatF t).1 by rw [e1]] at hfi
  rw [show (spineF t).2 = (flatF t).2 by rw [e1]] at hen
  replace h6 := h6.ext hlow hB ew7
  replace hE := hE.trans (Below.mono ew7 hB)
  replace ht := Rep.ext ht ew7
  replace hk := hk.ext ew7
  replace h3 := h3.ext ew7
  replace hlow := hlow.ext ew7
  replace hB := Nat.le_trans hB ew7.size
  obtain ⟨l, el⟩ : ∃ l, (flatF t).1 = l := ⟨_, rfl⟩
  rw [el] at hfi
  have hsr : Srt l := el ▸ flatF_srt t
  have hlen : l.length ≤ 2000000 := by have := flatF_len t; rw [el] at this; omega
  obtain ⟨kvn, rfl, opn, nmn, n64n, hkn⟩ := ty_open hen
  have hle := cntN_le l name
  have hl2 := lessN_le l name
  have eb : (atP (flatF t).1 (flatF t).2 name).base = (lessN l name : Nat) := by rw [← el]; rfl
  refine l_cons (o_p tbOk rfl rfl rfl ?_)
  refine l_cons (o_p tbOk rfl rfl rfl ?_)
  refine l_cons (o_p tbOk rfl rfl rfl ?_)
  refine l_cons (o_new tbOk rfl rfl rfl ?_)
  intro b9 w8 qb9 ew8 hb9
  have ne_h6_h9 : b6 ≠ b9 := by have := h6.lt; omega
  have sw8 := Stp.add ew8 hlow hB (Nat.le_of_eq qb9.symm) hb9.lt
  have h9 : MB w.heap.size (Rw.Add (Rw.Add M b6) b9) w8 b9 40 [.int .u8 0, .string ⟨#[]⟩, .int .i64 0, .slice none 0 0] := MB.mk' hb9 qb9 hB
  replace h6 := h6.stp sw8 (ew8.block b6 h6.lt)
  replace hE := hE.trans sw8.below
  replace ht := Rep.stp ht sw8
  replace hk := hk.stp sw8
  replace h3 := h3.stp sw8
  replace hfi := hfi.stp sw8
  replace hen := Rep.stp hen sw8
  replace hkn := hkn.stp sw8
  replace hsub := fun b h => sw8.sub b (hsub b h)
  replace hlow := sw8.low
  replace hB := Nat.le_trans hB sw8.upd.1
  refine l_cons (o_p tbOk rfl rfl rfl ?_)
  refine l_cons (o_st tbOk h9.box rfl rfl rfl rfl (Rep.one hen) rfl rfl ?_)
  intro w9 hw9 qw9 bew9
  have uw9 : UpdB _ _ _ := ⟨qw9, bew9⟩
  have sw9 := uw9.stp h9.inM hlow h9.ge
  have frw9 := qw9.2
  replace h6 := h6.stp sw9 (frw9 b6 h6.lt ne_h6_h9)
  replace hE := hE.trans sw9.below
  replace ht := Rep.stp ht sw9
  replace hk := hk.stp sw9
  replace h3 := h3.stp sw9
  replace hfi := hfi.stp sw9
  replace hen := Rep.stp hen sw9
  replace hkn := hkn.stp sw9
  replace hsub := fun b h => sw9.sub b (hsub b h)
  replace hlow := sw9.low
  replace hB := Nat.le_trans hB sw9.upd.1
  replace h9 : MB w.heap.size _ w9 b9 _ [.int .u8 (flatF t).2.op, .string (flatF t).2.name, .int .i64 (flatF t).2.n, kvn] := ⟨hw9, h9.inM, h9.ge⟩
  refine l_nil ?_
  refine x_seq ?_
  refine c_seq ?_
  refine c_seq ?_
  refine c_reg ?_
  refine l_cons (o_p tbOk rfl rfl rfl ?_)
  refine l_cons (o_p tbOk rfl rfl rfl ?_)
  refine l_cons (o_p tbOk rfl rfl rfl ?_)
  refine l_splitP 27 _ rfl (fun hneg => ?_) (fun hneg => ?_)
  · refine l_cons (o_skip rfl rfl ?_)
    refine l_cons (o_skip rfl rfl ?_)
    refine l_cons (o_skip rfl rfl ?_)
    refine l_cons (o_skip rfl rfl ?_)
    refine l_cons (o_skip rfl rfl ?_)
    refine l_cons (o_p tbOk rfl rfl rfl ?_)
    refine l_nil ?_
    refine x_seq ?_
    refine c_ifT rfl ?_
    refine c_seq ?_
    refine c_reg ?_
    refine l_cons (o_build (cells := [.int .i64 0, .int .i64 0, .string ⟨#[]⟩]) (css := []) bd35 rfl rfl rfl rfl rfl ?_)
    refine l_cons (o_st tbOk h6.box rfl rfl rfl rfl (by intro u hu; simp [Value.cells] at hu; rcases hu with rfl | rfl | rfl <;> rfl) rfl rfl ?_)
    intro w10 hw10 qw10 bew10
    have uw10 : UpdB _ _ _ := ⟨qw10, bew10⟩
    have sw10 := uw10.stp h6.inM hlow h6.ge
    have frw10 := qw10.2
    replace h9 := h9.stp sw10 (frw10 b9 h9.lt ne_h6_h9.symm)
    replace hE := hE.trans sw10.below
    replace ht := Rep.stp ht sw10
    replace hk := hk.stp sw10
    replace h3 := h3.stp sw10
    replace hfi := hfi.stp sw10
    replace hen := Rep.stp hen sw10
    replace hkn := hkn.stp sw10
    replace hsub := fun b h => sw10.sub b (hsub b h)
    replace hlow := sw10.low
    replace hB := Nat.le_trans hB sw10.upd.1
    replace h6 : MB w.heap.size _ w10 b6 _ [.int .i64 0, .int .i64 0, .string ⟨#[]⟩] := ⟨hw10, h6.inM, h6.ge⟩
    refine l_cons (o_p tbOk rfl rfl rfl ?_)
    refine l_nil ?_
    refine x_seq ?_
    refine c_ret ?_
    refine x_seqR ?_
    refine x_ret2st tbOk (fun j v hv => h6.cell j v hv) rfl rfl rfl rfl rfl rfl ?_
    have e2 := nthF_none (n := n) hg (by rw [el]; exact fun h => by omega)
    rw [e2]
    exact ⟨rfl, hE⟩
  refine l_cons (o_p tbOk rfl rfl rfl ?_)
  refine l_cons (o_p tbOk rfl rfl rfl ?_)
  refine l_cons (o_call fo22 rfl rfl rfl (count_spec l name _ _ _ hfi hlow) ?_)
  rintro _ w11 ⟨rfl, ew11⟩
  replace h6 := h6.ext hlow hB ew11
  replace h9 := h9.ext hlow hB ew11
  replace hE := hE.trans (Below.mono ew11 hB)
  replace ht := Rep.ext ht ew11
  replace hk := hk.ext ew11
  replace h3 := h3.ext ew11
  replace hfi := hfi.ext ew11
  replace hen := Rep.ext hen ew11
  replace hkn := hkn.ext ew11
  replace hlow := hlow.ext ew11
  replace hB := Nat.le_trans hB ew11.size
  refine l_cons (o_p tbOk rfl rfl rfl ?_)
  refine l_cons (o_p tbOk rfl rfl rfl ?_)
  refine l_cons (o_p tbOk rfl rfl rfl ?_)
  refine l_nil ?_
  refine x_seq ?_
  refine c_ifP _ rfl (fun hcn => ?_) (fun hcn => ?_)
  · refine c_seq ?_
    refine c_reg ?_
    refine l_cons (o_build (cells := [.int .i64 0, .int .i64 0, .string ⟨#[]⟩]) (css := []) bd35 rfl rfl rfl rfl rfl ?_)
    refine l_cons (o_st tbOk h6.box rfl rfl rfl rfl (by intro u hu; simp [Value.cells] at hu; rcases hu with rfl | rfl | rfl <;> rfl) rfl rfl ?_)
    intro w12 hw12 qw12 bew12
    have uw12 : UpdB _ _ _ := ⟨qw12, bew12⟩
    have sw12 := uw12.stp h6.inM hlow h6.ge
    have frw12 := qw12.2
    replace h9 := h9.stp sw12 (frw12 b9 h9.lt ne_h6_h9.symm)
    replace hE := hE.trans sw12.below
    replace ht := Rep.stp ht sw12
    replace hk := hk.stp sw12
    replace h3 := h3.stp sw12
    replace hfi := hfi.stp sw12
    replace hen := Rep.stp hen sw12
    replace hkn := hkn.stp sw12
    replace hsub := fun b h => sw12.sub b (hsub b h)
    replace hlow := sw12.low
    replace hB := Nat.le_trans hB sw12.upd.1
    replace h6 : MB w.heap.size _ w12 b6 _ [.int .i64 0, .int .i64 0, .string ⟨#[]⟩] := ⟨hw12, h6.inM, h6.ge⟩
    refine l_cons (o_p tbOk rfl rfl rfl ?_)
    refine l_nil ?_
    refine x_seq ?_
    refine c_ret ?_
    refine x_seqR ?_
    refine x_ret2st tbOk (fun j v hv => h6.cell j v hv) rfl rfl rfl rfl rfl rfl ?_
    have e2 := nthF_none (n := n) hg (by rw [el]; exact fun h => by omega)
    rw [e2]
    exact ⟨rfl, hE⟩
  refine c_skip ?_
  refine x_seq ?_
  refine c_seq ?_
  refine c_reg ?_
  refine l_cons (o_lds tbOk (fun j v hv => h3.cell j v hv) rfl rfl rfl rfl rfl rfl ?_)
  refine l_cons (o_p tbOk rfl rfl rfl ?_)
  refine l_cons (o_call fo24 rfl rfl rfl (refAt_spec t name _ _ _ crow ht hnm hlow hsz) ?_)
  rintro _ w13 ⟨rfl, ew13⟩
  replace h6 := h6.ext hlow hB ew13
  replace h9 := h9.ext hlow hB ew13
  replace hE := hE.trans (Below.mono ew13 hB)
  replace ht := Rep.ext ht ew13
  replace hk := hk.ext ew13
  replace h3 := h3.ext ew13
  replace hfi := hfi.ext ew13
  replace hen := Rep.ext hen ew13
  replace hkn := hkn.ext ew13
  replace hlow := hlow.ext ew13
  replace hB := Nat.le_trans hB ew13.size
  refine l_cons (o_new tbOk rfl rfl rfl ?_)
  intro b10 w14 qb10 ew14 hb10
  have ne_h6_h10 : b6 ≠ b10 := by have := h6.lt; omega
  have ne_h9_h10 : b9 ≠ b10 := by have := h9.lt; omega
  have sw14 := Stp.add ew14 hlow hB (Nat.le_of_eq qb10.symm) hb10.lt
  have h10 : MB w.heap.size (Rw.Add (Rw.Add (Rw.Add M b6) b9) b10) w14 b10 35 [.int .i64 0, .int .i64 0, .string ⟨#[]⟩] := MB.mk' hb10 qb10 hB
  replace h6 := h6.stp sw14 (ew14.block b6 h6.lt)
  replace h9 := h9.stp sw14 (ew14.block b9 h9.lt)
  replace hE := hE.trans sw14.below
  replace ht := Rep.stp ht sw14
  replace hk := hk.stp sw14
  replace h3 := h3.stp sw14
  replace hfi := hfi.stp sw14
  replace hen := Rep.stp hen sw14
  replace hkn := hkn.stp sw14
  replace hsub := fun b h => sw14.sub b (hsub b h)
  replace hlow := sw14.low
  replace hB := Nat.le_trans hB sw14.upd.1
  refine l_cons (o_st tbOk h10.box rfl rfl rfl rfl (by intro u hu; simp [Value.cells] at hu; rcases hu with rfl | rfl | rfl <;> rfl) rfl rfl ?_)
  intro w15 hw15 qw15 bew15
  have uw15 : UpdB _ _ _ := ⟨qw15, bew15⟩
  have sw15 := uw15.stp h10.inM hlow h10.ge
  have frw15 := qw15.2
  replace h6 := h6.stp sw15 (frw15 b6 h6.lt ne_h6_h10)
  replace h9 := h9.stp sw15 (frw15 b9 h9.lt ne_h9_h10)
  replace hE := hE.trans sw15.below
  replace ht := Rep.stp ht sw15
  replace hk := hk.stp sw15
  replace h3 := h3.stp sw15
  replace hfi := hfi.stp sw15
  replace hen := Rep.stp hen sw15
  replace hkn := hkn.stp sw15
  replace hsub := fun b h => sw15.sub b (hsub b h)
  replace hlow := sw15.low
  replace hB := Nat.le_trans hB sw15.upd.1
  replace h10 : MB w.heap.size _ w15 b10 _ [.int .i64 ((atP (flatF t).1 (flatF t).2 name).base), .int .i64 ((atP (flatF t).1 (flatF t).2 name).var), .string (atP (flatF t).1 (flatF t).2 name).name] := ⟨hw15, h10.inM, h10.ge⟩
  refine l_nil ?_
  refine x_seq ?_
  refine c_seq ?_
  refine c_reg ?_
  refine l_cons (o_p tbOk rfl rfl rfl ?_)
  refine l_cons (o_ld tbOk (h10.cell 0 _ rfl) rfl rfl rfl rfl rfl ?_)
  refine l_cons (o_p tbOk rfl rfl rfl ?_)
  refine l_cons (o_ar rfl rfl rfl (IntWalk.i64_in _ (by omega)) rfl rfl ?_)
  refine l_cons (o_p tbOk rfl rfl rfl ?_)
  refine l_cons (o_st tbOk h10.box rfl rfl rfl rfl (by simp [Value.cells, Value.oneCell']) rfl rfl ?_)
  intro w16 hw16 qw16 bew16
  have uw16 : UpdB _ _ _ := ⟨qw16, bew16⟩
  have sw16 := uw16.stp h10.inM hlow h10.ge
  have frw16 := qw16.2
  replace h6 := h6.stp sw16 (frw16 b6 h6.lt ne_h6_h10)
  replace h9 := h9.stp sw16 (frw16 b9 h9.lt ne_h9_h10)
  replace hE := hE.trans sw16.below
  replace ht := Rep.stp ht sw16
  replace hk := hk.stp sw16
  replace h3 := h3.stp sw16
  replace hfi := hfi.stp sw16
  replace hen := Rep.stp hen sw16
  replace hkn := hkn.stp sw16
  replace hsub := fun b h => sw16.sub b (hsub b h)
  replace hlow := sw16.low
  replace hB := Nat.le_trans hB sw16.upd.1
  replace h10 : MB w.heap.size _ w16 b10 _ [.int .i64 ((atP (flatF t).1 (flatF t).2 name).base + n), .int .i64 ((atP (flatF t).1 (flatF t).2 name).var), .string (atP (flatF t).1 (flatF t).2 name).name] := ⟨hw16, h10.inM, h10.ge⟩
  refine l_nil ?_
  refine x_seq ?_
  refine c_seq ?_
  refine c_reg ?_
  refine l_cons (o_lds tbOk (fun j v hv => h10.cell j v hv) rfl rfl rfl rfl rfl rfl ?_)
  refine l_cons (o_st tbOk h6.box rfl rfl rfl rfl (by intro u hu; simp [Value.cells] at hu; rcases hu with rfl | rfl | rfl <;> rfl) rfl rfl ?_)
  intro w17 hw17 qw17 bew17
  have uw17 : UpdB _ _ _ := ⟨qw17, bew17⟩
  have sw17 := uw17.stp h6.inM hlow h6.ge
  have frw17 := qw17.2
  replace h9 := h9.stp sw17 (frw17 b9 h9.lt ne_h6_h9.symm)
  replace h10 := h10.stp sw17 (frw17 b10 h10.lt ne_h6_h10.symm)
  replace hE := hE.trans sw17.below
  replace ht := Rep.stp ht sw17
  replace hk := hk.stp sw17
  replace h3 := h3.stp sw17
  replace hfi := hfi.stp sw17
  replace hen := Rep.stp hen sw17
  replace hkn := hkn.stp sw17
  replace hsub := fun b h => sw17.sub b (hsub b h)
  replace hlow := sw17.low
  replace hB := Nat.le_trans hB sw17.upd.1
  replace h6 : MB w.heap.size _ w17 b6 _ [.int .i64 ((atP (flatF t).1 (flatF t).2 name).base + n), .int .i64 ((atP (flatF t).1 (flatF t).2 name).var), .string (atP (flatF t).1 (flatF t).2 name).name] := ⟨hw17, h6.inM, h6.ge⟩
  refine l_cons (o_p tbOk rfl rfl rfl ?_)
  refine l_nil ?_
  refine x_seq ?_
  refine c_ret ?_
  refine x_ret2st tbOk (fun j v hv => h6.cell j v hv) rfl rfl rfl rfl rfl rfl ?_
  have e2 := nthF_some (n := n) hg (by rw [el]; exact ⟨by omega, by omega⟩)
  rw [e2]
  exact ⟨rfl, hE⟩

end Go.Proofs.Ytohfnpmehgpphaa
