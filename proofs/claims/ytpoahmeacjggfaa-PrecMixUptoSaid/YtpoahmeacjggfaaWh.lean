/- Walks: a row's fields and its tail. Printed by wip/walks/kinds8.py. -/
import Derived.Test.YtpoahmeacjggfaaWg
import Derived.Test.YtpoahmeacjggfaaWe
import Derived.Test.YtpoahmeacjggfaaWd
import Derived.Test.YtpoahmeacjggfaaPlainF
namespace Go.Proofs.Ytpoahmeacjggfaa
open Go Rw Go.RowKit
set_option maxRecDepth 100000

/-- flat: a row's fields, sorted, and its tail, as they are. -/
theorem flat_spec (t : Ty) (M : Nat → Prop) (w : World) (v : Value) (hsh : shapeF t 114 = true) (ht : Rep.R M w v t) (hlow0 : Low M w) (hsz : psz t ≤ 2000000) :
    Calls Try.prog 69 #[v] w (Ret fun r w' => ∃ x tv M', r = .tuple #[x, tv] ∧ OwnSl 32 w.heap.size M' w' x (fieldsF (spineF t).1) ∧ Rep.R M' w' tv (spineF t).2 ∧ Stp w.heap.size M M' w w') := by
  have hlow := hlow0
  have hB : w.heap.size ≤ w.heap.size := Nat.le_refl _
  have hE : Below w.heap.size w w := Below.refl _ _
  have hsub : ∀ b, M b → M b := fun _ h => h
  obtain ⟨kv, rfl, op, nm, n64, hk⟩ := ty_open ht
  have hT : Stp w.heap.size M M w w := Stp.refl hlow
  have hsl := spine_len t
  refine c_enter (n := 26) Try.func69 rfl rfl rfl ?_
  refine q0 ?_
  refine l_cons (o_box rfl rfl rfl ?_)
  intro b1 w1 qb1 ew1 hb1
  have sw1 := Stp.add ew1 hlow hB (Nat.le_of_eq qb1.symm) hb1.lt
  have h1 : MB w.heap.size (Rw.Add M b1) w1 b1 25 [.int .u8 t.op, .string t.name, .int .i64 t.n, kv] := MB.mk' hb1 qb1 hB
  replace hT := hT.then sw1
  replace hE := hE.trans sw1.below
  replace ht := Rep.stp ht sw1
  replace hk := hk.stp sw1
  replace hsub := fun b h => sw1.sub b (hsub b h)
  replace hlow := sw1.low
  replace hB := Nat.le_trans hB sw1.upd.1
  refine l_p 1 tbOk rfl ?_
  refine l_cons (o_new tbOk rfl rfl rfl ?_)
  intro b3 w2 qb3 ew2 hb3
  have ne_h1_h3 : b1 ≠ b3 := by have := h1.lt; omega
  have sw2 := Stp.add ew2 hlow hB (Nat.le_of_eq qb3.symm) hb3.lt
  have h3 : MB w.heap.size (Rw.Add (Rw.Add M b1) b3) w2 b3 25 [.int .u8 0, .string ⟨#[]⟩, .int .i64 0, .slice none 0 0] := MB.mk' hb3 qb3 hB
  replace hT := hT.then sw2
  replace h1 := h1.stp sw2 (ew2.block b1 h1.lt)
  replace hE := hE.trans sw2.below
  replace ht := Rep.stp ht sw2
  replace hk := hk.stp sw2
  replace hsub := fun b h => sw2.sub b (hsub b h)
  replace hlow := sw2.low
  replace hB := Nat.le_trans hB sw2.upd.1
  refine q1 (q0 (l_p 1 tbOk rfl (q1 (c_seq (c_blk ?_)))))
  have d_ho_h1 : ∀ x, (.slice none 0 0 : Value).ownBlock = some x → x ≠ b1 := fun x hx => by simp [Value.ownBlock] at hx
  have d_ho_h3 : ∀ x, (.slice none 0 0 : Value).ownBlock = some x → x ≠ b3 := fun x hx => by simp [Value.ownBlock] at hx
  refine c_loop5 (X := Ty) (Y := Value) (Z := Value) (U := Nat → Prop) (V := List Fld) (fun t2 kv v M1 acc => [(1, .pointer (some ⟨b1, 0, none⟩)), (3, .pointer (some ⟨b3, 0, none⟩)), (4, v)]) (fun t2 kv v M1 acc w' => shapeF t2 114 = true ∧ acc ++ (spineF t2).1 = (spineF t).1 ∧ (spineF t2).2 = (spineF t).2 ∧ (0 ≤ t2.op ∧ t2.op ≤ 255) ∧ t2.name.size < 140737488355328 ∧ I64 t2.n ∧ OwnSl 32 w.heap.size M1 w' v acc ∧ MB w.heap.size M1 w' b1 25 [.int .u8 t2.op, .string t2.name, .int .i64 t2.n, kv] ∧ MB w.heap.size M1 w' b3 25 [.int .u8 0, .string ⟨#[]⟩, .int .i64 0, .slice none 0 0] ∧ (∀ x, (v : Value).ownBlock = some x → x ≠ b1) ∧ (∀ x, (v : Value).ownBlock = some x → x ≠ b3) ∧ Sl M1 w' kv t2.kids ∧ Stp w.heap.size M M1 w w' ∧ Low M1 w' ∧ (∀ b, M b → M1 b) ∧ Below w.heap.size w w' ∧ w.heap.size ≤ w'.heap.size) (fun t2 kv v M1 acc => psz t2) (t) (kv) (.slice none 0 0) ((Rw.Add (Rw.Add M b1) b3)) ([]) (s3 rfl rfl rfl) ?_ ?_
  · exact ⟨hsh, rfl, rfl, op, nm, n64, own_nil, h1, h3, d_ho_h1, d_ho_h3, hk, hT, hlow, hsub, hE, hB⟩
  clear hk
  rintro t2 kv v M1 acc w3 ⟨hs2, hacc, htl, op2, nm2, n2, ho, h1, h3, d_ho_h1, d_ho_h3, hk, hT, hlow, hsub, hE, hB⟩
  refine c_seq (q0 (l_p 1 tbOk rfl ?_))
  refine l_cons (o_ld tbOk (h1.cell 0 _ rfl) rfl rfl rfl rfl rfl ?_)
  refine l_p 1 tbOk rfl (q1 ?_)
  refine c_ifP _ rfl (fun hc => ?_) (fun hc => ?_)
  · obtain ⟨k, r, hks, hsk, hsr⟩ := shape_row hs2 (by omega)
    have hsp := spine_yes (by omega) hks
    have hlen : acc.length < (spineF t).1.length := by rw [← hacc, hsp, List.length_append, List.length_cons]; omega
    refine c_skip (x_seq (c_blk (c_seq ?_)))
    refine a_beg Ext rfl ?_
    intro w4 ew4
    replace hT := hT.then (Stp.ext ew4 hlow hB)
    replace ho := ho.ext hlow hB ew4
    replace h1 := h1.ext hlow hB ew4
    replace h3 := h3.ext hlow hB ew4
    replace hE := hE.trans (Below.mono ew4 hB)
    replace hk := hk.ext ew4
    replace hlow := hlow.ext ew4
    replace hB := Nat.le_trans hB ew4.size
    have hS : Ext w4 w4 := ext_refl _
    have D_h1 := h1.box
    have D_h3 := h3.box
    have D_hk := hk
    refine a_p 0 tbOk rfl rfl rfl rfl (by kernel_rfl) (fun _ _ _ h => h) hS ?_
    refine a_p 1 tbOk rfl rfl rfl rfl (by kernel_rfl) (fun _ _ _ h => h) hS ?_
    refine a_ld 2 tbOk (fun _ hs => (D_h1.ext hs).cell 1 _ rfl) rfl rfl rfl rfl rfl rfl (by kernel_rfl) (fun _ _ _ h => h) hS ?_
    refine a_p 3 tbOk rfl rfl rfl rfl (by kernel_rfl) (fun _ _ _ h => h) hS ?_
    refine a_ld 4 tbOk (fun _ hs => (D_h1.ext hs).cell 3 _ rfl) rfl rfl rfl rfl rfl rfl (by kernel_rfl) (fun _ _ _ h => h) hS ?_
    refine a_ixS 5 tbOk D_hk (show t2.kids[0]? = some k by rw [hks]; rfl) rfl rfl rfl rfl rfl rfl rfl rfl rfl rfl (by kernel_rfl) (fun _ _ _ _ h => h) hS ?_
    intro ebx eox eux hyx hatx
    obtain ⟨kvx, rfl, opx, nmx, n64x, hkx⟩ := ty_open hyx
    replace hatx : At M1 w4 ebx eox [.int .u8 k.op, .string k.name, .int .i64 k.n, kvx] := hatx
    refine a_lds 6 tbOk (fun _ hs j v hv => (hatx.ext hs).cell j v hv) rfl rfl rfl rfl rfl rfl rfl (by kernel_rfl) (fun _ _ _ h => h) hS ?_
    refine a_build (cells := [.string t2.name, .int .u8 k.op, .string k.name, .int .i64 k.n, kvx]) (css := [[.string t2.name], [.int .u8 k.op, .string k.name, .int .i64 k.n, kvx]]) 7 bd32 rfl rfl rfl rfl rfl rfl (by kernel_rfl) (fun _ _ _ h => h) hS ?_
    have hfd := fld_mk (name := t2.name) (t := k) nm2 hyx
    refine a_one 8 rfl (by kernel_rfl) (o_bs tbOk rfl rfl rfl rfl rfl rfl rfl (sz1 rfl) rfl rfl rfl ?_)
    intro bw5 w5 qbw5 ew5 hbw5
    have nbw5 := nM_of hlow qbw5
    replace hS := hS.then ew5
    replace hT := hT.then (Stp.ext ew5 hlow hB)
    replace ho := ho.ext hlow hB ew5
    replace h1 := h1.ext hlow hB ew5
    replace h3 := h3.ext hlow hB ew5
    replace hE := hE.trans (Below.mono ew5 hB)
    replace hk := hk.ext ew5
    replace hyx := Rep.ext hyx ew5
    replace hkx := hkx.ext ew5
    replace hatx := hatx.ext ew5
    replace hfd := Rep.ext hfd ew5
    replace hlow := hlow.ext ew5
    replace hB := Nat.le_trans hB ew5.size
    refine ⟨hS, ?_⟩
    refine a_barS Ext 9 rfl (by kernel_rfl) (by kernel_rfl) (o_app1 tbOk ho hbw5 nbw5 hfd hlow hB rfl rfl rfl rfl rfl rfl rfl (by omega) (by show (_ + _) * 72 ≤ _; omega) rfl rfl ?_)
    intro vw6 w6 Mw6 hw6 sw6 frw6 blw6
    have zd_ho_h1 := d_ho_h1
    replace d_ho_h1 : ∀ x, (vw6 : Value).ownBlock = some x → x ≠ b1 := fun x hx => (blw6 x hx).elim (d_ho_h1 x) (fun h e => by have := h1.lt; omega)
    have zd_ho_h3 := d_ho_h3
    replace d_ho_h3 : ∀ x, (vw6 : Value).ownBlock = some x → x ≠ b3 := fun x hx => (blw6 x hx).elim (d_ho_h3 x) (fun h e => by have := h3.lt; omega)
    replace hT := hT.then sw6
    replace h1 := h1.stp sw6 (frw6 b1 h1.lt (fun e => zd_ho_h1 _ e.symm rfl))
    replace h3 := h3.stp sw6 (frw6 b3 h3.lt (fun e => zd_ho_h3 _ e.symm rfl))
    replace hE := hE.trans sw6.below
    replace hk := hk.stp sw6
    replace hyx := Rep.stp hyx sw6
    replace hkx := hkx.stp sw6
    replace hatx := hatx.stp sw6
    replace hfd := Rep.stp hfd sw6
    replace hsub := fun b h => sw6.sub b (hsub b h)
    replace hlow := sw6.low
    replace hB := Nat.le_trans hB sw6.upd.1
    replace hS : Ext w6 w6 := ext_refl _
    replace ho := hw6
    clear hw6
    have D_h1 := h1.box
    have D_h3 := h3.box
    have D_hk := hk
    have D_hkx := hkx
    have D_hatx := hatx
    refine a_p 10 tbOk rfl rfl rfl rfl (by kernel_rfl) (fun _ _ _ h => h) hS ?_
    refine a_end (by kernel_rfl) ?_
    refine x_seq (c_reg (l_p 1 tbOk rfl ?_))
    refine l_cons (o_ld tbOk (h1.cell 3 _ rfl) rfl rfl rfl rfl rfl ?_)
    refine l_cons (o_ixS tbOk hk (show t2.kids[1]? = some r by rw [hks]; rfl) rfl rfl rfl rfl rfl rfl rfl rfl rfl ?_)
    intro eby eoy euy hyy haty
    obtain ⟨kvy, rfl, opy, nmy, n64y, hky⟩ := ty_open hyy
    replace haty : At Mw6 w6 eby eoy [.int .u8 r.op, .string r.name, .int .i64 r.n, kvy] := haty
    refine l_cons (o_lds tbOk (fun j v hv => haty.cell j v hv) rfl rfl rfl rfl rfl rfl ?_)
    refine l_cons (o_st tbOk h1.box rfl rfl rfl rfl (Rep.one hyy) rfl rfl ?_)
    intro w7 hw7 qw7 bew7
    have uw7 : UpdB _ _ _ := ⟨qw7, bew7⟩
    have sw7 := uw7.stp h1.inM hlow h1.ge
    have frw7 := qw7.2
    replace hT := hT.then sw7
    replace ho := ho.stp sw7 (fun x hx => frw7 x (ho.lt x hx).2 (d_ho_h1 x hx))
    replace h3 := h3.stp sw7 (frw7 b3 h3.lt ne_h1_h3.symm)
    replace hE := hE.trans sw7.below
    replace hk := hk.stp sw7
    replace hyx := Rep.stp hyx sw7
    replace hkx := hkx.stp sw7
    replace hatx := hatx.stp sw7
    replace hfd := Rep.stp hfd sw7
    replace hyy := Rep.stp hyy sw7
    replace hky := hky.stp sw7
    replace haty := haty.stp sw7
    replace hsub := fun b h => sw7.sub b (hsub b h)
    replace hlow := sw7.low
    replace hB := Nat.le_trans hB sw7.upd.1
    replace h1 : MB w.heap.size _ w7 b1 _ [.int .u8 r.op, .string r.name, .int .i64 r.n, kvy] := ⟨hw7, h1.inM, h1.ge⟩
    refine q2 ?_
    exact x_round5 (r) (kvy) (vw6) (Mw6) (acc ++ [⟨t2.name, k⟩]) (s3 rfl rfl rfl) ⟨hsr, by rw [List.append_assoc, ← hacc, hsp]; rfl, by rw [← htl, hsp], opy, nmy, n64y, ho, h1, h3, d_ho_h1, d_ho_h3, hky, hT, hlow, hsub, hE, hB⟩ (by rw [psz_eq t2, hks, pszs_cons, pszs_cons]; omega)
  have hne : t2.op ≠ 11 := by omega
  rw [spine_no hne] at hacc htl
  simp only [List.append_nil] at hacc htl
  have hla : acc.length = (spineF t).1.length := by rw [hacc]
  refine c_exit (x_seqE (x_seqE (x_blkE (x_seq (q0 (l_p 1 tbOk rfl ?_))))))
  refine l_cons (o_call fo98 rfl rfl rfl (sortStable_spec M1 _ w.heap.size v acc ho (by omega) hlow hB) ?_)
  rintro _ w8 ⟨rfl, ⟨l2, ho2, hll, hst, hsr⟩, sw8, frw8⟩
  obtain rfl := fieldsF_uniq hsr hst
  replace hT := hT.then sw8
  replace h1 := h1.stp sw8 (frw8 b1 h1.lt (fun e => d_ho_h1 _ e.symm rfl))
  replace h3 := h3.stp sw8 (frw8 b3 h3.lt (fun e => d_ho_h3 _ e.symm rfl))
  replace hE := hE.trans sw8.below
  replace hk := hk.stp sw8
  replace hsub := fun b h => sw8.sub b (hsub b h)
  replace hlow := sw8.low
  replace hB := Nat.le_trans hB sw8.upd.1
  replace ho := ho2
  refine q1 (c_seq ?_)
  refine a_beg Ext rfl ?_
  intro w9 ew9
  replace hT := hT.then (Stp.ext ew9 hlow hB)
  replace ho := ho.ext hlow hB ew9
  replace h1 := h1.ext hlow hB ew9
  replace h3 := h3.ext hlow hB ew9
  replace hE := hE.trans (Below.mono ew9 hB)
  replace hk := hk.ext ew9
  replace hlow := hlow.ext ew9
  replace hB := Nat.le_trans hB ew9.size
  have hS : Ext w9 w9 := ext_refl _
  have D_h1 := h1.box
  have D_h3 := h3.box
  have D_hk := hk
  refine a_p 0 tbOk rfl rfl rfl rfl (by kernel_rfl) (fun _ _ _ h => h) hS ?_
  refine a_lds 1 tbOk (fun _ hs j v hv => (D_h1.ext hs).cell j v hv) rfl rfl rfl rfl rfl rfl rfl (by kernel_rfl) (fun _ _ _ h => h) hS ?_
  refine a_p 2 tbOk rfl rfl rfl rfl (by kernel_rfl) (fun _ _ _ h => h) hS ?_
  have htl2 := ty_mk op2 nm2 n2 hk
  rw [← ty_eta] at htl2
  refine a_barS Ext 3 rfl (by kernel_rfl) (by kernel_rfl) (o_st tbOk h3.box rfl rfl rfl rfl (Rep.one htl2) rfl rfl ?_)
  intro w10 hw10 qw10 bew10
  have uw10 : UpdB _ _ _ := ⟨qw10, bew10⟩
  have sw10 := uw10.stp h3.inM hlow h3.ge
  have frw10 := qw10.2
  replace hT := hT.then sw10
  replace ho := ho.stp sw10 (fun x hx => frw10 x (ho.lt x hx).2 (d_ho_h3 x hx))
  replace h1 := h1.stp sw10 (frw10 b1 h1.lt ne_h1_h3)
  replace hE := hE.trans sw10.below
  replace hk := hk.stp sw10
  replace htl2 := Rep.stp htl2 sw10
  replace hsub := fun b h => sw10.sub b (hsub b h)
  replace hlow := sw10.low
  replace hB := Nat.le_trans hB sw10.upd.1
  replace hS : Ext w10 w10 := ext_refl _
  replace h3 : MB w.heap.size _ w10 b3 _ [.int .u8 t2.op, .string t2.name, .int .i64 t2.n, kv] := ⟨hw10, h3.inM, h3.ge⟩
  have D_h1 := h1.box
  have D_h3 := h3.box
  have D_hk := hk
  refine a_end (by kernel_rfl) ?_
  refine x_seq (c_ret ?_)
  refine x_ret2ts tbOk (fun j v hv => h3.cell j v hv) rfl rfl rfl rfl rfl rfl ?_
  rw [hacc] at ho
  exact ⟨_, _, _, rfl, ho, by rw [← htl]; exact htl2, hT⟩

/-- Flat: a row's sorted fields, and its tail. -/
theorem Flat_spec (t : Ty) (M : Nat → Prop) (w : World) (v : Value) (ht : Rep.R M w v t) (hlow0 : Low M w) (hsz : psz t ≤ 2000000) :
    Calls Try.prog 25 #[v] w (Ret fun r w' => (∃ x tv, r = .tuple #[x, tv] ∧ Sl M w' x (flatF t).1 ∧ Rep.R M w' tv (flatF t).2) ∧ Ext w w') := by
  have hlow := hlow0
  have hB : w.heap.size ≤ w.heap.size := Nat.le_refl _
  have hE : Below w.heap.size w w := Below.refl _ _
  have hsub : ∀ b, M b → M b := fun _ h => h
  obtain ⟨kv, rfl, op, nm, n64, hk⟩ := ty_open ht
  have hsl := spine_len t
  have hfl0 := fieldsF_len (spineF t).1
  refine c_enter (n := 18) Try.func25 rfl rfl rfl ?_
  refine q0 ?_
  refine l_cons (o_box rfl rfl rfl ?_)
  intro b1 w1 hb_b1 ew1 h1
  replace h1 : Box _ b1 25 [.int .u8 t.op, .string t.name, .int .i64 t.n, kv] := h1
  replace h1 := h1.at (nM_of hlow hb_b1)
  replace hE := hE.trans (Below.mono ew1 hB)
  replace ht := Rep.ext ht ew1
  replace hk := hk.ext ew1
  replace hlow := hlow.ext ew1
  replace hB := Nat.le_trans hB ew1.size
  refine l_p 1 tbOk rfl ?_
  refine l_cons (o_new tbOk rfl rfl rfl ?_)
  intro b3 w2 qb3 ew2 hb3
  have sw2 := Stp.add ew2 hlow hB (Nat.le_of_eq qb3.symm) hb3.lt
  have h3 : MB w.heap.size (Rw.Add M b3) w2 b3 25 [.int .u8 0, .string ⟨#[]⟩, .int .i64 0, .slice none 0 0] := MB.mk' hb3 qb3 hB
  replace hE := hE.trans sw2.below
  replace ht := Rep.stp ht sw2
  replace hk := hk.stp sw2
  replace h1 := h1.stp sw2
  replace hsub := fun b h => sw2.sub b (hsub b h)
  replace hlow := sw2.low
  replace hB := Nat.le_trans hB sw2.upd.1
  refine q1 (c_seq (q0 ?_))
  refine l_cons (o_lds tbOk (fun j v hv => h1.cell j v hv) rfl rfl rfl rfl rfl rfl ?_)
  refine l_cons (o_call fo18 rfl rfl rfl (kRow_spec t _ _ _ ht hlow) ?_)
  rintro _ w3 ⟨rfl, ew3⟩
  replace h3 := h3.ext hlow hB ew3
  replace hE := hE.trans (Below.mono ew3 hB)
  replace ht := Rep.ext ht ew3
  replace hk := hk.ext ew3
  replace h1 := h1.ext ew3
  replace hlow := hlow.ext ew3
  replace hB := Nat.le_trans hB ew3.size
  refine l_p 1 tbOk rfl (q1 ?_)
  refine c_ifB _ rfl (fun hc => ?_) (fun hc => ?_)
  · have hB0 : rowB t = false := by rw [← rowB_law]; exact hc
    refine q0 ?_
    refine l_cons (o_build (cells := [.int .u8 0, .string ⟨#[]⟩, .int .i64 0, .slice none 0 0]) (css := []) bd25 rfl rfl rfl rfl rfl ?_)
    refine l_p 1 tbOk rfl ?_
    refine l_cons (o_st tbOk h3.box rfl rfl rfl rfl (by intro u hu; simp [Value.cells] at hu; rcases hu with rfl | rfl | rfl | rfl <;> rfl) rfl rfl ?_)
    intro w4 hw4 qw4 bew4
    have uw4 : UpdB _ _ _ := ⟨qw4, bew4⟩
    have sw4 := uw4.stp h3.inM hlow h3.ge
    have frw4 := qw4.2
    replace hE := hE.trans sw4.below
    replace ht := Rep.stp ht sw4
    replace hk := hk.stp sw4
    replace h1 := h1.stp sw4
    replace hsub := fun b h => sw4.sub b (hsub b h)
    replace hlow := sw4.low
    replace hB := Nat.le_trans hB sw4.upd.1
    replace h3 : MB w.heap.size _ w4 b3 _ [.int .u8 0, .string ⟨#[]⟩, .int .i64 0, .slice none 0 0] := ⟨hw4, h3.inM, h3.ge⟩
    refine q1 (c_ret (x_seqR ?_))
    refine x_ret2ts tbOk (fun j v hv => h3.cell j v hv) rfl rfl rfl rfl rfl rfl ?_
    refine ⟨⟨_, _, rfl, ?_, ?_⟩, hE⟩
    · rw [flatF, hB0]; exact sl_nil
    · rw [flatF, hB0]; exact ty_mk (by decide) (by decide) ⟨by decide, by decide⟩ sl_nil
  have hB0 : rowB t = true := by rw [← rowB_law]; exact hc
  have hsh : shapeF t 114 = true := by unfold rowB at hB0; rw [Bool.and_eq_true] at hB0; exact hB0.1
  refine c_skip (x_seq (q0 ?_))
  refine l_cons (o_lds tbOk (fun j v hv => h1.cell j v hv) rfl rfl rfl rfl rfl rfl ?_)
  refine l_cons (o_call fo67 rfl rfl rfl (copied_spec t _ _ _ ht hlow hsz) ?_)
  rintro vr w5 ⟨hr, ew5⟩
  replace h3 := h3.ext hlow hB ew5
  replace hE := hE.trans (Below.mono ew5 hB)
  replace ht := Rep.ext ht ew5
  replace hk := hk.ext ew5
  replace h1 := h1.ext ew5
  replace hlow := hlow.ext ew5
  replace hB := Nat.le_trans hB ew5.size
  refine l_cons (o_call fo69 rfl rfl rfl (flat_spec t _ _ _ hsh hr hlow hsz) ?_)
  rintro _ w6 ⟨xv, tv, M2, rfl, ho2, htl, sw6⟩
  have ew6 : Ext w5 w6 := sw6.below
  have hfl := ho2.sl (by omega) hlow sw6.sub
  have htv := Rep.wk htl (fun b _ hb => sw6.sub b hb)
  replace h3 := h3.ext hlow hB ew6
  replace hE := hE.trans (Below.mono ew6 hB)
  replace ht := Rep.ext ht ew6
  replace hk := hk.ext ew6
  replace h1 := h1.ext ew6
  replace hr := Rep.ext hr ew6
  replace hlow := hlow.ext ew6
  replace hB := Nat.le_trans hB ew6.size
  obtain ⟨kve, rfl, ope, nme, n64e, hke⟩ := ty_open htv
  refine l_p 3 tbOk rfl ?_
  refine l_cons (o_new tbOk rfl rfl rfl ?_)
  intro b5 w7 qb5 ew7 hb5
  have nb5 := nM_of hlow qb5
  refine l_p 1 tbOk rfl ?_
  refine l_cons (o_st tbOk hb5 rfl rfl rfl rfl (Rep.one htv) rfl rfl ?_)
  intro w8 h5 uw8 bew8
  have ew8 : Ext w6 w8 := ew7.trans (bew8 _ (Nat.le_of_eq qb5.symm))
  replace h3 := h3.ext hlow hB ew8
  replace hE := hE.trans (Below.mono ew8 hB)
  replace ht := Rep.ext ht ew8
  replace hk := hk.ext ew8
  replace h1 := h1.ext ew8
  replace hr := Rep.ext hr ew8
  replace hfl := hfl.ext ew8
  replace htv := Rep.ext htv ew8
  replace hke := hke.ext ew8
  replace hlow := hlow.ext ew8
  replace hB := Nat.le_trans hB ew8.size
  replace h5 : Box w8 b5 25 [.int .u8 (spineF t).2.op, .string (spineF t).2.name, .int .i64 (spineF t).2.n, kve] := h5
  replace h5 := h5.at nb5
  refine q1 (c_seq ?_)
  refine a_beg Ext rfl ?_
  intro w9 ew9
  replace h3 := h3.ext hlow hB ew9
  replace hE := hE.trans (Below.mono ew9 hB)
  replace ht := Rep.ext ht ew9
  replace hk := hk.ext ew9
  replace h1 := h1.ext ew9
  replace hr := Rep.ext hr ew9
  replace hfl := hfl.ext ew9
  replace htv := Rep.ext htv ew9
  replace hke := hke.ext ew9
  replace h5 := h5.ext ew9
  replace hlow := hlow.ext ew9
  replace hB := Nat.le_trans hB ew9.size
  have hS : Ext w9 w9 := ext_refl _
  have D_hk := hk
  have D_h1 := h1
  have D_h3 := h3.box
  have D_hfl := hfl
  have D_hke := hke
  have D_h5 := h5
  refine a_p 0 tbOk rfl rfl rfl rfl (by kernel_rfl) (fun _ _ _ h => h) hS ?_
  refine a_lds 1 tbOk (fun _ hs j v hv => (D_h5.ext hs).cell j v hv) rfl rfl rfl rfl rfl rfl rfl (by kernel_rfl) (fun _ _ _ h => h) hS ?_
  refine a_p 2 tbOk rfl rfl rfl rfl (by kernel_rfl) (fun _ _ _ h => h) hS ?_
  refine a_barS Ext 3 rfl (by kernel_rfl) (by kernel_rfl) (o_st tbOk h3.box rfl rfl rfl rfl (Rep.one htv) rfl rfl ?_)
  intro w10 hw10 qw10 bew10
  have uw10 : UpdB _ _ _ := ⟨qw10, bew10⟩
  have sw10 := uw10.stp h3.inM hlow h3.ge
  have frw10 := qw10.2
  replace hE := hE.trans sw10.below
  replace ht := Rep.stp ht sw10
  replace hk := hk.stp sw10
  replace h1 := h1.stp sw10
  replace hr := Rep.stp hr sw10
  replace hfl := hfl.stp sw10
  replace htv := Rep.stp htv sw10
  replace hke := hke.stp sw10
  replace h5 := h5.stp sw10
  replace hsub := fun b h => sw10.sub b (hsub b h)
  replace hlow := sw10.low
  replace hB := Nat.le_trans hB sw10.upd.1
  replace hS : Ext w10 w10 := ext_refl _
  replace h3 : MB w.heap.size _ w10 b3 _ [.int .u8 (spineF t).2.op, .string (spineF t).2.name, .int .i64 (spineF t).2.n, kve] := ⟨hw10, h3.inM, h3.ge⟩
  have D_hk := hk
  have D_h1 := h1
  have D_h3 := h3.box
  have D_hfl := hfl
  have D_hke := hke
  have D_h5 := h5
  refine a_end (by kernel_rfl) ?_
  refine x_seq (c_ret ?_)
  refine x_ret2ts tbOk (fun j v hv => h3.cell j v hv) rfl rfl rfl rfl rfl rfl ?_
  refine ⟨⟨_, _, rfl, ?_, ?_⟩, hE⟩
  · rw [flatF, hB0]; exact hfl.wk (fun b _ h => hsub b h)
  · rw [flatF, hB0]; exact Rep.wk htv (fun b _ h => hsub b h)

/-- Field: a row's field ahead. -/
theorem field_spec (name : ByteArray) (t r : Ty) (M : Nat → Prop) (w : World) (v u : Value) (hnm : name.size < 140737488355328) (ht : Rep.R M w v t) (hr : Rep.R M w u r) (hlow0 : Low M w) :
    Calls Try.prog 63 #[.string name, v, u] w (Ret fun x w' => Rep.R M w' x (Ty.mk 11 name 0 [t, r]) ∧ Ext w w') := by
  have hlow := hlow0
  have hB : w.heap.size ≤ w.heap.size := Nat.le_refl _
  have hE : Below w.heap.size w w := Below.refl _ _
  have hsub : ∀ b, M b → M b := fun _ h => h
  obtain ⟨kv, rfl, op, nm, n64, hk⟩ := ty_open ht
  obtain ⟨kvr, rfl, opr, nmr, n64r, hkr⟩ := ty_open hr
  refine c_enter (n := 12) Try.func63 rfl rfl rfl ?_
  refine q0 ?_
  refine l_cons (o_box rfl rfl rfl ?_)
  intro b4 w1 hb_b4 ew1 h4
  replace h4 : Box _ b4 25 [.int .u8 t.op, .string t.name, .int .i64 t.n, kv] := h4
  replace h4 := h4.at (nM_of hlow hb_b4)
  replace hE := hE.trans (Below.mono ew1 hB)
  replace ht := Rep.ext ht ew1
  replace hk := hk.ext ew1
  replace hr := Rep.ext hr ew1
  replace hkr := hkr.ext ew1
  replace hlow := hlow.ext ew1
  replace hB := Nat.le_trans hB ew1.size
  refine l_cons (o_box rfl rfl rfl ?_)
  intro b5 w2 hb_b5 ew2 h5
  replace h5 : Box _ b5 25 [.int .u8 r.op, .string r.name, .int .i64 r.n, kvr] := h5
  replace h5 := h5.at (nM_of hlow hb_b5)
  replace hE := hE.trans (Below.mono ew2 hB)
  replace ht := Rep.ext ht ew2
  replace hk := hk.ext ew2
  replace hr := Rep.ext hr ew2
  replace hkr := hkr.ext ew2
  replace h4 := h4.ext ew2
  replace hlow := hlow.ext ew2
  replace hB := Nat.le_trans hB ew2.size
  refine l_cons (o_new tbOk rfl rfl rfl ?_)
  intro b6 w3 qb6 ew3 hb6
  have sw3 := Stp.add ew3 hlow hB (Nat.le_of_eq qb6.symm) hb6.lt
  have h6 : MB w.heap.size (Rw.Add M b6) w3 b6 25 [.int .u8 0, .string ⟨#[]⟩, .int .i64 0, .slice none 0 0] := MB.mk' hb6 qb6 hB
  replace hE := hE.trans sw3.below
  replace ht := Rep.stp ht sw3
  replace hk := hk.stp sw3
  replace hr := Rep.stp hr sw3
  replace hkr := hkr.stp sw3
  replace h4 := h4.stp sw3
  replace h5 := h5.stp sw3
  replace hsub := fun b h => sw3.sub b (hsub b h)
  replace hlow := sw3.low
  replace hB := Nat.le_trans hB sw3.upd.1
  refine q1 (q0 (l_p 1 tbOk rfl ?_))
  refine l_cons (o_lds tbOk (fun j v hv => h4.cell j v hv) rfl rfl rfl rfl rfl rfl ?_)
  refine l_cons (o_lds tbOk (fun j v hv => h5.cell j v hv) rfl rfl rfl rfl rfl rfl ?_)
  refine l_cons (o_bs tbOk rfl rfl rfl rfl rfl rfl rfl (sz2 rfl rfl) rfl rfl rfl ?_)
  intro bw4 w4 qbw4 ew4 hbw4
  have sw4 := Stp.add ew4 hlow hB (Nat.le_of_eq qbw4.symm) hbw4.lt
  have le_bw4 := hB
  have d_ho_h6 : ∀ x, ((.slice (some ⟨bw4, 0, none⟩) 2 2) : Value).ownBlock = some x → x ≠ b6 := fun x hx => by have := ob_eq hx; have := h6.lt; omega
  replace h6 := h6.stp sw4 (ew4.block b6 h6.lt)
  replace hE := hE.trans sw4.below
  replace ht := Rep.stp ht sw4
  replace hk := hk.stp sw4
  replace hr := Rep.stp hr sw4
  replace hkr := hkr.stp sw4
  replace h4 := h4.stp sw4
  replace h5 := h5.stp sw4
  replace hsub := fun b h => sw4.sub b (hsub b h)
  replace hlow := sw4.low
  replace hB := Nat.le_trans hB sw4.upd.1
  have ho := own_litS sw4 hbw4 (show Rs _ _ [_, _] [t, r] from ⟨ht, hr, trivial⟩) qbw4 le_bw4 (by simp [maxLen])
  refine l_cons (o_build (cells := [.int .u8 11, .string name, .int .i64 0, .slice (some ⟨bw4, 0, none⟩) 2 2]) bd25 rfl rfl rfl rfl rfl ?_)
  refine l_cons (o_st tbOk h6.box rfl rfl rfl rfl (by intro u hu; simp [Value.cells] at hu; rcases hu with rfl | rfl | rfl | rfl <;> rfl) rfl rfl ?_)
  intro w5 hw5 qw5 bew5
  have uw5 : UpdB _ _ _ := ⟨qw5, bew5⟩
  have sw5 := uw5.stp h6.inM hlow h6.ge
  have frw5 := qw5.2
  replace ho := ho.stp sw5 (fun x hx => frw5 x (ho.lt x hx).2 (d_ho_h6 x hx))
  replace hE := hE.trans sw5.below
  replace ht := Rep.stp ht sw5
  replace hk := hk.stp sw5
  replace hr := Rep.stp hr sw5
  replace hkr := hkr.stp sw5
  replace h4 := h4.stp sw5
  replace h5 := h5.stp sw5
  replace hsub := fun b h => sw5.sub b (hsub b h)
  replace hlow := sw5.low
  replace hB := Nat.le_trans hB sw5.upd.1
  replace h6 : MB w.heap.size _ w5 b6 _ [.int .u8 11, .string name, .int .i64 0, .slice (some ⟨bw4, 0, none⟩) 2 2] := ⟨hw5, h6.inM, h6.ge⟩
  refine q1 (c_ret ?_)
  refine x_ret1s tbOk (fun j v hv => h6.cell j v hv) rfl rfl rfl rfl rfl ?_
  exact ⟨ty_mk (by decide) hnm ⟨by decide, by decide⟩ (ho.sl (by simp) hlow0 hsub), hE⟩

/-- alive: true. -/
theorem alive_spec (M : Nat → Prop) (w : World) (hlow0 : Low M w) :
    Calls Try.prog 14 #[] w (Ret fun r w' => r = .bool true ∧ Ext w w') := by
  have hlow := hlow0
  have hB : w.heap.size ≤ w.heap.size := Nat.le_refl _
  have hE : Below w.heap.size w w := Below.refl _ _
  have hsub : ∀ b, M b → M b := fun _ h => h
  refine c_enter (n := 46) Try.func14 rfl rfl rfl ?_
  refine q0 (l_p 1 tbOk rfl (q1 (q0 ?_)))
  refine l_cons (o_build (cells := [.int .u8 8, .string ⟨#[]⟩, .int .i64 0, .slice none 0 0]) bd25 rfl rfl rfl rfl rfl ?_)
  have hnone : Rep.R M w (.agg #[.int .u8 8, .string ⟨#[]⟩, .int .i64 0, .slice none 0 0]) tyNone := ty_mk (by decide) (by decide) ⟨by decide, by decide⟩ sl_nil
  refine l_cons (o_new tbOk rfl rfl rfl ?_)
  intro b1 w1 qb1 ew1 hb1
  have nb1 := nM_of hlow qb1
  refine l_cons (o_st tbOk hb1 rfl rfl rfl rfl (Rep.one hnone) rfl rfl ?_)
  intro w2 h1 uw2 bew2
  have ew2 : Ext w w2 := ew1.trans (bew2 _ (Nat.le_of_eq qb1.symm))
  replace hE := hE.trans (Below.mono ew2 hB)
  replace hnone := Rep.ext hnone ew2
  replace hlow := hlow.ext ew2
  replace hB := Nat.le_trans hB ew2.size
  replace h1 : Box w2 b1 25 [.int .u8 tyNone.op, .string tyNone.name, .int .i64 tyNone.n, .slice none 0 0] := h1
  replace h1 := h1.at nb1
  refine q1 (c_seq ?_)
  refine a_beg Ext rfl ?_
  intro w3 ew3
  replace hE := hE.trans (Below.mono ew3 hB)
  replace hnone := Rep.ext hnone ew3
  replace h1 := h1.ext ew3
  replace hlow := hlow.ext ew3
  replace hB := Nat.le_trans hB ew3.size
  have hS : Ext w3 w3 := ext_refl _
  have D_h1 := h1
  refine a_lds 2 tbOk (fun _ hs j v hv => (D_h1.ext hs).cell j v hv) rfl rfl rfl rfl rfl rfl rfl (by kernel_rfl) (fun _ _ _ h => h) hS ?_
  refine a_all [0, 5] (by kernel_rfl) rfl (all_cons (i := 0) rfl ?_ (all_cons (i := 5) rfl ?_ all_nil))
  · refine o_call fo33 rfl rfl rfl (int_spec _ _ hlow) ?_
    rintro vhI w4 ⟨hI, ew4⟩
    replace hI : Rep.R _ w4 vhI tyB := hI
    replace hS := hS.then ew4
    replace hE := hE.trans (Below.mono ew4 hB)
    replace hnone := Rep.ext hnone ew4
    replace h1 := h1.ext ew4
    replace hlow := hlow.ext ew4
    replace hB := Nat.le_trans hB ew4.size
    refine ⟨hS, ?_⟩
    refine a_all [1, 5] (by kernel_rfl) rfl (all_cons (i := 1) rfl ?_ (all_cons (i := 5) rfl ?_ all_nil))
    · refine o_call fo34 rfl rfl rfl (bool_spec _ _ hlow) ?_
      rintro vhO w5 ⟨hO, ew5⟩
      replace hO : Rep.R _ w5 vhO tyA := hO
      replace hS := hS.then ew5
      replace hE := hE.trans (Below.mono ew5 hB)
      replace hnone := Rep.ext hnone ew5
      replace h1 := h1.ext ew5
      replace hI := Rep.ext hI ew5
      replace hlow := hlow.ext ew5
      replace hB := Nat.le_trans hB ew5.size
      refine ⟨hS, ?_⟩
      refine a_all [3, 5] (by kernel_rfl) rfl (all_cons (i := 3) rfl ?_ (all_cons (i := 5) rfl ?_ all_nil))
      · refine o_call fo63 rfl rfl rfl (field_spec ⟨#[97]⟩ tyA tyNone _ _ _ _ (by decide) hO hnone hlow) ?_
        rintro vhr1 w6 ⟨hr1, ew6⟩
        replace hS := hS.then ew6
        replace hE := hE.trans (Below.mono ew6 hB)
        replace hnone := Rep.ext hnone ew6
        replace h1 := h1.ext ew6
        replace hI := Rep.ext hI ew6
        replace hO := Rep.ext hO ew6
        replace hlow := hlow.ext ew6
        replace hB := Nat.le_trans hB ew6.size
        refine ⟨hS, ?_⟩
        refine a_all [4, 5] (by kernel_rfl) rfl (all_cons (i := 4) rfl ?_ (all_cons (i := 5) rfl ?_ all_nil))
        · refine o_call fo63 rfl rfl rfl (field_spec ⟨#[98]⟩ tyB (Ty.mk 11 ⟨#[97]⟩ 0 [tyA, tyNone]) _ _ _ _ (by decide) hI hr1 hlow) ?_
          rintro vhr2 w7 ⟨hr2, ew7⟩
          replace hS := hS.then ew7
          replace hE := hE.trans (Below.mono ew7 hB)
          replace hnone := Rep.ext hnone ew7
          replace h1 := h1.ext ew7
          replace hI := Rep.ext hI ew7
          replace hO := Rep.ext hO ew7
          replace hr1 := Rep.ext hr1 ew7
          replace hlow := hlow.ext ew7
          replace hB := Nat.le_trans hB ew7.size
          refine ⟨hS, ?_⟩
          refine a_one 5 rfl (by kernel_rfl) (o_new tbOk rfl rfl rfl ?_)
          intro b2 w8 qb2 ew8 hb2
          have gS_b2 := Nat.le_trans hS.size (Nat.le_of_eq qb2.symm)
          replace hS := hS.then ew8
          have sw8 := Stp.add ew8 hlow hB (Nat.le_of_eq qb2.symm) hb2.lt
          have h2 : MB w.heap.size (Rw.Add M b2) w8 b2 25 [.int .u8 0, .string ⟨#[]⟩, .int .i64 0, .slice none 0 0] := MB.mk' hb2 qb2 hB
          replace hE := hE.trans sw8.below
          replace hnone := Rep.stp hnone sw8
          replace h1 := h1.stp sw8
          replace hI := Rep.stp hI sw8
          replace hO := Rep.stp hO sw8
          replace hr1 := Rep.stp hr1 sw8
          replace hr2 := Rep.stp hr2 sw8
          replace hsub := fun b h => sw8.sub b (hsub b h)
          replace hlow := sw8.low
          replace hB := Nat.le_trans hB sw8.upd.1
          refine ⟨hS, ?_⟩
          replace hr2 : Rep.R _ w8 vhr2 tyRow := hr2
          obtain ⟨kvr, rfl, opr, nmr, n64r, hkr⟩ := ty_open hr2
          refine a_barS Ext 6 rfl (by kernel_rfl) (by kernel_rfl) (o_st tbOk h2.box rfl rfl rfl rfl (Rep.one hr2) rfl rfl ?_)
          intro w9 hw9 qw9 bew9
          have uw9 : UpdB _ _ _ := ⟨qw9, bew9⟩
          have sw9 := uw9.stp h2.inM hlow h2.ge
          have frw9 := qw9.2
          replace hE := hE.trans sw9.below
          replace hnone := Rep.stp hnone sw9
          replace h1 := h1.stp sw9
          replace hI := Rep.stp hI sw9
          replace hO := Rep.stp hO sw9
          replace hr1 := Rep.stp hr1 sw9
          replace hr2 := Rep.stp hr2 sw9
          replace hkr := hkr.stp sw9
          replace hsub := fun b h => sw9.sub b (hsub b h)
          replace hlow := sw9.low
          replace hB := Nat.le_trans hB sw9.upd.1
          replace hS : Ext w9 w9 := ext_refl _
          replace h2 : MB w.heap.size _ w9 b2 _ [.int .u8 tyRow.op, .string tyRow.name, .int .i64 tyRow.n, kvr] := ⟨hw9, h2.inM, h2.ge⟩
          have D_h1 := h1
          have D_h2 := h2.box
          have D_hkr := hkr
          refine a_end (by kernel_rfl) ?_
          refine x_seq (q0 ?_)
          refine l_cons (o_lds tbOk (fun j v hv => h2.cell j v hv) rfl rfl rfl rfl rfl rfl ?_)
          refine l_cons (o_call fo25 rfl rfl rfl (Flat_spec tyRow _ _ _ hr2 hlow psz_row) ?_)
          rintro _ w10 ⟨⟨xv, tv, rfl, hfl, htl⟩, ew10⟩
          rw [flat_row] at hfl htl
          simp only at hfl htl
          replace h2 := h2.ext hlow hB ew10
          replace hE := hE.trans (Below.mono ew10 hB)
          replace hnone := Rep.ext hnone ew10
          replace h1 := h1.ext ew10
          replace hI := Rep.ext hI ew10
          replace hO := Rep.ext hO ew10
          replace hr1 := Rep.ext hr1 ew10
          replace hr2 := Rep.ext hr2 ew10
          replace hkr := hkr.ext ew10
          replace hlow := hlow.ext ew10
          replace hB := Nat.le_trans hB ew10.size
          obtain ⟨kve, rfl, ope, nme, n64e, hke⟩ := ty_open htl
          refine l_p 3 tbOk rfl ?_
          refine l_cons (o_new tbOk rfl rfl rfl ?_)
          intro b4 w11 qb4 ew11 hb4
          have nb4 := nM_of hlow qb4
          refine l_p 1 tbOk rfl ?_
          refine l_cons (o_st tbOk hb4 rfl rfl rfl rfl (Rep.one htl) rfl rfl ?_)
          intro w12 h4 uw12 bew12
          have ew12 : Ext w10 w12 := ew11.trans (bew12 _ (Nat.le_of_eq qb4.symm))
          replace h2 := h2.ext hlow hB ew12
          replace hE := hE.trans (Below.mono ew12 hB)
          replace hnone := Rep.ext hnone ew12
          replace h1 := h1.ext ew12
          replace hI := Rep.ext hI ew12
          replace hO := Rep.ext hO ew12
          replace hr1 := Rep.ext hr1 ew12
          replace hr2 := Rep.ext hr2 ew12
          replace hkr := hkr.ext ew12
          replace hfl := hfl.ext ew12
          replace htl := Rep.ext htl ew12
          replace hke := hke.ext ew12
          replace hlow := hlow.ext ew12
          replace hB := Nat.le_trans hB ew12.size
          replace h4 : Box w12 b4 25 [.int .u8 tyNone.op, .string tyNone.name, .int .i64 tyNone.n, kve] := h4
          replace h4 := h4.at nb4
          refine q1 (q0 (l_p 1 tbOk rfl ?_))
          refine l_cons (o_len tbOk hfl rfl rfl rfl rfl rfl ?_)
          refine l_p 2 tbOk rfl ?_
          refine l_splitP 19 _ rfl (fun c1 => ?_) (fun c1 => ?_)
          · refine l_p 1 tbOk rfl ?_
            refine l_cons (o_ixS tbOk hfl (show _ = some (⟨⟨#[97]⟩, tyA⟩ : Fld) from rfl) rfl rfl rfl rfl rfl rfl rfl rfl rfl ?_)
            intro eb0 eo0 eu0 hy0 hat0
            obtain ⟨szf0, kvf0, rfl, hyf0⟩ := fld_open hy0
            replace hat0 : At _ w12 eb0 eo0 [.string (⟨⟨#[97]⟩, tyA⟩ : Fld).name, .int .u8 (⟨⟨#[97]⟩, tyA⟩ : Fld).ty.op, .string (⟨⟨#[97]⟩, tyA⟩ : Fld).ty.name, .int .i64 (⟨⟨#[97]⟩, tyA⟩ : Fld).ty.n, kvf0] := hat0
            refine l_p 1 tbOk rfl ?_
            refine l_cons (o_ld tbOk (hat0.cell 0 _ rfl) rfl rfl rfl rfl rfl ?_)
            refine l_p 3 tbOk rfl ?_
            refine l_splitP 26 _ rfl (fun c2 => ?_) (fun c2 => ?_)
            · refine l_p 1 tbOk rfl ?_
              refine l_cons (o_ixS tbOk hfl (show _ = some (⟨⟨#[98]⟩, tyB⟩ : Fld) from rfl) rfl rfl rfl rfl rfl rfl rfl rfl rfl ?_)
              intro eb1 eo1 eu1 hy1 hat1
              obtain ⟨szf1, kvf1, rfl, hyf1⟩ := fld_open hy1
              replace hat1 : At _ w12 eb1 eo1 [.string (⟨⟨#[98]⟩, tyB⟩ : Fld).name, .int .u8 (⟨⟨#[98]⟩, tyB⟩ : Fld).ty.op, .string (⟨⟨#[98]⟩, tyB⟩ : Fld).ty.name, .int .i64 (⟨⟨#[98]⟩, tyB⟩ : Fld).ty.n, kvf1] := hat1
              refine l_p 1 tbOk rfl ?_
              refine l_cons (o_ld tbOk (hat1.cell 0 _ rfl) rfl rfl rfl rfl rfl ?_)
              refine l_p 3 tbOk rfl ?_
              refine l_splitP 33 _ rfl (fun c3 => ?_) (fun c3 => ?_)
              · refine l_p 1 tbOk rfl ?_
                refine l_cons (o_ixS tbOk hfl (show _ = some (⟨⟨#[97]⟩, tyA⟩ : Fld) from rfl) rfl rfl rfl rfl rfl rfl rfl rfl rfl ?_)
                intro eb2 eo2 eu2 hy2 hat2
                obtain ⟨szf2, kvf2, rfl, hyf2⟩ := fld_open hy2
                replace hat2 : At _ w12 eb2 eo2 [.string (⟨⟨#[97]⟩, tyA⟩ : Fld).name, .int .u8 (⟨⟨#[97]⟩, tyA⟩ : Fld).ty.op, .string (⟨⟨#[97]⟩, tyA⟩ : Fld).ty.name, .int .i64 (⟨⟨#[97]⟩, tyA⟩ : Fld).ty.n, kvf2] := hat2
                refine l_p 2 tbOk rfl ?_
                refine l_cons (o_ld tbOk (hat2.cell 1 _ rfl) rfl rfl rfl rfl rfl ?_)
                refine l_p 3 tbOk rfl ?_
                refine l_splitP 41 _ rfl (fun c4 => ?_) (fun c4 => ?_)
                · refine l_cons (o_lds tbOk (fun j v hv => h4.cell j v hv) rfl rfl rfl rfl rfl rfl ?_)
                  refine l_cons (o_lds tbOk (fun j v hv => h1.cell j v hv) rfl rfl rfl rfl rfl rfl ?_)
                  refine l_cons (o_call fo22 rfl rfl rfl (alike_spec _ _ _ _ _ _ htl hnone hlow) ?_)
                  rintro _ w13 ⟨rfl, ew13⟩
                  replace h2 := h2.ext hlow hB ew13
                  replace hE := hE.trans (Below.mono ew13 hB)
                  replace hnone := Rep.ext hnone ew13
                  replace h1 := h1.ext ew13
                  replace hI := Rep.ext hI ew13
                  replace hO := Rep.ext hO ew13
                  replace hr1 := Rep.ext hr1 ew13
                  replace hr2 := Rep.ext hr2 ew13
                  replace hkr := hkr.ext ew13
                  replace hfl := hfl.ext ew13
                  replace htl := Rep.ext htl ew13
                  replace hke := hke.ext ew13
                  replace h4 := h4.ext ew13
                  replace hat0 := hat0.ext ew13
                  replace hat1 := hat1.ext ew13
                  replace hat2 := hat2.ext ew13
                  replace hlow := hlow.ext ew13
                  replace hB := Nat.le_trans hB ew13.size
                  refine l_p 2 tbOk rfl (q1 (c_ret (x_ret1 rfl rfl ?_)))
                  exact ⟨by rw [cl_true rfl], hE⟩
                exact absurd (by first | rfl | decide) c4
              exact absurd (by first | rfl | decide) c3
            exact absurd (by first | rfl | decide) c2
          exact absurd (by first | rfl | decide) c1
        refine o_new tbOk rfl rfl rfl ?_
        intro b2 w14 qb2 ew14 hb2
        have gS_b2 := Nat.le_trans hS.size (Nat.le_of_eq qb2.symm)
        replace hS := hS.then ew14
        have sw14 := Stp.add ew14 hlow hB (Nat.le_of_eq qb2.symm) hb2.lt
        have h2 : MB w.heap.size (Rw.Add M b2) w14 b2 25 [.int .u8 0, .string ⟨#[]⟩, .int .i64 0, .slice none 0 0] := MB.mk' hb2 qb2 hB
        replace hE := hE.trans sw14.below
        replace hnone := Rep.stp hnone sw14
        replace h1 := h1.stp sw14
        replace hI := Rep.stp hI sw14
        replace hO := Rep.stp hO sw14
        replace hr1 := Rep.stp hr1 sw14
        replace hsub := fun b h => sw14.sub b (hsub b h)
        replace hlow := sw14.low
        replace hB := Nat.le_trans hB sw14.upd.1
        refine ⟨hS, ?_⟩
        refine a_one 4 rfl (by kernel_rfl) (o_call fo63 rfl rfl rfl (field_spec ⟨#[98]⟩ tyB (Ty.mk 11 ⟨#[97]⟩ 0 [tyA, tyNone]) _ _ _ _ (by decide) hI hr1 hlow) ?_)
        rintro vhr2 w15 ⟨hr2, ew15⟩
        replace hS := hS.then ew15
        replace h2 := h2.ext hlow hB ew15
        replace hE := hE.trans (Below.mono ew15 hB)
        replace hnone := Rep.ext hnone ew15
        replace h1 := h1.ext ew15
        replace hI := Rep.ext hI ew15
        replace hO := Rep.ext hO ew15
        replace hr1 := Rep.ext hr1 ew15
        replace hlow := hlow.ext ew15
        replace hB := Nat.le_trans hB ew15.size
        refine ⟨hS, ?_⟩
        replace hr2 : Rep.R _ w15 vhr2 tyRow := hr2
        obtain ⟨kvr, rfl, opr, nmr, n64r, hkr⟩ := ty_open hr2
        refine a_barS Ext 6 rfl (by kernel_rfl) (by kernel_rfl) (o_st tbOk h2.box rfl rfl rfl rfl (Rep.one hr2) rfl rfl ?_)
        intro w16 hw16 qw16 bew16
        have uw16 : UpdB _ _ _ := ⟨qw16, bew16⟩
        have sw16 := uw16.stp h2.inM hlow h2.ge
        have frw16 := qw16.2
        replace hE := hE.trans sw16.below
        replace hnone := Rep.stp hnone sw16
        replace h1 := h1.stp sw16
        replace hI := Rep.stp hI sw16
        replace hO := Rep.stp hO sw16
        replace hr1 := Rep.stp hr1 sw16
        replace hr2 := Rep.stp hr2 sw16
        replace hkr := hkr.stp sw16
        replace hsub := fun b h => sw16.sub b (hsub b h)
        replace hlow := sw16.low
        replace hB := Nat.le_trans hB sw16.upd.1
        replace hS : Ext w16 w16 := ext_refl _
        replace h2 : MB w.heap.size _ w16 b2 _ [.int .u8 tyRow.op, .string tyRow.name, .int .i64 tyRow.n, kvr] := ⟨hw16, h2.inM, h2.ge⟩
        have D_h1 := h1
        have D_h2 := h2.box
        have D_hkr := hkr
        refine a_end (by kernel_rfl) ?_
        refine x_seq (q0 ?_)
        refine l_cons (o_lds tbOk (fun j v hv => h2.cell j v hv) rfl rfl rfl rfl rfl rfl ?_)
        refine l_cons (o_call fo25 rfl rfl rfl (Flat_spec tyRow _ _ _ hr2 hlow psz_row) ?_)
        rintro _ w17 ⟨⟨xv, tv, rfl, hfl, htl⟩, ew17⟩
        rw [flat_row] at hfl htl
        simp only at hfl htl
        replace h2 := h2.ext hlow hB ew17
        replace hE := hE.trans (Below.mono ew17 hB)
        replace hnone := Rep.ext hnone ew17
        replace h1 := h1.ext ew17
        replace hI := Rep.ext hI ew17
        replace hO := Rep.ext hO ew17
        replace hr1 := Rep.ext hr1 ew17
        replace hr2 := Rep.ext hr2 ew17
        replace hkr := hkr.ext ew17
        replace hlow := hlow.ext ew17
        replace hB := Nat.le_trans hB ew17.size
        obtain ⟨kve, rfl, ope, nme, n64e, hke⟩ := ty_open htl
        refine l_p 3 tbOk rfl ?_
        refine l_cons (o_new tbOk rfl rfl rfl ?_)
        intro b4 w18 qb4 ew18 hb4
        have nb4 := nM_of hlow qb4
        refine l_p 1 tbOk rfl ?_
        refine l_cons (o_st tbOk hb4 rfl rfl rfl rfl (Rep.one htl) rfl rfl ?_)
        intro w19 h4 uw19 bew19
        have ew19 : Ext w17 w19 := ew18.trans (bew19 _ (Nat.le_of_eq qb4.symm))
        replace h2 := h2.ext hlow hB ew19
        replace hE := hE.trans (Below.mono ew19 hB)
        replace hnone := Rep.ext hnone ew19
        replace h1 := h1.ext ew19
        replace hI := Rep.ext hI ew19
        replace hO := Rep.ext hO ew19
        replace hr1 := Rep.ext hr1 ew19
        replace hr2 := Rep.ext hr2 ew19
        replace hkr := hkr.ext ew19
        replace hfl := hfl.ext ew19
        replace htl := Rep.ext htl ew19
        replace hke := hke.ext ew19
        replace hlow := hlow.ext ew19
        replace hB := Nat.le_trans hB ew19.size
        replace h4 : Box w19 b4 25 [.int .u8 tyNone.op, .string tyNone.name, .int .i64 tyNone.n, kve] := h4
        replace h4 := h4.at nb4
        refine q1 (q0 (l_p 1 tbOk rfl ?_))
        refine l_cons (o_len tbOk hfl rfl rfl rfl rfl rfl ?_)
        refine l_p 2 tbOk rfl ?_
        refine l_splitP 19 _ rfl (fun c5 => ?_) (fun c5 => ?_)
        · refine l_p 1 tbOk rfl ?_
          refine l_cons (o_ixS tbOk hfl (show _ = some (⟨⟨#[97]⟩, tyA⟩ : Fld) from rfl) rfl rfl rfl rfl rfl rfl rfl rfl rfl ?_)
          intro eb0 eo0 eu0 hy0 hat0
          obtain ⟨szf0, kvf0, rfl, hyf0⟩ := fld_open hy0
          replace hat0 : At _ w19 eb0 eo0 [.string (⟨⟨#[97]⟩, tyA⟩ : Fld).name, .int .u8 (⟨⟨#[97]⟩, tyA⟩ : Fld).ty.op, .string (⟨⟨#[97]⟩, tyA⟩ : Fld).ty.name, .int .i64 (⟨⟨#[97]⟩, tyA⟩ : Fld).ty.n, kvf0] := hat0
          refine l_p 1 tbOk rfl ?_
          refine l_cons (o_ld tbOk (hat0.cell 0 _ rfl) rfl rfl rfl rfl rfl ?_)
          refine l_p 3 tbOk rfl ?_
          refine l_splitP 26 _ rfl (fun c6 => ?_) (fun c6 => ?_)
          · refine l_p 1 tbOk rfl ?_
            refine l_cons (o_ixS tbOk hfl (show _ = some (⟨⟨#[98]⟩, tyB⟩ : Fld) from rfl) rfl rfl rfl rfl rfl rfl rfl rfl rfl ?_)
            intro eb1 eo1 eu1 hy1 hat1
            obtain ⟨szf1, kvf1, rfl, hyf1⟩ := fld_open hy1
            replace hat1 : At _ w19 eb1 eo1 [.string (⟨⟨#[98]⟩, tyB⟩ : Fld).name, .int .u8 (⟨⟨#[98]⟩, tyB⟩ : Fld).ty.op, .string (⟨⟨#[98]⟩, tyB⟩ : Fld).ty.name, .int .i64 (⟨⟨#[98]⟩, tyB⟩ : Fld).ty.n, kvf1] := hat1
            refine l_p 1 tbOk rfl ?_
            refine l_cons (o_ld tbOk (hat1.cell 0 _ rfl) rfl rfl rfl rfl rfl ?_)
            refine l_p 3 tbOk rfl ?_
            refine l_splitP 33 _ rfl (fun c7 => ?_) (fun c7 => ?_)
            · refine l_p 1 tbOk rfl ?_
              refine l_cons (o_ixS tbOk hfl (show _ = some (⟨⟨#[97]⟩, tyA⟩ : Fld) from rfl) rfl rfl rfl rfl rfl rfl rfl rfl rfl ?_)
              intro eb2 eo2 eu2 hy2 hat2
              obtain ⟨szf2, kvf2, rfl, hyf2⟩ := fld_open hy2
              replace hat2 : At _ w19 eb2 eo2 [.string (⟨⟨#[97]⟩, tyA⟩ : Fld).name, .int .u8 (⟨⟨#[97]⟩, tyA⟩ : Fld).ty.op, .string (⟨⟨#[97]⟩, tyA⟩ : Fld).ty.name, .int .i64 (⟨⟨#[97]⟩, tyA⟩ : Fld).ty.n, kvf2] := hat2
              refine l_p 2 tbOk rfl ?_
              refine l_cons (o_ld tbOk (hat2.cell 1 _ rfl) rfl rfl rfl rfl rfl ?_)
              refine l_p 3 tbOk rfl ?_
              refine l_splitP 41 _ rfl (fun c8 => ?_) (fun c8 => ?_)
              · refine l_cons (o_lds tbOk (fun j v hv => h4.cell j v hv) rfl rfl rfl rfl rfl rfl ?_)
                refine l_cons (o_lds tbOk (fun j v hv => h1.cell j v hv) rfl rfl rfl rfl rfl rfl ?_)
                refine l_cons (o_call fo22 rfl rfl rfl (alike_spec _ _ _ _ _ _ htl hnone hlow) ?_)
                rintro _ w20 ⟨rfl, ew20⟩
                replace h2 := h2.ext hlow hB ew20
                replace hE := hE.trans (Below.mono ew20 hB)
                replace hnone := Rep.ext hnone ew20
                replace h1 := h1.ext ew20
                replace hI := Rep.ext hI ew20
                replace hO := Rep.ext hO ew20
                replace hr1 := Rep.ext hr1 ew20
                replace hr2 := Rep.ext hr2 ew20
                replace hkr := hkr.ext ew20
                replace hfl := hfl.ext ew20
                replace htl := Rep.ext htl ew20
                replace hke := hke.ext ew20
                replace h4 := h4.ext ew20
                replace hat0 := hat0.ext ew20
                replace hat1 := hat1.ext ew20
                replace hat2 := hat2.ext ew20
                replace hlow := hlow.ext ew20
                replace hB := Nat.le_trans hB ew20.size
                refine l_p 2 tbOk rfl (q1 (c_ret (x_ret1 rfl rfl ?_)))
                exact ⟨by rw [cl_true rfl], hE⟩
              exact absurd (by first | rfl | decide) c8
            exact absurd (by first | rfl | decide) c7
          exact absurd (by first | rfl | decide) c6
        exact absurd (by first | rfl | decide) c5
      refine o_new tbOk rfl rfl rfl ?_
      intro b2 w21 qb2 ew21 hb2
      have gS_b2 := Nat.le_trans hS.size (Nat.le_of_eq qb2.symm)
      replace hS := hS.then ew21
      have sw21 := Stp.add ew21 hlow hB (Nat.le_of_eq qb2.symm) hb2.lt
      have h2 : MB w.heap.size (Rw.Add M b2) w21 b2 25 [.int .u8 0, .string ⟨#[]⟩, .int .i64 0, .slice none 0 0] := MB.mk' hb2 qb2 hB
      replace hE := hE.trans sw21.below
      replace hnone := Rep.stp hnone sw21
      replace h1 := h1.stp sw21
      replace hI := Rep.stp hI sw21
      replace hO := Rep.stp hO sw21
      replace hsub := fun b h => sw21.sub b (hsub b h)
      replace hlow := sw21.low
      replace hB := Nat.le_trans hB sw21.upd.1
      refine ⟨hS, ?_⟩
      refine a_one 3 rfl (by kernel_rfl) (o_call fo63 rfl rfl rfl (field_spec ⟨#[97]⟩ tyA tyNone _ _ _ _ (by decide) hO hnone hlow) ?_)
      rintro vhr1 w22 ⟨hr1, ew22⟩
      replace hS := hS.then ew22
      replace h2 := h2.ext hlow hB ew22
      replace hE := hE.trans (Below.mono ew22 hB)
      replace hnone := Rep.ext hnone ew22
      replace h1 := h1.ext ew22
      replace hI := Rep.ext hI ew22
      replace hO := Rep.ext hO ew22
      replace hlow := hlow.ext ew22
      replace hB := Nat.le_trans hB ew22.size
      refine ⟨hS, ?_⟩
      refine a_one 4 rfl (by kernel_rfl) (o_call fo63 rfl rfl rfl (field_spec ⟨#[98]⟩ tyB (Ty.mk 11 ⟨#[97]⟩ 0 [tyA, tyNone]) _ _ _ _ (by decide) hI hr1 hlow) ?_)
      rintro vhr2 w23 ⟨hr2, ew23⟩
      replace hS := hS.then ew23
      replace h2 := h2.ext hlow hB ew23
      replace hE := hE.trans (Below.mono ew23 hB)
      replace hnone := Rep.ext hnone ew23
      replace h1 := h1.ext ew23
      replace hI := Rep.ext hI ew23
      replace hO := Rep.ext hO ew23
      replace hr1 := Rep.ext hr1 ew23
      replace hlow := hlow.ext ew23
      replace hB := Nat.le_trans hB ew23.size
      refine ⟨hS, ?_⟩
      replace hr2 : Rep.R _ w23 vhr2 tyRow := hr2
      obtain ⟨kvr, rfl, opr, nmr, n64r, hkr⟩ := ty_open hr2
      refine a_barS Ext 6 rfl (by kernel_rfl) (by kernel_rfl) (o_st tbOk h2.box rfl rfl rfl rfl (Rep.one hr2) rfl rfl ?_)
      intro w24 hw24 qw24 bew24
      have uw24 : UpdB _ _ _ := ⟨qw24, bew24⟩
      have sw24 := uw24.stp h2.inM hlow h2.ge
      have frw24 := qw24.2
      replace hE := hE.trans sw24.below
      replace hnone := Rep.stp hnone sw24
      replace h1 := h1.stp sw24
      replace hI := Rep.stp hI sw24
      replace hO := Rep.stp hO sw24
      replace hr1 := Rep.stp hr1 sw24
      replace hr2 := Rep.stp hr2 sw24
      replace hkr := hkr.stp sw24
      replace hsub := fun b h => sw24.sub b (hsub b h)
      replace hlow := sw24.low
      replace hB := Nat.le_trans hB sw24.upd.1
      replace hS : Ext w24 w24 := ext_refl _
      replace h2 : MB w.heap.size _ w24 b2 _ [.int .u8 tyRow.op, .string tyRow.name, .int .i64 tyRow.n, kvr] := ⟨hw24, h2.inM, h2.ge⟩
      have D_h1 := h1
      have D_h2 := h2.box
      have D_hkr := hkr
      refine a_end (by kernel_rfl) ?_
      refine x_seq (q0 ?_)
      refine l_cons (o_lds tbOk (fun j v hv => h2.cell j v hv) rfl rfl rfl rfl rfl rfl ?_)
      refine l_cons (o_call fo25 rfl rfl rfl (Flat_spec tyRow _ _ _ hr2 hlow psz_row) ?_)
      rintro _ w25 ⟨⟨xv, tv, rfl, hfl, htl⟩, ew25⟩
      rw [flat_row] at hfl htl
      simp only at hfl htl
      replace h2 := h2.ext hlow hB ew25
      replace hE := hE.trans (Below.mono ew25 hB)
      replace hnone := Rep.ext hnone ew25
      replace h1 := h1.ext ew25
      replace hI := Rep.ext hI ew25
      replace hO := Rep.ext hO ew25
      replace hr1 := Rep.ext hr1 ew25
      replace hr2 := Rep.ext hr2 ew25
      replace hkr := hkr.ext ew25
      replace hlow := hlow.ext ew25
      replace hB := Nat.le_trans hB ew25.size
      obtain ⟨kve, rfl, ope, nme, n64e, hke⟩ := ty_open htl
      refine l_p 3 tbOk rfl ?_
      refine l_cons (o_new tbOk rfl rfl rfl ?_)
      intro b4 w26 qb4 ew26 hb4
      have nb4 := nM_of hlow qb4
      refine l_p 1 tbOk rfl ?_
      refine l_cons (o_st tbOk hb4 rfl rfl rfl rfl (Rep.one htl) rfl rfl ?_)
      intro w27 h4 uw27 bew27
      have ew27 : Ext w25 w27 := ew26.trans (bew27 _ (Nat.le_of_eq qb4.symm))
      replace h2 := h2.ext hlow hB ew27
      replace hE := hE.trans (Below.mono ew27 hB)
      replace hnone := Rep.ext hnone ew27
      replace h1 := h1.ext ew27
      replace hI := Rep.ext hI ew27
      replace hO := Rep.ext hO ew27
      replace hr1 := Rep.ext hr1 ew27
      replace hr2 := Rep.ext hr2 ew27
      replace hkr := hkr.ext ew27
      replace hfl := hfl.ext ew27
      replace htl := Rep.ext htl ew27
      replace hke := hke.ext ew27
      replace hlow := hlow.ext ew27
      replace hB := Nat.le_trans hB ew27.size
      replace h4 : Box w27 b4 25 [.int .u8 tyNone.op, .string tyNone.name, .int .i64 tyNone.n, kve] := h4
      replace h4 := h4.at nb4
      refine q1 (q0 (l_p 1 tbOk rfl ?_))
      refine l_cons (o_len tbOk hfl rfl rfl rfl rfl rfl ?_)
      refine l_p 2 tbOk rfl ?_
      refine l_splitP 19 _ rfl (fun c9 => ?_) (fun c9 => ?_)
      · refine l_p 1 tbOk rfl ?_
        refine l_cons (o_ixS tbOk hfl (show _ = some (⟨⟨#[97]⟩, tyA⟩ : Fld) from rfl) rfl rfl rfl rfl rfl rfl rfl rfl rfl ?_)
        intro eb0 eo0 eu0 hy0 hat0
        obtain ⟨szf0, kvf0, rfl, hyf0⟩ := fld_open hy0
        replace hat0 : At _ w27 eb0 eo0 [.string (⟨⟨#[97]⟩, tyA⟩ : Fld).name, .int .u8 (⟨⟨#[97]⟩, tyA⟩ : Fld).ty.op, .string (⟨⟨#[97]⟩, tyA⟩ : Fld).ty.name, .int .i64 (⟨⟨#[97]⟩, tyA⟩ : Fld).ty.n, kvf0] := hat0
        refine l_p 1 tbOk rfl ?_
        refine l_cons (o_ld tbOk (hat0.cell 0 _ rfl) rfl rfl rfl rfl rfl ?_)
        refine l_p 3 tbOk rfl ?_
        refine l_splitP 26 _ rfl (fun c10 => ?_) (fun c10 => ?_)
        · refine l_p 1 tbOk rfl ?_
          refine l_cons (o_ixS tbOk hfl (show _ = some (⟨⟨#[98]⟩, tyB⟩ : Fld) from rfl) rfl rfl rfl rfl rfl rfl rfl rfl rfl ?_)
          intro eb1 eo1 eu1 hy1 hat1
          obtain ⟨szf1, kvf1, rfl, hyf1⟩ := fld_open hy1
          replace hat1 : At _ w27 eb1 eo1 [.string (⟨⟨#[98]⟩, tyB⟩ : Fld).name, .int .u8 (⟨⟨#[98]⟩, tyB⟩ : Fld).ty.op, .string (⟨⟨#[98]⟩, tyB⟩ : Fld).ty.name, .int .i64 (⟨⟨#[98]⟩, tyB⟩ : Fld).ty.n, kvf1] := hat1
          refine l_p 1 tbOk rfl ?_
          refine l_cons (o_ld tbOk (hat1.cell 0 _ rfl) rfl rfl rfl rfl rfl ?_)
          refine l_p 3 tbOk rfl ?_
          refine l_splitP 33 _ rfl (fun c11 => ?_) (fun c11 => ?_)
          · refine l_p 1 tbOk rfl ?_
            refine l_cons (o_ixS tbOk hfl (show _ = some (⟨⟨#[97]⟩, tyA⟩ : Fld) from rfl) rfl rfl rfl rfl rfl rfl rfl rfl rfl ?_)
            intro eb2 eo2 eu2 hy2 hat2
            obtain ⟨szf2, kvf2, rfl, hyf2⟩ := fld_open hy2
            replace hat2 : At _ w27 eb2 eo2 [.string (⟨⟨#[97]⟩, tyA⟩ : Fld).name, .int .u8 (⟨⟨#[97]⟩, tyA⟩ : Fld).ty.op, .string (⟨⟨#[97]⟩, tyA⟩ : Fld).ty.name, .int .i64 (⟨⟨#[97]⟩, tyA⟩ : Fld).ty.n, kvf2] := hat2
            refine l_p 2 tbOk rfl ?_
            refine l_cons (o_ld tbOk (hat2.cell 1 _ rfl) rfl rfl rfl rfl rfl ?_)
            refine l_p 3 tbOk rfl ?_
            refine l_splitP 41 _ rfl (fun c12 => ?_) (fun c12 => ?_)
            · refine l_cons (o_lds tbOk (fun j v hv => h4.cell j v hv) rfl rfl rfl rfl rfl rfl ?_)
              refine l_cons (o_lds tbOk (fun j v hv => h1.cell j v hv) rfl rfl rfl rfl rfl rfl ?_)
              refine l_cons (o_call fo22 rfl rfl rfl (alike_spec _ _ _ _ _ _ htl hnone hlow) ?_)
              rintro _ w28 ⟨rfl, ew28⟩
              replace h2 := h2.ext hlow hB ew28
              replace hE := hE.trans (Below.mono ew28 hB)
              replace hnone := Rep.ext hnone ew28
              replace h1 := h1.ext ew28
              replace hI := Rep.ext hI ew28
              replace hO := Rep.ext hO ew28
              replace hr1 := Rep.ext hr1 ew28
              replace hr2 := Rep.ext hr2 ew28
              replace hkr := hkr.ext ew28
              replace hfl := hfl.ext ew28
              replace htl := Rep.ext htl ew28
              replace hke := hke.ext ew28
              replace h4 := h4.ext ew28
              replace hat0 := hat0.ext ew28
              replace hat1 := hat1.ext ew28
              replace hat2 := hat2.ext ew28
              replace hlow := hlow.ext ew28
              replace hB := Nat.le_trans hB ew28.size
              refine l_p 2 tbOk rfl (q1 (c_ret (x_ret1 rfl rfl ?_)))
              exact ⟨by rw [cl_true rfl], hE⟩
            exact absurd (by first | rfl | decide) c12
          exact absurd (by first | rfl | decide) c11
        exact absurd (by first | rfl | decide) c10
      exact absurd (by first | rfl | decide) c9
    refine o_new tbOk rfl rfl rfl ?_
    intro b2 w29 qb2 ew29 hb2
    have gS_b2 := Nat.le_trans hS.size (Nat.le_of_eq qb2.symm)
    replace hS := hS.then ew29
    have sw29 := Stp.add ew29 hlow hB (Nat.le_of_eq qb2.symm) hb2.lt
    have h2 : MB w.heap.size (Rw.Add M b2) w29 b2 25 [.int .u8 0, .string ⟨#[]⟩, .int .i64 0, .slice none 0 0] := MB.mk' hb2 qb2 hB
    replace hE := hE.trans sw29.below
    replace hnone := Rep.stp hnone sw29
    replace h1 := h1.stp sw29
    replace hI := Rep.stp hI sw29
    replace hsub := fun b h => sw29.sub b (hsub b h)
    replace hlow := sw29.low
    replace hB := Nat.le_trans hB sw29.upd.1
    refine ⟨hS, ?_⟩
    refine a_one 1 rfl (by kernel_rfl) (o_call fo34 rfl rfl rfl (bool_spec _ _ hlow) ?_)
    rintro vhO w30 ⟨hO, ew30⟩
    replace hO : Rep.R _ w30 vhO tyA := hO
    replace hS := hS.then ew30
    replace h2 := h2.ext hlow hB ew30
    replace hE := hE.trans (Below.mono ew30 hB)
    replace hnone := Rep.ext hnone ew30
    replace h1 := h1.ext ew30
    replace hI := Rep.ext hI ew30
    replace hlow := hlow.ext ew30
    replace hB := Nat.le_trans hB ew30.size
    refine ⟨hS, ?_⟩
    refine a_one 3 rfl (by kernel_rfl) (o_call fo63 rfl rfl rfl (field_spec ⟨#[97]⟩ tyA tyNone _ _ _ _ (by decide) hO hnone hlow) ?_)
    rintro vhr1 w31 ⟨hr1, ew31⟩
    replace hS := hS.then ew31
    replace h2 := h2.ext hlow hB ew31
    replace hE := hE.trans (Below.mono ew31 hB)
    replace hnone := Rep.ext hnone ew31
    replace h1 := h1.ext ew31
    replace hI := Rep.ext hI ew31
    replace hO := Rep.ext hO ew31
    replace hlow := hlow.ext ew31
    replace hB := Nat.le_trans hB ew31.size
    refine ⟨hS, ?_⟩
    refine a_one 4 rfl (by kernel_rfl) (o_call fo63 rfl rfl rfl (field_spec ⟨#[98]⟩ tyB (Ty.mk 11 ⟨#[97]⟩ 0 [tyA, tyNone]) _ _ _ _ (by decide) hI hr1 hlow) ?_)
    rintro vhr2 w32 ⟨hr2, ew32⟩
    replace hS := hS.then ew32
    replace h2 := h2.ext hlow hB ew32
    replace hE := hE.trans (Below.mono ew32 hB)
    replace hnone := Rep.ext hnone ew32
    replace h1 := h1.ext ew32
    replace hI := Rep.ext hI ew32
    replace hO := Rep.ext hO ew32
    replace hr1 := Rep.ext hr1 ew32
    replace hlow := hlow.ext ew32
    replace hB := Nat.le_trans hB ew32.size
    refine ⟨hS, ?_⟩
    replace hr2 : Rep.R _ w32 vhr2 tyRow := hr2
    obtain ⟨kvr, rfl, opr, nmr, n64r, hkr⟩ := ty_open hr2
    refine a_barS Ext 6 rfl (by kernel_rfl) (by kernel_rfl) (o_st tbOk h2.box rfl rfl rfl rfl (Rep.one hr2) rfl rfl ?_)
    intro w33 hw33 qw33 bew33
    have uw33 : UpdB _ _ _ := ⟨qw33, bew33⟩
    have sw33 := uw33.stp h2.inM hlow h2.ge
    have frw33 := qw33.2
    replace hE := hE.trans sw33.below
    replace hnone := Rep.stp hnone sw33
    replace h1 := h1.stp sw33
    replace hI := Rep.stp hI sw33
    replace hO := Rep.stp hO sw33
    replace hr1 := Rep.stp hr1 sw33
    replace hr2 := Rep.stp hr2 sw33
    replace hkr := hkr.stp sw33
    replace hsub := fun b h => sw33.sub b (hsub b h)
    replace hlow := sw33.low
    replace hB := Nat.le_trans hB sw33.upd.1
    replace hS : Ext w33 w33 := ext_refl _
    replace h2 : MB w.heap.size _ w33 b2 _ [.int .u8 tyRow.op, .string tyRow.name, .int .i64 tyRow.n, kvr] := ⟨hw33, h2.inM, h2.ge⟩
    have D_h1 := h1
    have D_h2 := h2.box
    have D_hkr := hkr
    refine a_end (by kernel_rfl) ?_
    refine x_seq (q0 ?_)
    refine l_cons (o_lds tbOk (fun j v hv => h2.cell j v hv) rfl rfl rfl rfl rfl rfl ?_)
    refine l_cons (o_call fo25 rfl rfl rfl (Flat_spec tyRow _ _ _ hr2 hlow psz_row) ?_)
    rintro _ w34 ⟨⟨xv, tv, rfl, hfl, htl⟩, ew34⟩
    rw [flat_row] at hfl htl
    simp only at hfl htl
    replace h2 := h2.ext hlow hB ew34
    replace hE := hE.trans (Below.mono ew34 hB)
    replace hnone := Rep.ext hnone ew34
    replace h1 := h1.ext ew34
    replace hI := Rep.ext hI ew34
    replace hO := Rep.ext hO ew34
    replace hr1 := Rep.ext hr1 ew34
    replace hr2 := Rep.ext hr2 ew34
    replace hkr := hkr.ext ew34
    replace hlow := hlow.ext ew34
    replace hB := Nat.le_trans hB ew34.size
    obtain ⟨kve, rfl, ope, nme, n64e, hke⟩ := ty_open htl
    refine l_p 3 tbOk rfl ?_
    refine l_cons (o_new tbOk rfl rfl rfl ?_)
    intro b4 w35 qb4 ew35 hb4
    have nb4 := nM_of hlow qb4
    refine l_p 1 tbOk rfl ?_
    refine l_cons (o_st tbOk hb4 rfl rfl rfl rfl (Rep.one htl) rfl rfl ?_)
    intro w36 h4 uw36 bew36
    have ew36 : Ext w34 w36 := ew35.trans (bew36 _ (Nat.le_of_eq qb4.symm))
    replace h2 := h2.ext hlow hB ew36
    replace hE := hE.trans (Below.mono ew36 hB)
    replace hnone := Rep.ext hnone ew36
    replace h1 := h1.ext ew36
    replace hI := Rep.ext hI ew36
    replace hO := Rep.ext hO ew36
    replace hr1 := Rep.ext hr1 ew36
    replace hr2 := Rep.ext hr2 ew36
    replace hkr := hkr.ext ew36
    replace hfl := hfl.ext ew36
    replace htl := Rep.ext htl ew36
    replace hke := hke.ext ew36
    replace hlow := hlow.ext ew36
    replace hB := Nat.le_trans hB ew36.size
    replace h4 : Box w36 b4 25 [.int .u8 tyNone.op, .string tyNone.name, .int .i64 tyNone.n, kve] := h4
    replace h4 := h4.at nb4
    refine q1 (q0 (l_p 1 tbOk rfl ?_))
    refine l_cons (o_len tbOk hfl rfl rfl rfl rfl rfl ?_)
    refine l_p 2 tbOk rfl ?_
    refine l_splitP 19 _ rfl (fun c13 => ?_) (fun c13 => ?_)
    · refine l_p 1 tbOk rfl ?_
      refine l_cons (o_ixS tbOk hfl (show _ = some (⟨⟨#[97]⟩, tyA⟩ : Fld) from rfl) rfl rfl rfl rfl rfl rfl rfl rfl rfl ?_)
      intro eb0 eo0 eu0 hy0 hat0
      obtain ⟨szf0, kvf0, rfl, hyf0⟩ := fld_open hy0
      replace hat0 : At _ w36 eb0 eo0 [.string (⟨⟨#[97]⟩, tyA⟩ : Fld).name, .int .u8 (⟨⟨#[97]⟩, tyA⟩ : Fld).ty.op, .string (⟨⟨#[97]⟩, tyA⟩ : Fld).ty.name, .int .i64 (⟨⟨#[97]⟩, tyA⟩ : Fld).ty.n, kvf0] := hat0
      refine l_p 1 tbOk rfl ?_
      refine l_cons (o_ld tbOk (hat0.cell 0 _ rfl) rfl rfl rfl rfl rfl ?_)
      refine l_p 3 tbOk rfl ?_
      refine l_splitP 26 _ rfl (fun c14 => ?_) (fun c14 => ?_)
      · refine l_p 1 tbOk rfl ?_
        refine l_cons (o_ixS tbOk hfl (show _ = some (⟨⟨#[98]⟩, tyB⟩ : Fld) from rfl) rfl rfl rfl rfl rfl rfl rfl rfl rfl ?_)
        intro eb1 eo1 eu1 hy1 hat1
        obtain ⟨szf1, kvf1, rfl, hyf1⟩ := fld_open hy1
        replace hat1 : At _ w36 eb1 eo1 [.string (⟨⟨#[98]⟩, tyB⟩ : Fld).name, .int .u8 (⟨⟨#[98]⟩, tyB⟩ : Fld).ty.op, .string (⟨⟨#[98]⟩, tyB⟩ : Fld).ty.name, .int .i64 (⟨⟨#[98]⟩, tyB⟩ : Fld).ty.n, kvf1] := hat1
        refine l_p 1 tbOk rfl ?_
        refine l_cons (o_ld tbOk (hat1.cell 0 _ rfl) rfl rfl rfl rfl rfl ?_)
        refine l_p 3 tbOk rfl ?_
        refine l_splitP 33 _ rfl (fun c15 => ?_) (fun c15 => ?_)
        · refine l_p 1 tbOk rfl ?_
          refine l_cons (o_ixS tbOk hfl (show _ = some (⟨⟨#[97]⟩, tyA⟩ : Fld) from rfl) rfl rfl rfl rfl rfl rfl rfl rfl rfl ?_)
          intro eb2 eo2 eu2 hy2 hat2
          obtain ⟨szf2, kvf2, rfl, hyf2⟩ := fld_open hy2
          replace hat2 : At _ w36 eb2 eo2 [.string (⟨⟨#[97]⟩, tyA⟩ : Fld).name, .int .u8 (⟨⟨#[97]⟩, tyA⟩ : Fld).ty.op, .string (⟨⟨#[97]⟩, tyA⟩ : Fld).ty.name, .int .i64 (⟨⟨#[97]⟩, tyA⟩ : Fld).ty.n, kvf2] := hat2
          refine l_p 2 tbOk rfl ?_
          refine l_cons (o_ld tbOk (hat2.cell 1 _ rfl) rfl rfl rfl rfl rfl ?_)
          refine l_p 3 tbOk rfl ?_
          refine l_splitP 41 _ rfl (fun c16 => ?_) (fun c16 => ?_)
          · refine l_cons (o_lds tbOk (fun j v hv => h4.cell j v hv) rfl rfl rfl rfl rfl rfl ?_)
            refine l_cons (o_lds tbOk (fun j v hv => h1.cell j v hv) rfl rfl rfl rfl rfl rfl ?_)
            refine l_cons (o_call fo22 rfl rfl rfl (alike_spec _ _ _ _ _ _ htl hnone hlow) ?_)
            rintro _ w37 ⟨rfl, ew37⟩
            replace h2 := h2.ext hlow hB ew37
            replace hE := hE.trans (Below.mono ew37 hB)
            replace hnone := Rep.ext hnone ew37
            replace h1 := h1.ext ew37
            replace hI := Rep.ext hI ew37
            replace hO := Rep.ext hO ew37
            replace hr1 := Rep.ext hr1 ew37
            replace hr2 := Rep.ext hr2 ew37
            replace hkr := hkr.ext ew37
            replace hfl := hfl.ext ew37
            replace htl := Rep.ext htl ew37
            replace hke := hke.ext ew37
            replace h4 := h4.ext ew37
            replace hat0 := hat0.ext ew37
            replace hat1 := hat1.ext ew37
            replace hat2 := hat2.ext ew37
            replace hlow := hlow.ext ew37
            replace hB := Nat.le_trans hB ew37.size
            refine l_p 2 tbOk rfl (q1 (c_ret (x_ret1 rfl rfl ?_)))
            exact ⟨by rw [cl_true rfl], hE⟩
          exact absurd (by first | rfl | decide) c16
        exact absurd (by first | rfl | decide) c15
      exact absurd (by first | rfl | decide) c14
    exact absurd (by first | rfl | decide) c13
  refine o_new tbOk rfl rfl rfl ?_
  intro b2 w38 qb2 ew38 hb2
  have gS_b2 := Nat.le_trans hS.size (Nat.le_of_eq qb2.symm)
  replace hS := hS.then ew38
  have sw38 := Stp.add ew38 hlow hB (Nat.le_of_eq qb2.symm) hb2.lt
  have h2 : MB w.heap.size (Rw.Add M b2) w38 b2 25 [.int .u8 0, .string ⟨#[]⟩, .int .i64 0, .slice none 0 0] := MB.mk' hb2 qb2 hB
  replace hE := hE.trans sw38.below
  replace hnone := Rep.stp hnone sw38
  replace h1 := h1.stp sw38
  replace hsub := fun b h => sw38.sub b (hsub b h)
  replace hlow := sw38.low
  replace hB := Nat.le_trans hB sw38.upd.1
  refine ⟨hS, ?_⟩
  refine a_one 0 rfl (by kernel_rfl) (o_call fo33 rfl rfl rfl (int_spec _ _ hlow) ?_)
  rintro vhI w39 ⟨hI, ew39⟩
  replace hI : Rep.R _ w39 vhI tyB := hI
  replace hS := hS.then ew39
  replace h2 := h2.ext hlow hB ew39
  replace hE := hE.trans (Below.mono ew39 hB)
  replace hnone := Rep.ext hnone ew39
  replace h1 := h1.ext ew39
  replace hlow := hlow.ext ew39
  replace hB := Nat.le_trans hB ew39.size
  refine ⟨hS, ?_⟩
  refine a_one 1 rfl (by kernel_rfl) (o_call fo34 rfl rfl rfl (bool_spec _ _ hlow) ?_)
  rintro vhO w40 ⟨hO, ew40⟩
  replace hO : Rep.R _ w40 vhO tyA := hO
  replace hS := hS.then ew40
  replace h2 := h2.ext hlow hB ew40
  replace hE := hE.trans (Below.mono ew40 hB)
  replace hnone := Rep.ext hnone ew40
  replace h1 := h1.ext ew40
  replace hI := Rep.ext hI ew40
  replace hlow := hlow.ext ew40
  replace hB := Nat.le_trans hB ew40.size
  refine ⟨hS, ?_⟩
  refine a_one 3 rfl (by kernel_rfl) (o_call fo63 rfl rfl rfl (field_spec ⟨#[97]⟩ tyA tyNone _ _ _ _ (by decide) hO hnone hlow) ?_)
  rintro vhr1 w41 ⟨hr1, ew41⟩
  replace hS := hS.then ew41
  replace h2 := h2.ext hlow hB ew41
  replace hE := hE.trans (Below.mono ew41 hB)
  replace hnone := Rep.ext hnone ew41
  replace h1 := h1.ext ew41
  replace hI := Rep.ext hI ew41
  replace hO := Rep.ext hO ew41
  replace hlow := hlow.ext ew41
  replace hB := Nat.le_trans hB ew41.size
  refine ⟨hS, ?_⟩
  refine a_one 4 rfl (by kernel_rfl) (o_call fo63 rfl rfl rfl (field_spec ⟨#[98]⟩ tyB (Ty.mk 11 ⟨#[97]⟩ 0 [tyA, tyNone]) _ _ _ _ (by decide) hI hr1 hlow) ?_)
  rintro vhr2 w42 ⟨hr2, ew42⟩
  replace hS := hS.then ew42
  replace h2 := h2.ext hlow hB ew42
  replace hE := hE.trans (Below.mono ew42 hB)
  replace hnone := Rep.ext hnone ew42
  replace h1 := h1.ext ew42
  replace hI := Rep.ext hI ew42
  replace hO := Rep.ext hO ew42
  replace hr1 := Rep.ext hr1 ew42
  replace hlow := hlow.ext ew42
  replace hB := Nat.le_trans hB ew42.size
  refine ⟨hS, ?_⟩
  replace hr2 : Rep.R _ w42 vhr2 tyRow := hr2
  obtain ⟨kvr, rfl, opr, nmr, n64r, hkr⟩ := ty_open hr2
  refine a_barS Ext 6 rfl (by kernel_rfl) (by kernel_rfl) (o_st tbOk h2.box rfl rfl rfl rfl (Rep.one hr2) rfl rfl ?_)
  intro w43 hw43 qw43 bew43
  have uw43 : UpdB _ _ _ := ⟨qw43, bew43⟩
  have sw43 := uw43.stp h2.inM hlow h2.ge
  have frw43 := qw43.2
  replace hE := hE.trans sw43.below
  replace hnone := Rep.stp hnone sw43
  replace h1 := h1.stp sw43
  replace hI := Rep.stp hI sw43
  replace hO := Rep.stp hO sw43
  replace hr1 := Rep.stp hr1 sw43
  replace hr2 := Rep.stp hr2 sw43
  replace hkr := hkr.stp sw43
  replace hsub := fun b h => sw43.sub b (hsub b h)
  replace hlow := sw43.low
  replace hB := Nat.le_trans hB sw43.upd.1
  replace hS : Ext w43 w43 := ext_refl _
  replace h2 : MB w.heap.size _ w43 b2 _ [.int .u8 tyRow.op, .string tyRow.name, .int .i64 tyRow.n, kvr] := ⟨hw43, h2.inM, h2.ge⟩
  have D_h1 := h1
  have D_h2 := h2.box
  have D_hkr := hkr
  refine a_end (by kernel_rfl) ?_
  refine x_seq (q0 ?_)
  refine l_cons (o_lds tbOk (fun j v hv => h2.cell j v hv) rfl rfl rfl rfl rfl rfl ?_)
  refine l_cons (o_call fo25 rfl rfl rfl (Flat_spec tyRow _ _ _ hr2 hlow psz_row) ?_)
  rintro _ w44 ⟨⟨xv, tv, rfl, hfl, htl⟩, ew44⟩
  rw [flat_row] at hfl htl
  simp only at hfl htl
  replace h2 := h2.ext hlow hB ew44
  replace hE := hE.trans (Below.mono ew44 hB)
  replace hnone := Rep.ext hnone ew44
  replace h1 := h1.ext ew44
  replace hI := Rep.ext hI ew44
  replace hO := Rep.ext hO ew44
  replace hr1 := Rep.ext hr1 ew44
  replace hr2 := Rep.ext hr2 ew44
  replace hkr := hkr.ext ew44
  replace hlow := hlow.ext ew44
  replace hB := Nat.le_trans hB ew44.size
  obtain ⟨kve, rfl, ope, nme, n64e, hke⟩ := ty_open htl
  refine l_p 3 tbOk rfl ?_
  refine l_cons (o_new tbOk rfl rfl rfl ?_)
  intro b4 w45 qb4 ew45 hb4
  have nb4 := nM_of hlow qb4
  refine l_p 1 tbOk rfl ?_
  refine l_cons (o_st tbOk hb4 rfl rfl rfl rfl (Rep.one htl) rfl rfl ?_)
  intro w46 h4 uw46 bew46
  have ew46 : Ext w44 w46 := ew45.trans (bew46 _ (Nat.le_of_eq qb4.symm))
  replace h2 := h2.ext hlow hB ew46
  replace hE := hE.trans (Below.mono ew46 hB)
  replace hnone := Rep.ext hnone ew46
  replace h1 := h1.ext ew46
  replace hI := Rep.ext hI ew46
  replace hO := Rep.ext hO ew46
  replace hr1 := Rep.ext hr1 ew46
  replace hr2 := Rep.ext hr2 ew46
  replace hkr := hkr.ext ew46
  replace hfl := hfl.ext ew46
  replace htl := Rep.ext htl ew46
  replace hke := hke.ext ew46
  replace hlow := hlow.ext ew46
  replace hB := Nat.le_trans hB ew46.size
  replace h4 : Box w46 b4 25 [.int .u8 tyNone.op, .string tyNone.name, .int .i64 tyNone.n, kve] := h4
  replace h4 := h4.at nb4
  refine q1 (q0 (l_p 1 tbOk rfl ?_))
  refine l_cons (o_len tbOk hfl rfl rfl rfl rfl rfl ?_)
  refine l_p 2 tbOk rfl ?_
  refine l_splitP 19 _ rfl (fun c17 => ?_) (fun c17 => ?_)
  · refine l_p 1 tbOk rfl ?_
    refine l_cons (o_ixS tbOk hfl (show _ = some (⟨⟨#[97]⟩, tyA⟩ : Fld) from rfl) rfl rfl rfl rfl rfl rfl rfl rfl rfl ?_)
    intro eb0 eo0 eu0 hy0 hat0
    obtain ⟨szf0, kvf0, rfl, hyf0⟩ := fld_open hy0
    replace hat0 : At _ w46 eb0 eo0 [.string (⟨⟨#[97]⟩, tyA⟩ : Fld).name, .int .u8 (⟨⟨#[97]⟩, tyA⟩ : Fld).ty.op, .string (⟨⟨#[97]⟩, tyA⟩ : Fld).ty.name, .int .i64 (⟨⟨#[97]⟩, tyA⟩ : Fld).ty.n, kvf0] := hat0
    refine l_p 1 tbOk rfl ?_
    refine l_cons (o_ld tbOk (hat0.cell 0 _ rfl) rfl rfl rfl rfl rfl ?_)
    refine l_p 3 tbOk rfl ?_
    refine l_splitP 26 _ rfl (fun c18 => ?_) (fun c18 => ?_)
    · refine l_p 1 tbOk rfl ?_
      refine l_cons (o_ixS tbOk hfl (show _ = some (⟨⟨#[98]⟩, tyB⟩ : Fld) from rfl) rfl rfl rfl rfl rfl rfl rfl rfl rfl ?_)
      intro eb1 eo1 eu1 hy1 hat1
      obtain ⟨szf1, kvf1, rfl, hyf1⟩ := fld_open hy1
      replace hat1 : At _ w46 eb1 eo1 [.string (⟨⟨#[98]⟩, tyB⟩ : Fld).name, .int .u8 (⟨⟨#[98]⟩, tyB⟩ : Fld).ty.op, .string (⟨⟨#[98]⟩, tyB⟩ : Fld).ty.name, .int .i64 (⟨⟨#[98]⟩, tyB⟩ : Fld).ty.n, kvf1] := hat1
      refine l_p 1 tbOk rfl ?_
      refine l_cons (o_ld tbOk (hat1.cell 0 _ rfl) rfl rfl rfl rfl rfl ?_)
      refine l_p 3 tbOk rfl ?_
      refine l_splitP 33 _ rfl (fun c19 => ?_) (fun c19 => ?_)
      · refine l_p 1 tbOk rfl ?_
        refine l_cons (o_ixS tbOk hfl (show _ = some (⟨⟨#[97]⟩, tyA⟩ : Fld) from rfl) rfl rfl rfl rfl rfl rfl rfl rfl rfl ?_)
        intro eb2 eo2 eu2 hy2 hat2
        obtain ⟨szf2, kvf2, rfl, hyf2⟩ := fld_open hy2
        replace hat2 : At _ w46 eb2 eo2 [.string (⟨⟨#[97]⟩, tyA⟩ : Fld).name, .int .u8 (⟨⟨#[97]⟩, tyA⟩ : Fld).ty.op, .string (⟨⟨#[97]⟩, tyA⟩ : Fld).ty.name, .int .i64 (⟨⟨#[97]⟩, tyA⟩ : Fld).ty.n, kvf2] := hat2
        refine l_p 2 tbOk rfl ?_
        refine l_cons (o_ld tbOk (hat2.cell 1 _ rfl) rfl rfl rfl rfl rfl ?_)
        refine l_p 3 tbOk rfl ?_
        refine l_splitP 41 _ rfl (fun c20 => ?_) (fun c20 => ?_)
        · refine l_cons (o_lds tbOk (fun j v hv => h4.cell j v hv) rfl rfl rfl rfl rfl rfl ?_)
          refine l_cons (o_lds tbOk (fun j v hv => h1.cell j v hv) rfl rfl rfl rfl rfl rfl ?_)
          refine l_cons (o_call fo22 rfl rfl rfl (alike_spec _ _ _ _ _ _ htl hnone hlow) ?_)
          rintro _ w47 ⟨rfl, ew47⟩
          replace h2 := h2.ext hlow hB ew47
          replace hE := hE.trans (Below.mono ew47 hB)
          replace hnone := Rep.ext hnone ew47
          replace h1 := h1.ext ew47
          replace hI := Rep.ext hI ew47
          replace hO := Rep.ext hO ew47
          replace hr1 := Rep.ext hr1 ew47
          replace hr2 := Rep.ext hr2 ew47
          replace hkr := hkr.ext ew47
          replace hfl := hfl.ext ew47
          replace htl := Rep.ext htl ew47
          replace hke := hke.ext ew47
          replace h4 := h4.ext ew47
          replace hat0 := hat0.ext ew47
          replace hat1 := hat1.ext ew47
          replace hat2 := hat2.ext ew47
          replace hlow := hlow.ext ew47
          replace hB := Nat.le_trans hB ew47.size
          refine l_p 2 tbOk rfl (q1 (c_ret (x_ret1 rfl rfl ?_)))
          exact ⟨by rw [cl_true rfl], hE⟩
        exact absurd (by first | rfl | decide) c20
      exact absurd (by first | rfl | decide) c19
    exact absurd (by first | rfl | decide) c18
  exact absurd (by first | rfl | decide) c17

end Go.Proofs.Ytpoahmeacjggfaa
