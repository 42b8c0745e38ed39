/- Walks: a row's fields and its tail. Printed by wip/walks/kinds8.py. -/
import Derived.Test.YtohfnpmehgpphaaWg
import Derived.Test.YtohfnpmehgpphaaWe
import Derived.Test.YtohfnpmehgpphaaWd
import Derived.Test.YtohfnpmehgpphaaPlainF
namespace Go.Proofs.Ytohfnpmehgpphaa
open Go Rw Go.RowKit
set_option maxRecDepth 100000

/-- flat: a row's fields, sorted, and its tail, as they are. -/
theorem flat_spec (t : Ty) (M : Nat → Prop) (w : World) (v : Value) (hsh : shapeF t 114 = true) (ht : Rep.R M w v t) (hlow0 : Low M w) (hsz : psz t ≤ 2000000) :
    Calls Try.prog 92 #[v] w (Ret fun r w' => ∃ x tv M', r = .tuple #[x, tv] ∧ OwnSl 56 w.heap.size M' w' x (fieldsF (spineF t).1) ∧ Rep.R M' w' tv (spineF t).2 ∧ Stp w.heap.size M M' w w') := by
  have hlow := hlow0
  have hB : w.heap.size ≤ w.heap.size := Nat.le_refl _
  have hE : Below w.heap.size w w := Below.refl _ _
  have hsub : ∀ b, M b → M b := fun _ h => h
  obtain ⟨kv, rfl, op, nm, n64, hk⟩ := ty_open ht
  have hT : Stp w.heap.size M M w w := Stp.refl hlow
  have hsl := spine_len t
  refine c_enter (n := 26) Try.func92 rfl rfl rfl ?_
  refine q0 ?_
  refine l_cons (o_box rfl rfl rfl ?_)
  intro b1 w1 qb1 ew1 hb1
  have sw1 := Stp.add ew1 hlow hB (Nat.le_of_eq qb1.symm) hb1.lt
  have h1 : MB w.heap.size (Rw.Add M b1) w1 b1 40 [.int .u8 t.op, .string t.name, .int .i64 t.n, kv] := MB.mk' hb1 qb1 hB
  replace hT := hT.then sw1
  replace hE := hE.trans sw1.below
  replace ht := Rep.stp ht sw1
  replace hk := hk.stp sw1
  replace hsub := fun b h => sw1.sub b (hsub b h)
  replace hlow := sw1.low
  replace hB := Nat.le_trans hB sw1.upd.1
  refine l_p 1 tbOk rfl ?_
  refine l_cons (o_new tbOk rfl rfl rfl ?_)
  intro b3 w2 qb3 ew2 hb3
  have ne_h1_h3 : b1 ≠ b3 := by have := h1.lt; omega
  have sw2 := Stp.add ew2 hlow hB (Nat.le_of_eq qb3.symm) hb3.lt
  have h3 : MB w.heap.size (Rw.Add (Rw.Add M b1) b3) w2 b3 40 [.int .u8 0, .string ⟨#[]⟩, .int .i64 0, .slice none 0 0] := MB.mk' hb3 qb3 hB
  replace hT := hT.then sw2
  replace h1 := h1.stp sw2 (ew2.block b1 h1.lt)
  replace hE := hE.trans sw2.below
  replace ht := Rep.stp ht sw2
  replace hk := hk.stp sw2
  replace hsub := fun b h => sw2.sub b (hsub b h)
  replace hlow := sw2.low
  replace hB := Nat.le_trans hB sw2.upd.1
  refine q1 (q0 (l_p 1 tbOk rfl (q1 (c_seq (c_blk ?_)))))
  have d_ho_h1 : ∀ x, (.slice none 0 0 : Value).ownBlock = some x → x ≠ b1 := fun x hx => by simp [Value.ownBlock] at hx
  have d_ho_h3 : ∀ x, (.slice none 0 0 : Value).ownBlock = some x → x ≠ b3 := fun x hx => by simp [Value.ownBlock] at hx
  refine c_loop5 (X := Ty) (Y := Value) (Z := Value) (U := Nat → Prop) (V := List Fld) (fun t2 kv v M1 acc => [(1, .pointer (some ⟨b1, 0, none⟩)), (3, .pointer (some ⟨b3, 0, none⟩)), (4, v)]) (fun t2 kv v M1 acc w' => shapeF t2 114 = true ∧ acc ++ (spineF t2).1 = (spineF t).1 ∧ (spineF t2).2 = (spineF t).2 ∧ (0 ≤ t2.op ∧ t2.op ≤ 255) ∧ t2.name.size < 140737488355328 ∧ I64 t2.n ∧ OwnSl 56 w.heap.size M1 w' v acc ∧ MB w.heap.size M1 w' b1 40 [.int .u8 t2.op, .string t2.name, .int .i64 t2.n, kv] ∧ MB w.heap.size M1 w' b3 40 [.int .u8 0, .string ⟨#[]⟩, .int .i64 0, .slice none 0 0] ∧ (∀ x, (v : Value).ownBlock = some x → x ≠ b1) ∧ (∀ x, (v : Value).ownBlock = some x → x ≠ b3) ∧ Sl M1 w' kv t2.kids ∧ Stp w.heap.size M M1 w w' ∧ Low M1 w' ∧ (∀ b, M b → M1 b) ∧ Below w.heap.size w w' ∧ w.heap.size ≤ w'.heap.size) (fun t2 kv v M1 acc => psz t2) (t) (kv) (.slice none 0 0) ((Rw.Add (Rw.Add M b1) b3)) ([]) (s3 rfl rfl rfl) ?_ ?_
  · exact ⟨hsh, rfl, rfl, op, nm, n64, own_nil, h1, h3, d_ho_h1, d_ho_h3, hk, hT, hlow, hsub, hE, hB⟩
  clear hk
  rintro t2 kv v M1 acc w3 ⟨hs2, hacc, htl, op2, nm2, n2, ho, h1, h3, d_ho_h1, d_ho_h3, hk, hT, hlow, hsub, hE, hB⟩
  refine c_seq (q0 (l_p 1 tbOk rfl ?_))
  refine l_cons (o_ld tbOk (h1.cell 0 _ rfl) rfl rfl rfl rfl rfl ?_)
  refine l_p 1 tbOk rfl (q1 ?_)
  refine c_ifP _ rfl (fun hc => ?_) (fun hc => ?_)
  · obtain ⟨k, r, hks, hsk, hsr⟩ := shape_row hs2 (by omega)
    have hsp := spine_yes (by omega) hks
    have hlen : acc.length < (spineF t).1.length := by rw [← hacc, hsp, List.length_append, List.length_cons]; omega
    refine c_skip (x_seq (c_blk (c_seq ?_)))
    refine a_beg Ext rfl ?_
    intro w4 ew4
    replace hT := hT.then (Stp.ext ew4 hlow hB)
    replace ho := ho.ext hlow hB ew4
    replace h1 := h1.ext hlow hB ew4
    replace h3 := h3.ext hlow hB ew4
    replace hE := hE.trans (Below.mono ew4 hB)
    replace hk := hk.ext ew4
    replace hlow := hlow.ext ew4
    replace hB := Nat.le_trans hB ew4.size
    have hS : Ext w4 w4 := ext_refl _
    have D_h1 := h1.box
    have D_h3 := h3.box
    have D_hk := hk
    refine a_p 0 tbOk rfl rfl rfl rfl (by kernel_rfl) (fun _ _ _ h => h) hS ?_
    refine a_p 1 tbOk rfl rfl rfl rfl (by kernel_rfl) (fun _ _ _ h => h) hS ?_
    refine a_ld 2 tbOk (fun _ hs => (D_h1.ext hs).cell 1 _ rfl) rfl rfl rfl rfl rfl rfl (by kernel_rfl) (fun _ _ _ h => h) hS ?_
    refine a_p 3 tbOk rfl rfl rfl rfl (by kernel_rfl) (fun _ _ _ h => h) hS ?_
    refine a_ld 4 tbOk (fun _ hs => (D_h1.ext hs).cell 3 _ rfl) rfl rfl rfl rfl rfl rfl (by kernel_rfl) (fun _ _ _ h => h) hS ?_
    refine a_ixS 5 tbOk D_hk (show t2.kids[0]? = some k by rw [hks]; rfl) rfl rfl rfl rfl rfl rfl rfl rfl rfl rfl (by kernel_rfl) (fun _ _ _ _ h => h) hS ?_
    intro ebx eox eux hyx hatx
    obtain ⟨kvx, rfl, opx, nmx, n64x, hkx⟩ := ty_open hyx
    replace hatx : At M1 w4 ebx eox [.int .u8 k.op, .string k.name, .int .i64 k.n, kvx] := hatx
    refine a_lds 6 tbOk (fun _ hs j v hv => (hatx.ext hs).cell j v hv) rfl rfl rfl rfl rfl rfl rfl (by kernel_rfl) (fun _ _ _ h => h) hS ?_
    refine a_build (cells := [.string t2.name, .int .u8 k.op, .string k.name, .int .i64 k.n, kvx]) (css := [[.string t2.name], [.int .u8 k.op, .string k.name, .int .i64 k.n, kvx]]) 7 bd56 rfl rfl rfl rfl rfl rfl (by kernel_rfl) (fun _ _ _ h => h) hS ?_
    have hfd := fld_mk (name := t2.name) (t := k) nm2 hyx
    refine a_one 8 rfl (by kernel_rfl) (o_bs tbOk rfl rfl rfl rfl rfl rfl rfl (sz1 rfl) rfl rfl rfl ?_)
    intro bw5 w5 qbw5 ew5 hbw5
    have nbw5 := nM_of hlow qbw5
    replace hS := hS.then ew5
    replace hT := hT.then (Stp.ext ew5 hlow hB)
    replace ho := ho.ext hlow hB ew5
    replace h1 := h1.ext hlow hB ew5
    replace h3 := h3.ext hlow hB ew5
    replace hE := hE.trans (Below.mono ew5 hB)
    replace hk := hk.ext ew5
    replace hyx := Rep.ext hyx ew5
    replace hkx := hkx.ext ew5
    replace hatx := hatx.ext ew5
    replace hfd := Rep.ext hfd ew5
    replace hlow := hlow.ext ew5
    replace hB := Nat.le_trans hB ew5.size
    refine ⟨hS, ?_⟩
    refine a_barS Ext 9 rfl (by kernel_rfl) (by kernel_rfl) (o_app1 tbOk ho hbw5 nbw5 hfd hlow hB rfl rfl rfl rfl rfl rfl rfl (by omega) (by show (_ + _) * 72 ≤ _; omega) rfl rfl ?_)
    intro vw6 w6 Mw6 hw6 sw6 frw6 blw6
    have zd_ho_h1 := d_ho_h1
    replace d_ho_h1 : ∀ x, (vw6 : Value).ownBlock = some x → x ≠ b1 := fun x hx => (blw6 x hx).elim (d_ho_h1 x) (fun h e => by have := h1.lt; omega)
    have zd_ho_h3 := d_ho_h3
    replace d_ho_h3 : ∀ x, (vw6 : Value).ownBlock = some x → x ≠ b3 := fun x hx => (blw6 x hx).elim (d_ho_h3 x) (fun h e => by have := h3.lt; omega)
    replace hT := hT.then sw6
    replace h1 := h1.stp sw6 (frw6 b1 h1.lt (fun e => zd_ho_h1 _ e.symm rfl))
    replace h3 := h3.stp sw6 (frw6 b3 h3.lt (fun e => zd_ho_h3 _ e.symm rfl))
    replace hE := hE.trans sw6.below
    replace hk := hk.stp sw6
    replace hyx := Rep.stp hyx sw6
    replace hkx := hkx.stp sw6
    replace hatx := hatx.stp sw6
    replace hfd := Rep.stp hfd sw6
    replace hsub := fun b h => sw6.sub b (hsub b h)
    replace hlow := sw6.low
    replace hB := Nat.le_trans hB sw6.upd.1
    replace hS : Ext w6 w6 := ext_refl _
    replace ho := hw6
    clear hw6
    have D_h1 := h1.box
    have D_h3 := h3.box
    have D_hk := hk
    have D_hkx := hkx
    have D_hatx := hatx
    refine a_p 10 tbOk rfl rfl rfl rfl (by kernel_rfl) (fun _ _ _ h => h) hS ?_
    refine a_end (by kernel_rfl) ?_
    refine x_seq (c_reg (l_p 1 tbOk rfl ?_))
    refine l_cons (o_ld tbOk (h1.cell 3 _ rfl) rfl rfl rfl rfl rfl ?_)
    refine l_cons (o_ixS tbOk hk (show t2.kids[1]? = some r by rw [hks]; rfl) rfl rfl rfl rfl rfl rfl rfl rfl rfl ?_)
    intro eby eoy euy hyy haty
    obtain ⟨kvy, rfl, opy, nmy, n64y, hky⟩ := ty_open hyy
    replace haty : At Mw6 w6 eby eoy [.int .u8 r.op, .string r.name, .int .i64 r.n, kvy] := haty
    refine l_cons (o_lds tbOk (fun j v hv => haty.cell j v hv) rfl rfl rfl rfl rfl rfl ?_)
    refine l_cons (o_st tbOk h1.box rfl rfl rfl rfl (Rep.one hyy) rfl rfl ?_)
    intro w7 hw7 qw7 bew7
    have uw7 : UpdB _ _ _ := ⟨qw7, bew7⟩
    have sw7 := uw7.stp h1.inM hlow h1.ge
    have frw7 := qw7.2
    replace hT := hT.then sw7
    replace ho := ho.stp sw7 (fun x hx => frw7 x (ho.lt x hx).2 (d_ho_h1 x hx))
    replace h3 := h3.stp sw7 (frw7 b3 h3.lt ne_h1_h3.symm)
    replace hE := hE.trans sw7.below
    replace hk := hk.stp sw7
    replace hyx := Rep.stp hyx sw7
    replace hkx := hkx.stp sw7
    replace hatx := hatx.stp sw7
    replace hfd := Rep.stp hfd sw7
    replace hyy := Rep.stp hyy sw7
    replace hky := hky.stp sw7
    replace haty := haty.stp sw7
    replace hsub := fun b h => sw7.sub b (hsub b h)
    replace hlow := sw7.low
    replace hB := Nat.le_trans hB sw7.upd.1
    replace h1 : MB w.heap.size _ w7 b1 _ [.int .u8 r.op, .string r.name, .int .i64 r.n, kvy] := ⟨hw7, h1.inM, h1.ge⟩
    refine q2 ?_
    exact x_round5 (r) (kvy) (vw6) (Mw6) (acc ++ [⟨t2.name, k⟩]) (s3 rfl rfl rfl) ⟨hsr, by rw [List.append_assoc, ← hacc, hsp]; rfl, by rw [← htl, hsp], opy, nmy, n64y, ho, h1, h3, d_ho_h1, d_ho_h3, hky, hT, hlow, hsub, hE, hB⟩ (by rw [psz_eq t2, hks, pszs_cons, pszs_cons]; omega)
  have hne : t2.op ≠ 11 := by omega
  rw [spine_no hne] at hacc htl
  simp only [List.append_nil] at hacc htl
  have hla : acc.length = (spineF t).1.length := by rw [hacc]
  refine c_exit (x_seqE (x_seqE (x_blkE (x_seq (q0 (l_p 1 tbOk rfl ?_))))))
  refine l_cons (o_call fo114 rfl rfl rfl (sortStable_spec M1 _ w.heap.size v acc ho (by omega) hlow hB) ?_)
  rintro _ w8 ⟨rfl, ⟨l2, ho2, hll, hst, hsr⟩, sw8, frw8⟩
  obtain rfl := fieldsF_uniq hsr hst
  replace hT := hT.then sw8
  replace h1 := h1.stp sw8 (frw8 b1 h1.lt (fun e => d_ho_h1 _ e.symm rfl))
  replace h3 := h3.stp sw8 (frw8 b3 h3.lt (fun e => d_ho_h3 _ e.symm rfl))
  replace hE := hE.trans sw8.below
  replace hk := hk.stp sw8
  replace hsub := fun b h => sw8.sub b (hsub b h)
  replace hlow := sw8.low
  replace hB := Nat.le_trans hB sw8.upd.1
  replace ho := ho2
  refine q1 (c_seq ?_)
  refine a_beg Ext rfl ?_
  intro w9 ew9
  replace hT := hT.then (Stp.ext ew9 hlow hB)
  replace ho := ho.ext hlow hB ew9
  replace h1 := h1.ext hlow hB ew9
  replace h3 := h3.ext hlow hB ew9
  replace hE := hE.trans (Below.mono ew9 hB)
  replace hk := hk.ext ew9
  replace hlow := hlow.ext ew9
  replace hB := Nat.le_trans hB ew9.size
  have hS : Ext w9 w9 := ext_refl _
  have D_h1 := h1.box
  have D_h3 := h3.box
  have D_hk := hk
  refine a_p 0 tbOk rfl rfl rfl rfl (by kernel_rfl) (fun _ _ _ h => h) hS ?_
  refine a_lds 1 tbOk (fun _ hs j v hv => (D_h1.ext hs).cell j v hv) rfl rfl rfl rfl rfl rfl rfl (by kernel_rfl) (fun _ _ _ h => h) hS ?_
  refine a_p 2 tbOk rfl rfl rfl rfl (by kernel_rfl) (fun _ _ _ h => h) hS ?_
  have htl2 := ty_mk op2 nm2 n2 hk
  rw [← ty_eta] at htl2
  refine a_barS Ext 3 rfl (by kernel_rfl) (by kernel_rfl) (o_st tbOk h3.box rfl rfl rfl rfl (Rep.one htl2) rfl rfl ?_)
  intro w10 hw10 qw10 bew10
  have uw10 : UpdB _ _ _ := ⟨qw10, bew10⟩
  have sw10 := uw10.stp h3.inM hlow h3.ge
  have frw10 := qw10.2
  replace hT := hT.then sw10
  replace ho := ho.stp sw10 (fun x hx => frw10 x (ho.lt x hx).2 (d_ho_h3 x hx))
  replace h1 := h1.stp sw10 (frw10 b1 h1.lt ne_h1_h3)
  replace hE := hE.trans sw10.below
  replace hk := hk.stp sw10
  replace htl2 := Rep.stp htl2 sw10
  replace hsub := fun b h => sw10.sub b (hsub b h)
  replace hlow := sw10.low
  replace hB := Nat.le_trans hB sw10.upd.1
  replace hS : Ext w10 w10 := ext_refl _
  replace h3 : MB w.heap.size _ w10 b3 _ [.int .u8 t2.op, .string t2.name, .int .i64 t2.n, kv] := ⟨hw10, h3.inM, h3.ge⟩
  have D_h1 := h1.box
  have D_h3 := h3.box
  have D_hk := hk
  refine a_end (by kernel_rfl) ?_
  refine x_seq (c_ret ?_)
  refine x_ret2ts tbOk (fun j v hv => h3.cell j v hv) rfl rfl rfl rfl rfl rfl ?_
  rw [hacc] at ho
  exact ⟨_, _, _, rfl, ho, by rw [← htl]; exact htl2, hT⟩

/-- Flat: a row's sorted fields, and its tail. -/
theorem Flat_spec (t : Ty) (M : Nat → Prop) (w : World) (v : Value) (ht : Rep.R M w v t) (hlow0 : Low M w) (hsz : psz t ≤ 2000000) :
    Calls Try.prog 56 #[v] w (Ret fun r w' => (∃ x tv, r = .tuple #[x, tv] ∧ Sl M w' x (flatF t).1 ∧ Rep.R M w' tv (flatF t).2) ∧ Ext w w') := by
  have hlow := hlow0
  have hB : w.heap.size ≤ w.heap.size := Nat.le_refl _
  have hE : Below w.heap.size w w := Below.refl _ _
  have hsub : ∀ b, M b → M b := fun _ h => h
  obtain ⟨kv, rfl, op, nm, n64, hk⟩ := ty_open ht
  have hsl := spine_len t
  have hfl0 := fieldsF_len (spineF t).1
  refine c_enter (n := 18) Try.func56 rfl rfl rfl ?_
  refine q0 ?_
  refine l_cons (o_box rfl rfl rfl ?_)
  intro b1 w1 hb_b1 ew1 h1
  replace h1 : Box _ b1 40 [.int .u8 t.op, .string t.name, .int .i64 t.n, kv] := h1
  replace h1 := h1.at (nM_of hlow hb_b1)
  replace hE := hE.trans (Below.mono ew1 hB)
  replace ht := Rep.ext ht ew1
  replace hk := hk.ext ew1
  replace hlow := hlow.ext ew1
  replace hB := Nat.le_trans hB ew1.size
  refine l_p 1 tbOk rfl ?_
  refine l_cons (o_new tbOk rfl rfl rfl ?_)
  intro b3 w2 qb3 ew2 hb3
  have sw2 := Stp.add ew2 hlow hB (Nat.le_of_eq qb3.symm) hb3.lt
  have h3 : MB w.heap.size (Rw.Add M b3) w2 b3 40 [.int .u8 0, .string ⟨#[]⟩, .int .i64 0, .slice none 0 0] := MB.mk' hb3 qb3 hB
  replace hE := hE.trans sw2.below
  replace ht := Rep.stp ht sw2
  replace hk := hk.stp sw2
  replace h1 := h1.stp sw2
  replace hsub := fun b h => sw2.sub b (hsub b h)
  replace hlow := sw2.low
  replace hB := Nat.le_trans hB sw2.upd.1
  refine q1 (c_seq (q0 ?_))
  refine l_cons (o_lds tbOk (fun j v hv => h1.cell j v hv) rfl rfl rfl rfl rfl rfl ?_)
  refine l_cons (o_call fo55 rfl rfl rfl (kRow_spec t _ _ _ ht hlow) ?_)
  rintro _ w3 ⟨rfl, ew3⟩
  replace h3 := h3.ext hlow hB ew3
  replace hE := hE.trans (Below.mono ew3 hB)
  replace ht := Rep.ext ht ew3
  replace hk := hk.ext ew3
  replace h1 := h1.ext ew3
  replace hlow := hlow.ext ew3
  replace hB := Nat.le_trans hB ew3.size
  refine l_p 1 tbOk rfl (q1 ?_)
  refine c_ifB _ rfl (fun hc => ?_) (fun hc => ?_)
  · have hB0 : rowB t = false := by rw [← rowB_law]; exact hc
    refine q0 ?_
    refine l_cons (o_build (cells := [.int .u8 0, .string ⟨#[]⟩, .int .i64 0, .slice none 0 0]) (css := []) bd40 rfl rfl rfl rfl rfl ?_)
    refine l_p 1 tbOk rfl ?_
    refine l_cons (o_st tbOk h3.box rfl rfl rfl rfl (by intro u hu; simp [Value.cells] at hu; rcases hu with rfl | rfl | rfl | rfl <;> rfl) rfl rfl ?_)
    intro w4 hw4 qw4 bew4
    have uw4 : UpdB _ _ _ := ⟨qw4, bew4⟩
    have sw4 := uw4.stp h3.inM hlow h3.ge
    have frw4 := qw4.2
    replace hE := hE.trans sw4.below
    replace ht := Rep.stp ht sw4
    replace hk := hk.stp sw4
    replace h1 := h1.stp sw4
    replace hsub := fun b h => sw4.sub b (hsub b h)
    replace hlow := sw4.low
    replace hB := Nat.le_trans hB sw4.upd.1
    replace h3 : MB w.heap.size _ w4 b3 _ [.int .u8 0, .string ⟨#[]⟩, .int .i64 0, .slice none 0 0] := ⟨hw4, h3.inM, h3.ge⟩
    refine q1 (c_ret (x_seqR ?_))
    refine x_ret2ts tbOk (fun j v hv => h3.cell j v hv) rfl rfl rfl rfl rfl rfl ?_
    refine ⟨⟨_, _, rfl, ?_, ?_⟩, hE⟩
    · rw [flatF, hB0]; exact sl_nil
    · rw [flatF, hB0]; exact ty_mk (by decide) (by decide) ⟨by decide, by decide⟩ sl_nil
  have hB0 : rowB t = true := by rw [← rowB_law]; exact hc
  have hsh : shapeF t 114 = true := by unfold rowB at hB0; rw [Bool.and_eq_true] at hB0; exact hB0.1
  refine c_skip (x_seq (q0 ?_))
  refine l_cons (o_lds tbOk (fun j v hv => h1.cell j v hv) rfl rfl rfl rfl rfl rfl ?_)
  refine l_cons (o_call fo93 rfl rfl rfl (copied_spec t _ _ _ ht hlow hsz) ?_)
  rintro vr w5 ⟨hr, ew5⟩
  replace h3 := h3.ext hlow hB ew5
  replace hE := hE.trans (Below.mono ew5 hB)
  replace ht := Rep.ext ht ew5
  replace hk := hk.ext ew5
  replace h1 := h1.ext ew5
  replace hlow := hlow.ext ew5
  replace hB := Nat.le_trans hB ew5.size
  refine l_cons (o_call fo92 rfl rfl rfl (flat_spec t _ _ _ hsh hr hlow hsz) ?_)
  rintro _ w6 ⟨xv, tv, M2, rfl, ho2, htl, sw6⟩
  have ew6 : Ext w5 w6 := sw6.below
  have hfl := ho2.sl (by omega) hlow sw6.sub
  have htv := Rep.wk htl (fun b _ hb => sw6.sub b hb)
  replace h3 := h3.ext hlow hB ew6
  replace hE := hE.trans (Below.mono ew6 hB)
  replace ht := Rep.ext ht ew6
  replace hk := hk.ext ew6
  replace h1 := h1.ext ew6
  replace hr := Rep.ext hr ew6
  replace hlow := hlow.ext ew6
  replace hB := Nat.le_trans hB ew6.size
  obtain ⟨kve, rfl, ope, nme, n64e, hke⟩ := ty_open htv
  refine l_p 3 tbOk rfl ?_
  refine l_cons (o_new tbOk rfl rfl rfl ?_)
  intro b5 w7 qb5 ew7 hb5
  have nb5 := nM_of hlow qb5
  refine l_p 1 tbOk rfl ?_
  refine l_cons (o_st tbOk hb5 rfl rfl rfl rfl (Rep.one htv) rfl rfl ?_)
  intro w8 h5 uw8 bew8
  have ew8 : Ext w6 w8 := ew7.trans (bew8 _ (Nat.le_of_eq qb5.symm))
  replace h3 := h3.ext hlow hB ew8
  replace hE := hE.trans (Below.mono ew8 hB)
  replace ht := Rep.ext ht ew8
  replace hk := hk.ext ew8
  replace h1 := h1.ext ew8
  replace hr := Rep.ext hr ew8
  replace hfl := hfl.ext ew8
  replace htv := Rep.ext htv ew8
  replace hke := hke.ext ew8
  replace hlow := hlow.ext ew8
  replace hB := Nat.le_trans hB ew8.size
  replace h5 : Box w8 b5 40 [.int .u8 (spineF t).2.op, .string (spineF t).2.name, .int .i64 (spineF t).2.n, kve] := h5
  replace h5 := h5.at nb5
  refine q1 (c_seq ?_)
  refine a_beg Ext rfl ?_
  intro w9 ew9
  replace h3 := h3.ext hlow hB ew9
  replace hE := hE.trans (Below.mono ew9 hB)
  replace ht := Rep.ext ht ew9
  replace hk := hk.ext ew9
  replace h1 := h1.ext ew9
  replace hr := Rep.ext hr ew9
  replace hfl := hfl.ext ew9
  replace htv := Rep.ext htv ew9
  replace hke := hke.ext ew9
  replace h5 := h5.ext ew9
  replace hlow := hlow.ext ew9
  replace hB := Nat.le_trans hB ew9.size
  have hS : Ext w9 w9 := ext_refl _
  have D_hk := hk
  have D_h1 := h1
  have D_h3 := h3.box
  have D_hfl := hfl
  have D_hke := hke
  have D_h5 := h5
  refine a_p 0 tbOk rfl rfl rfl rfl (by kernel_rfl) (fun _ _ _ h => h) hS ?_
  refine a_lds 1 tbOk (fun _ hs j v hv => (D_h5.ext hs).cell j v hv) rfl rfl rfl rfl rfl rfl rfl (by kernel_rfl) (fun _ _ _ h => h) hS ?_
  refine a_p 2 tbOk rfl rfl rfl rfl (by kernel_rfl) (fun _ _ _ h => h) hS ?_
  refine a_barS Ext 3 rfl (by kernel_rfl) (by kernel_rfl) (o_st tbOk h3.box rfl rfl rfl rfl (Rep.one htv) rfl rfl ?_)
  intro w10 hw10 qw10 bew10
  have uw10 : UpdB _ _ _ := ⟨qw10, bew10⟩
  have sw10 := uw10.stp h3.inM hlow h3.ge
  have frw10 := qw10.2
  replace hE := hE.trans sw10.below
  replace ht := Rep.stp ht sw10
  replace hk := hk.stp sw10
  replace h1 := h1.stp sw10
  replace hr := Rep.stp hr sw10
  replace hfl := hfl.stp sw10
  replace htv := Rep.stp htv sw10
  replace hke := hke.stp sw10
  replace h5 := h5.stp sw10
  replace hsub := fun b h => sw10.sub b (hsub b h)
  replace hlow := sw10.low
  replace hB := Nat.le_trans hB sw10.upd.1
  replace hS : Ext w10 w10 := ext_refl _
  replace h3 : MB w.heap.size _ w10 b3 _ [.int .u8 (spineF t).2.op, .string (spineF t).2.name, .int .i64 (spineF t).2.n, kve] := ⟨hw10, h3.inM, h3.ge⟩
  have D_hk := hk
  have D_h1 := h1
  have D_h3 := h3.box
  have D_hfl := hfl
  have D_hke := hke
  have D_h5 := h5
  refine a_end (by kernel_rfl) ?_
  refine x_seq (c_ret ?_)
  refine x_ret2ts tbOk (fun j v hv => h3.cell j v hv) rfl rfl rfl rfl rfl rfl ?_
  refine ⟨⟨_, _, rfl, ?_, ?_⟩, hE⟩
  · rw [flatF, hB0]; exact hfl.wk (fun b _ h => hsub b h)
  · rw [flatF, hB0]; exact Rep.wk htv (fun b _ h => hsub b h)

/-- Field: a row's field ahead. -/
theorem field_spec (name : ByteArray) (t r : Ty) (M : Nat → Prop) (w : World) (v u : Value) (hnm : name.size < 140737488355328) (ht : Rep.R M w v t) (hr : Rep.R M w u r) (hlow0 : Low M w) :
    Calls Try.prog 52 #[.string name, v, u] w (Ret fun x w' => Rep.R M w' x (Ty.mk 11 name 0 [t, r]) ∧ Ext w w') := by
  have hlow := hlow0
  have hB : w.heap.size ≤ w.heap.size := Nat.le_refl _
  have hE : Below w.heap.size w w := Below.refl _ _
  have hsub : ∀ b, M b → M b := fun _ h => h
  obtain ⟨kv, rfl, op, nm, n64, hk⟩ := ty_open ht
  obtain ⟨kvr, rfl, opr, nmr, n64r, hkr⟩ := ty_open hr
  refine c_enter (n := 12) Try.func52 rfl rfl rfl ?_
  refine q0 ?_
  refine l_cons (o_box rfl rfl rfl ?_)
  intro b4 w1 hb_b4 ew1 h4
  replace h4 : Box _ b4 40 [.int .u8 t.op, .string t.name, .int .i64 t.n, kv] := h4
  replace h4 := h4.at (nM_of hlow hb_b4)
  replace hE := hE.trans (Below.mono ew1 hB)
  replace ht := Rep.ext ht ew1
  replace hk := hk.ext ew1
  replace hr := Rep.ext hr ew1
  replace hkr := hkr.ext ew1
  replace hlow := hlow.ext ew1
  replace hB := Nat.le_trans hB ew1.size
  refine l_cons (o_box rfl rfl rfl ?_)
  intro b5 w2 hb_b5 ew2 h5
  replace h5 : Box _ b5 40 [.int .u8 r.op, .string r.name, .int .i64 r.n, kvr] := h5
  replace h5 := h5.at (nM_of hlow hb_b5)
  replace hE := hE.trans (Below.mono ew2 hB)
  replace ht := Rep.ext ht ew2
  replace hk := hk.ext ew2
  replace hr := Rep.ext hr ew2
  replace hkr := hkr.ext ew2
  replace h4 := h4.ext ew2
  replace hlow := hlow.ext ew2
  replace hB := Nat.le_trans hB ew2.size
  refine l_cons (o_new tbOk rfl rfl rfl ?_)
  intro b6 w3 qb6 ew3 hb6
  have sw3 := Stp.add ew3 hlow hB (Nat.le_of_eq qb6.symm) hb6.lt
  have h6 : MB w.heap.size (Rw.Add M b6) w3 b6 40 [.int .u8 0, .string ⟨#[]⟩, .int .i64 0, .slice none 0 0] := MB.mk' hb6 qb6 hB
  replace hE := hE.trans sw3.below
  replace ht := Rep.stp ht sw3
  replace hk := hk.stp sw3
  replace hr := Rep.stp hr sw3
  replace hkr := hkr.stp sw3
  replace h4 := h4.stp sw3
  replace h5 := h5.stp sw3
  replace hsub := fun b h => sw3.sub b (hsub b h)
  replace hlow := sw3.low
  replace hB := Nat.le_trans hB sw3.upd.1
  refine q1 (q0 (l_p 1 tbOk rfl ?_))
  refine l_cons (o_lds tbOk (fun j v hv => h4.cell j v hv) rfl rfl rfl rfl rfl rfl ?_)
  refine l_cons (o_lds tbOk (fun j v hv => h5.cell j v hv) rfl rfl rfl rfl rfl rfl ?_)
  refine l_cons (o_bs tbOk rfl rfl rfl rfl rfl rfl rfl (sz2 rfl rfl) rfl rfl rfl ?_)
  intro bw4 w4 qbw4 ew4 hbw4
  have sw4 := Stp.add ew4 hlow hB (Nat.le_of_eq qbw4.symm) hbw4.lt
  have le_bw4 := hB
  have d_ho_h6 : ∀ x, ((.slice (some ⟨bw4, 0, none⟩) 2 2) : Value).ownBlock = some x → x ≠ b6 := fun x hx => by have := ob_eq hx; have := h6.lt; omega
  replace h6 := h6.stp sw4 (ew4.block b6 h6.lt)
  replace hE := hE.trans sw4.below
  replace ht := Rep.stp ht sw4
  replace hk := hk.stp sw4
  replace hr := Rep.stp hr sw4
  replace hkr := hkr.stp sw4
  replace h4 := h4.stp sw4
  replace h5 := h5.stp sw4
  replace hsub := fun b h => sw4.sub b (hsub b h)
  replace hlow := sw4.low
  replace hB := Nat.le_trans hB sw4.upd.1
  have ho := own_litS sw4 hbw4 (show Rs _ _ [_, _] [t, r] from ⟨ht, hr, trivial⟩) qbw4 le_bw4 (by simp [maxLen])
  refine l_cons (o_build (cells := [.int .u8 11, .string name, .int .i64 0, .slice (some ⟨bw4, 0, none⟩) 2 2]) bd40 rfl rfl rfl rfl rfl ?_)
  refine l_cons (o_st tbOk h6.box rfl rfl rfl rfl (by intro u hu; simp [Value.cells] at hu; rcases hu with rfl | rfl | rfl | rfl <;> rfl) rfl rfl ?_)
  intro w5 hw5 qw5 bew5
  have uw5 : UpdB _ _ _ := ⟨qw5, bew5⟩
  have sw5 := uw5.stp h6.inM hlow h6.ge
  have frw5 := qw5.2
  replace ho := ho.stp sw5 (fun x hx => frw5 x (ho.lt x hx).2 (d_ho_h6 x hx))
  replace hE := hE.trans sw5.below
  replace ht := Rep.stp ht sw5
  replace hk := hk.stp sw5
  replace hr := Rep.stp hr sw5
  replace hkr := hkr.stp sw5
  replace h4 := h4.stp sw5
  replace h5 := h5.stp sw5
  replace hsub := fun b h => sw5.sub b (hsub b h)
  replace hlow := sw5.low
  replace hB := Nat.le_trans hB sw5.upd.1
  replace h6 : MB w.heap.size _ w5 b6 _ [.int .u8 11, .string name, .int .i64 0, .slice (some ⟨bw4, 0, none⟩) 2 2] := ⟨hw5, h6.inM, h6.ge⟩
  refine q1 (c_ret ?_)
  refine x_ret1s tbOk (fun j v hv => h6.cell j v hv) rfl rfl rfl rfl rfl ?_
  exact ⟨ty_mk (by decide) hnm ⟨by decide, by decide⟩ (ho.sl (by simp) hlow0 hsub), hE⟩

end Go.Proofs.Ytohfnpmehgpphaa
