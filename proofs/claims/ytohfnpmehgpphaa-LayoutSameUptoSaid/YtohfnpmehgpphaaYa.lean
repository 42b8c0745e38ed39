/- Walks: places of names. Printed by wip/walks/layout1.py. -/
import Derived.Test.YtohfnpmehgpphaaWj
import Derived.Test.YtohfnpmehgpphaaPlainL
import Derived.Test.YtohfnpmehgpphaaMore
namespace Go.Proofs.Ytohfnpmehgpphaa
open Go Rw Go.RowKit
set_option maxRecDepth 100000

theorem kRow_specB (t : Ty) (M : Nat → Prop) (w : World) (v : Value) (ht : Rep.R M w v t) (hlow : Low M w) : Calls Try.prog 55 #[v] w (Ret fun r w' => r = .bool (rowB t) ∧ Ext w w') := by
  have h := kRow_spec t M w v ht hlow
  rwa [rowB_law] at h
theorem flat_srt (t : Ty) : Srt (flatF t).1 := by
  unfold flatF
  cases rowB t
  · exact List.Pairwise.nil
  · exact fieldsF_srt _

/-- Is a field's name no lesser? -/
theorem at1_spec (l : List Fld) (name : ByteArray) (h b6 b3 : Nat) (zh : Int) (M : Nat → Prop) (w : World) (v : Value) (eh : zh = h) (hh : h < l.length) (h1 : At NoM w b6 0 [v]) (h2 : At NoM w b3 0 [.string name]) (hs : Sl M w v l) (hlow : Low M w) :
    Calls Try.prog 59 #[.int .i64 zh, .pointer (some ⟨b6, 0, none⟩), .pointer (some ⟨b3, 0, none⟩)] w (Ret fun r w' => r = .bool (decide (¬ cmpN l[h].name name < 0)) ∧ Ext w w') := by
  have hE : Below w.heap.size w w := Below.refl _ _
  have hB : w.heap.size ≤ w.heap.size := Nat.le_refl _
  subst eh
  refine c_enter (n := 12) Try.func59 rfl rfl rfl ?_
  refine c_seq ?_
  refine c_reg ?_
  refine l_cons (o_p tbOk rfl rfl rfl ?_)
  refine l_nil ?_
  refine x_seq ?_
  refine c_seq ?_
  refine a_beg Ext rfl ?_
  intro w1 ew1
  replace hE := hE.trans (Below.mono ew1 hB)
  replace h1 := h1.ext ew1
  replace h2 := h2.ext ew1
  replace hs := hs.ext ew1
  replace hlow := hlow.ext ew1
  replace hB := Nat.le_trans hB ew1.size
  have hS : Ext w1 w1 := ext_refl _
  have D_h1 := h1
  have D_h2 := h2
  have D_hs := hs
  refine a_ld 0 tbOk (fun _ hs => (D_h1.ext hs).cell 0 _ rfl) rfl rfl rfl rfl rfl rfl (by kernel_rfl) (fun _ _ _ h => h) hS ?_
  refine a_p 1 tbOk rfl rfl rfl rfl (by kernel_rfl) (fun _ _ _ h => h) hS ?_
  refine a_ixS 2 tbOk D_hs (List.getElem?_eq_getElem hh) rfl rfl rfl rfl rfl rfl rfl rfl rfl rfl (by kernel_rfl) (fun _ _ _ _ h => h) hS ?_
  intro ebq eoq euq hrq hatq
  obtain ⟨szq, kvq, rfl, hyq⟩ := fld_open hrq
  replace hatq : At _ w1 ebq eoq [.string l[h].name, .int .u8 l[h].ty.op, .string l[h].ty.name, .int .i64 l[h].ty.n, kvq] := hatq
  refine a_p 3 tbOk rfl rfl rfl rfl (by kernel_rfl) (fun _ _ _ h => h) hS ?_
  refine a_ld 4 tbOk (fun _ hs => (hatq.ext hs).cell 0 _ rfl) rfl rfl rfl rfl rfl rfl (by kernel_rfl) (fun _ _ _ h => h) hS ?_
  refine a_ld 5 tbOk (fun _ hs => (D_h2.ext hs).cell 0 _ rfl) rfl rfl rfl rfl rfl rfl (by kernel_rfl) (fun _ _ _ h => h) hS ?_
  refine a_p 6 tbOk rfl rfl rfl rfl (by kernel_rfl) (fun _ _ _ h => h) hS ?_
  refine a_p 7 tbOk rfl rfl rfl rfl (by kernel_rfl) (fun _ _ _ h => h) hS ?_
  refine a_end (by kernel_rfl) ?_
  refine x_seq ?_
  refine c_ret ?_
  refine x_ret1 rfl rfl ?_
  exact ⟨by rw [sLt_cmpN, decide_not], hE⟩

/-- Search: the place of a name among sorted fields. -/
theorem search_spec (l : List Fld) (name : ByteArray) (b6 b3 : Nat) (M : Nat → Prop) (w : World) (v : Value) (h1 : At NoM w b6 0 [v]) (h2 : At NoM w b3 0 [.string name]) (hs : Sl M w v l) (hsr : Srt l) (hlow : Low M w) :
    Calls Try.prog 58 #[.int .i64 (l.length : Int), .func (.func 59) #[] #[.pointer (some ⟨b6, 0, none⟩), .pointer (some ⟨b3, 0, none⟩)]] w (Ret fun r w' => r = .int .i64 (atBase l name : Int) ∧ Ext w w') := by
  have hE : Below w.heap.size w w := Below.refl _ _
  have hB : w.heap.size ≤ w.heap.size := Nat.le_refl _
  have hL := hs.lt
  refine c_enter (n := 26) Try.func58 rfl rfl rfl ?_
  refine c_seq ?_
  refine c_reg ?_
  refine l_cons (o_p tbOk rfl rfl rfl ?_)
  refine l_nil ?_
  refine x_seq ?_
  refine c_seq ?_
  refine c_reg ?_
  refine l_cons (o_p tbOk rfl rfl rfl ?_)
  refine l_cons (o_p tbOk rfl rfl rfl ?_)
  refine l_cons (o_p tbOk rfl rfl rfl ?_)
  refine l_nil ?_
  refine x_seq ?_
  refine c_seq ?_
  refine c_blk ?_
  refine c_loop2 (X := Nat) (Y := Nat) (fun i j => [(1, .func (.func 59) #[] #[.pointer (some ⟨b6, 0, none⟩), .pointer (some ⟨b3, 0, none⟩)]), (5, .int .i64 (i : Nat)), (6, .int .i64 (j : Nat))]) (fun i j w' => i ≤ j ∧ j ≤ l.length ∧ SchB l name i j ∧ At NoM w' b6 0 [v] ∧ At NoM w' b3 0 [.string name] ∧ Sl M w' v l ∧ Low M w' ∧ Below w.heap.size w w' ∧ w.heap.size ≤ w'.heap.size) (fun i j => j - i) (0) (l.length) (subL_cons rfl (subL_cons rfl (subL_cons rfl (subL_nil)))) ?_ ?_
  · exact ⟨Nat.zero_le _, Nat.le_refl _, SchB.start _ _, h1, h2, hs, hlow, hE, hB⟩
  rintro i j w1 ⟨hij, hj, hsc, h1, h2, hs, hlow, hE, hB⟩
  refine c_seq ?_
  refine c_seq ?_
  refine c_reg ?_
  refine l_cons (o_p tbOk rfl rfl rfl ?_)
  refine l_cons (o_p tbOk rfl rfl rfl ?_)
  refine l_cons (o_p tbOk rfl rfl rfl ?_)
  refine l_nil ?_
  refine x_seq ?_
  refine c_ifP _ rfl (fun hc => ?_) (fun hc => ?_)
  · refine c_skip ?_
    refine x_seq ?_
    refine c_blk ?_
    refine c_seq ?_
    refine c_reg ?_
    refine l_cons (o_p tbOk rfl rfl rfl ?_)
    refine l_cons (o_p tbOk rfl rfl rfl ?_)
    refine l_cons (o_ar rfl rfl rfl (IntWalk.i64_in _ (by omega)) rfl rfl ?_)
    refine l_cons (o_conv tbOk rfl rfl rfl rfl rfl (IntWalk.u64_in _ (by omega)) rfl rfl ?_)
    refine l_cons (o_half (y := (((i + j) / 2 : Nat) : Int)) rfl rfl (by omega) (by omega) rfl rfl ?_)
    refine l_cons (o_conv (y := (((i + j) / 2 : Nat) : Int)) tbOk rfl rfl rfl rfl rfl (IntWalk.i64_in _ (by omega)) rfl rfl ?_)
    have hh : (i + j) / 2 < l.length := by omega
    refine l_cons (o_p tbOk rfl rfl rfl ?_)
    refine l_nil ?_
    refine x_seq ?_
    refine c_seq ?_
    refine c_reg ?_
    refine l_cons (o_p tbOk rfl rfl rfl ?_)
    refine l_cons (o_p tbOk rfl rfl rfl ?_)
    refine l_cons (o_dyn rfl fo59 rfl rfl rfl (at1_spec l name ((i + j) / 2) b6 b3 _ M _ v rfl hh h1 h2 hs hlow) ?_)
    rintro _ w2 ⟨rfl, ew2⟩
    replace hE := hE.trans (Below.mono ew2 hB)
    replace h1 := h1.ext ew2
    replace h2 := h2.ext ew2
    replace hs := hs.ext ew2
    replace hlow := hlow.ext ew2
    replace hB := Nat.le_trans hB ew2.size
    refine l_cons (o_p tbOk rfl rfl rfl ?_)
    refine l_nil ?_
    refine x_seq ?_
    refine c_ifN _ rfl (fun hlt => ?_) (fun hlt => ?_)
    · replace hlt := Decidable.not_not.1 hlt
      refine c_reg ?_
      refine l_cons (o_p tbOk rfl rfl rfl ?_)
      refine l_cons (o_ar rfl rfl rfl (IntWalk.i64_in _ (by omega)) rfl rfl ?_)
      refine l_cons (o_p tbOk rfl rfl rfl ?_)
      refine l_nil ?_
      refine x_blk ?_
      exact x_round2 ((i + j) / 2 + 1) (j) (subL_cons rfl (subL_cons (get_num rfl (by omega)) (subL_cons rfl (subL_nil)))) ⟨by omega, hj, hsc.up hsr hh hlt, h1, h2, hs, hlow, hE, hB⟩ (by omega)
    refine c_reg ?_
    refine l_cons (o_p tbOk rfl rfl rfl ?_)
    refine l_cons (o_p tbOk rfl rfl rfl ?_)
    refine l_nil ?_
    refine x_blk ?_
    exact x_round2 (i) ((i + j) / 2) (subL_cons rfl (subL_cons rfl (subL_cons rfl (subL_nil)))) ⟨by omega, by omega, hsc.down hsr hh hlt, h1, h2, hs, hlow, hE, hB⟩ (by omega)
  obtain rfl : i = j := by omega
  refine c_exit ?_
  refine x_seqE ?_
  refine x_seqE ?_
  refine x_blkE ?_
  refine x_seq ?_
  refine c_seq ?_
  refine c_reg ?_
  refine l_cons (o_p tbOk rfl rfl rfl ?_)
  refine l_cons (o_p tbOk rfl rfl rfl ?_)
  refine l_nil ?_
  refine x_seq ?_
  refine c_ret ?_
  refine x_ret1 rfl rfl ?_
  exact ⟨by rw [hsc.base hj], hE⟩

/-- At: the place of a name. -/
theorem at_spec (t : Ty) (name : ByteArray) (M : Nat → Prop) (w : World) (v : Value) (ht : Rep.R M w v t) (hnm : name.size < 140737488355328) (hlow0 : Low M w) (hsz : psz t ≤ 2000000) :
    Calls Try.prog 17 #[v, .string name] w (Ret fun r w' => r = .tuple #[.agg #[.int .i64 (atF t name).1.base, .int .i64 (atF t name).1.var, .string (atF t name).1.name], .int .u8 (atF t name).2] ∧ Ext w w') := by
  have hlow := hlow0
  have hB : w.heap.size ≤ w.heap.size := Nat.le_refl _
  have hE : Below w.heap.size w w := Below.refl _ _
  have hsub : ∀ b, M b → M b := fun _ h => h
  obtain ⟨kv, rfl, op, nm, n64, hk⟩ := ty_open ht
  refine c_enter (n := 37) Try.func17 rfl rfl rfl ?_
  refine c_seq ?_
  refine c_reg ?_
  refine l_cons (o_box rfl rfl rfl ?_)
  intro b2 w1 hb_b2 ew1 h2
  replace h2 : Box _ b2 40 [.int .u8 t.op, .string t.name, .int .i64 t.n, kv] := h2
  replace h2 := h2.at (nM_of hlow hb_b2)
  replace hE := hE.trans (Below.mono ew1 hB)
  replace ht := Rep.ext ht ew1
  replace hk := hk.ext ew1
  replace hlow := hlow.ext ew1
  replace hB := Nat.le_trans hB ew1.size
  refine l_cons (o_box rfl rfl rfl ?_)
  intro b3 w2 hb_b3 ew2 h3
  replace h3 := h3.at (nM_of hlow hb_b3)
  replace hE := hE.trans (Below.mono ew2 hB)
  replace ht := Rep.ext ht ew2
  replace hk := hk.ext ew2
  replace h2 := h2.ext ew2
  replace hlow := hlow.ext ew2
  replace hB := Nat.le_trans hB ew2.size
  replace h3 : At _ _ b3 0 [.string name] := h3
  refine l_cons (o_new tbOk rfl rfl rfl ?_)
  intro b4 w3 qb4 ew3 hb4
  have sw3 := Stp.add ew3 hlow hB (Nat.le_of_eq qb4.symm) hb4.lt
  have h4 : MB w.heap.size (Rw.Add M b4) w3 b4 23 [.int .i64 0, .int .i64 0, .string ⟨#[]⟩] := MB.mk' hb4 qb4 hB
  replace hE := hE.trans sw3.below
  replace ht := Rep.stp ht sw3
  replace hk := hk.stp sw3
  replace h2 := h2.stp sw3
  replace h3 := h3.stp sw3
  replace hsub := fun b h => sw3.sub b (hsub b h)
  replace hlow := sw3.low
  replace hB := Nat.le_trans hB sw3.upd.1
  refine l_cons (o_p tbOk rfl rfl rfl ?_)
  refine l_nil ?_
  refine x_seq ?_
  refine c_seq ?_
  refine c_seq ?_
  refine c_reg ?_
  refine l_cons (o_lds tbOk (fun j v hv => h2.cell j v hv) rfl rfl rfl rfl rfl rfl ?_)
  refine l_cons (o_call fo55 rfl rfl rfl (kRow_specB t _ _ _ ht hlow) ?_)
  rintro _ w4 ⟨rfl, ew4⟩
  replace h4 := h4.ext hlow hB ew4
  replace hE := hE.trans (Below.mono ew4 hB)
  replace ht := Rep.ext ht ew4
  replace hk := hk.ext ew4
  replace h2 := h2.ext ew4
  replace h3 := h3.ext ew4
  replace hlow := hlow.ext ew4
  replace hB := Nat.le_trans hB ew4.size
  refine l_cons (o_p tbOk rfl rfl rfl ?_)
  refine l_cons (o_p tbOk rfl rfl rfl ?_)
  refine l_splitB 12 _ rfl (fun c1 => ?_) (fun c1 => ?_)
  · refine l_cons (o_skip rfl rfl ?_)
    refine l_cons (o_skip rfl rfl ?_)
    refine l_cons (o_skip rfl rfl ?_)
    refine l_cons (o_p tbOk rfl rfl rfl ?_)
    refine l_nil ?_
    refine x_seq ?_
    refine c_ifT rfl ?_
    refine c_seq ?_
    refine c_reg ?_
    refine l_cons (o_build (cells := [.int .i64 0, .int .i64 0, .string ⟨#[]⟩]) (css := []) bd23 rfl rfl rfl rfl rfl ?_)
    refine l_cons (o_st tbOk h4.box rfl rfl rfl rfl (by intro u hu; simp [Value.cells] at hu; rcases hu with rfl | rfl | rfl <;> rfl) rfl rfl ?_)
    intro w5 hw5 qw5 bew5
    have uw5 : UpdB _ _ _ := ⟨qw5, bew5⟩
    have sw5 := uw5.stp h4.inM hlow h4.ge
    have frw5 := qw5.2
    replace hE := hE.trans sw5.below
    replace ht := Rep.stp ht sw5
    replace hk := hk.stp sw5
    replace h2 := h2.stp sw5
    replace h3 := h3.stp sw5
    replace hsub := fun b h => sw5.sub b (hsub b h)
    replace hlow := sw5.low
    replace hB := Nat.le_trans hB sw5.upd.1
    replace h4 : MB w.heap.size _ w5 b4 _ [.int .i64 0, .int .i64 0, .string ⟨#[]⟩] := ⟨hw5, h4.inM, h4.ge⟩
    refine l_cons (o_p tbOk rfl rfl rfl ?_)
    refine l_nil ?_
    refine x_seq ?_
    refine c_ret ?_
    refine x_seqR ?_
    refine x_ret2st tbOk (fun j v hv => h4.cell j v hv) rfl rfl rfl rfl rfl rfl ?_
    have e1 : atF t name = (plZ, 1) := by rw [atF]; simp_all
    rw [e1]; exact ⟨rfl, hE⟩
  refine l_cons (o_ld tbOk (h3.cell 0 _ rfl) rfl rfl rfl rfl rfl ?_)
  refine l_cons (o_call fo57 rfl rfl rfl (isWord_spec _ name hnm) ?_)
  rintro _ _ ⟨rfl, rfl⟩
  refine l_cons (o_p tbOk rfl rfl rfl ?_)
  refine l_cons (o_p tbOk rfl rfl rfl ?_)
  refine l_nil ?_
  refine x_seq ?_
  refine c_ifB _ rfl (fun c2 => ?_) (fun c2 => ?_)
  · refine c_seq ?_
    refine c_reg ?_
    refine l_cons (o_build (cells := [.int .i64 0, .int .i64 0, .string ⟨#[]⟩]) (css := []) bd23 rfl rfl rfl rfl rfl ?_)
    refine l_cons (o_st tbOk h4.box rfl rfl rfl rfl (by intro u hu; simp [Value.cells] at hu; rcases hu with rfl | rfl | rfl <;> rfl) rfl rfl ?_)
    intro w6 hw6 qw6 bew6
    have uw6 : UpdB _ _ _ := ⟨qw6, bew6⟩
    have sw6 := uw6.stp h4.inM hlow h4.ge
    have frw6 := qw6.2
    replace hE := hE.trans sw6.below
    replace ht := Rep.stp ht sw6
    replace hk := hk.stp sw6
    replace h2 := h2.stp sw6
    replace h3 := h3.stp sw6
    replace hsub := fun b h => sw6.sub b (hsub b h)
    replace hlow := sw6.low
    replace hB := Nat.le_trans hB sw6.upd.1
    replace h4 : MB w.heap.size _ w6 b4 _ [.int .i64 0, .int .i64 0, .string ⟨#[]⟩] := ⟨hw6, h4.inM, h4.ge⟩
    refine l_cons (o_p tbOk rfl rfl rfl ?_)
    refine l_nil ?_
    refine x_seq ?_
    refine c_ret ?_
    refine x_seqR ?_
    refine x_ret2st tbOk (fun j v hv => h4.cell j v hv) rfl rfl rfl rfl rfl rfl ?_
    have e1 : atF t name = (plZ, 1) := by rw [atF]; simp_all
    rw [e1]; exact ⟨rfl, hE⟩
  refine c_skip ?_
  refine x_seq ?_
  refine c_seq ?_
  refine c_reg ?_
  refine l_cons (o_lds tbOk (fun j v hv => h2.cell j v hv) rfl rfl rfl rfl rfl rfl ?_)
  refine l_cons (o_call fo56 rfl rfl rfl (Flat_spec t _ _ _ ht hlow hsz) ?_)
  rintro _ w7 ⟨⟨xv, tv, rfl, hfl, htl⟩, ew7⟩
  obtain ⟨ax, cx, rfl, _⟩ := id hfl
  replace h4 := h4.ext hlow hB ew7
  replace hE := hE.trans (Below.mono ew7 hB)
  replace ht := Rep.ext ht ew7
  replace hk := hk.ext ew7
  replace h2 := h2.ext ew7
  replace h3 := h3.ext ew7
  replace hlow := hlow.ext ew7
  replace hB := Nat.le_trans hB ew7.size
  obtain ⟨kve, rfl, ope, nme, n64e, hke⟩ := ty_open htl
  refine l_cons (o_p tbOk rfl rfl rfl ?_)
  refine l_cons (o_p tbOk rfl rfl rfl ?_)
  refine l_cons (o_p tbOk rfl rfl rfl ?_)
  refine l_cons (o_new tbOk rfl rfl rfl ?_)
  intro b6 w8 qb6 ew8 hb6
  have ne_h4_h6 : b4 ≠ b6 := by have := h4.lt; omega
  have sw8 := Stp.add ew8 hlow hB (Nat.le_of_eq qb6.symm) hb6.lt
  have h6 : MB w.heap.size (Rw.Add (Rw.Add M b4) b6) w8 b6 50 [.slice none 0 0] := MB.mk' hb6 qb6 hB
  replace h4 := h4.stp sw8 (ew8.block b4 h4.lt)
  replace hE := hE.trans sw8.below
  replace ht := Rep.stp ht sw8
  replace hk := hk.stp sw8
  replace h2 := h2.stp sw8
  replace h3 := h3.stp sw8
  replace hfl := hfl.stp sw8
  replace htl := Rep.stp htl sw8
  replace hke := hke.stp sw8
  replace hsub := fun b h => sw8.sub b (hsub b h)
  replace hlow := sw8.low
  replace hB := Nat.le_trans hB sw8.upd.1
  refine l_cons (o_new tbOk rfl rfl rfl ?_)
  intro b7 w9 qb7 ew9 hb7
  have ne_h4_h7 : b4 ≠ b7 := by have := h4.lt; omega
  have ne_h6_h7 : b6 ≠ b7 := by have := h6.lt; omega
  have sw9 := Stp.add ew9 hlow hB (Nat.le_of_eq qb7.symm) hb7.lt
  have h7 : MB w.heap.size (Rw.Add (Rw.Add (Rw.Add M b4) b6) b7) w9 b7 40 [.int .u8 0, .string ⟨#[]⟩, .int .i64 0, .slice none 0 0] := MB.mk' hb7 qb7 hB
  replace h4 := h4.stp sw9 (ew9.block b4 h4.lt)
  replace h6 := h6.stp sw9 (ew9.block b6 h6.lt)
  replace hE := hE.trans sw9.below
  replace ht := Rep.stp ht sw9
  replace hk := hk.stp sw9
  replace h2 := h2.stp sw9
  replace h3 := h3.stp sw9
  replace hfl := hfl.stp sw9
  replace htl := Rep.stp htl sw9
  replace hke := hke.stp sw9
  replace hsub := fun b h => sw9.sub b (hsub b h)
  replace hlow := sw9.low
  replace hB := Nat.le_trans hB sw9.upd.1
  refine l_cons (o_st tbOk h6.box rfl rfl rfl rfl (by simp [Value.cells, Value.oneCell']) rfl rfl ?_)
  intro w10 hw10 qw10 bew10
  have uw10 : UpdB _ _ _ := ⟨qw10, bew10⟩
  have sw10 := uw10.stp h6.inM hlow h6.ge
  have frw10 := qw10.2
  replace h4 := h4.stp sw10 (frw10 b4 h4.lt ne_h4_h6)
  replace h7 := h7.stp sw10 (frw10 b7 h7.lt ne_h6_h7.symm)
  replace hE := hE.trans sw10.below
  replace ht := Rep.stp ht sw10
  replace hk := hk.stp sw10
  replace h2 := h2.stp sw10
  replace h3 := h3.stp sw10
  replace hfl := hfl.stp sw10
  replace htl := Rep.stp htl sw10
  replace hke := hke.stp sw10
  replace hsub := fun b h => sw10.sub b (hsub b h)
  replace hlow := sw10.low
  replace hB := Nat.le_trans hB sw10.upd.1
  replace h6 : MB w.heap.size _ w10 b6 _ [.slice ax (flatF t).1.length cx] := ⟨hw10, h6.inM, h6.ge⟩
  refine l_cons (o_st tbOk h7.box rfl rfl rfl rfl (Rep.one htl) rfl rfl ?_)
  intro w11 hw11 qw11 bew11
  have uw11 : UpdB _ _ _ := ⟨qw11, bew11⟩
  have sw11 := uw11.stp h7.inM hlow h7.ge
  have frw11 := qw11.2
  replace h4 := h4.stp sw11 (frw11 b4 h4.lt ne_h4_h7)
  replace h6 := h6.stp sw11 (frw11 b6 h6.lt ne_h6_h7)
  replace hE := hE.trans sw11.below
  replace ht := Rep.stp ht sw11
  replace hk := hk.stp sw11
  replace h2 := h2.stp sw11
  replace h3 := h3.stp sw11
  replace hfl := hfl.stp sw11
  replace htl := Rep.stp htl sw11
  replace hke := hke.stp sw11
  replace hsub := fun b h => sw11.sub b (hsub b h)
  replace hlow := sw11.low
  replace hB := Nat.le_trans hB sw11.upd.1
  replace h7 : MB w.heap.size _ w11 b7 _ [.int .u8 (flatF t).2.op, .string (flatF t).2.name, .int .i64 (flatF t).2.n, kve] := ⟨hw11, h7.inM, h7.ge⟩
  refine l_nil ?_
  refine x_seq ?_
  refine c_seq ?_
  refine c_reg ?_
  refine l_cons (o_ld tbOk (h6.cell 0 _ rfl) rfl rfl rfl rfl rfl ?_)
  refine l_cons (o_len tbOk hfl rfl rfl rfl rfl rfl ?_)
  refine l_cons (o_p tbOk rfl rfl rfl ?_)
  have k6 : At NoM w11 b6 0 [.slice ax (flatF t).1.length cx] := ⟨h6.lt, fun h => h, h6.cell⟩
  have k3 : At NoM w11 b3 0 [.string name] := ⟨h3.lt, fun h => h, h3.cell⟩
  have hsr : Srt (flatF t).1 := flat_srt t
  refine l_cons (o_call fo58 rfl rfl rfl (search_spec _ name b6 b3 _ _ _ k6 k3 hfl hsr hlow) ?_)
  rintro _ w12 ⟨rfl, ew12⟩
  replace h4 := h4.ext hlow hB ew12
  replace h6 := h6.ext hlow hB ew12
  replace h7 := h7.ext hlow hB ew12
  replace hE := hE.trans (Below.mono ew12 hB)
  replace ht := Rep.ext ht ew12
  replace hk := hk.ext ew12
  replace h2 := h2.ext ew12
  replace h3 := h3.ext ew12
  replace hfl := hfl.ext ew12
  replace htl := Rep.ext htl ew12
  replace hke := hke.ext ew12
  replace hlow := hlow.ext ew12
  replace hB := Nat.le_trans hB ew12.size
  refine l_cons (o_build (cells := [.int .i64 ((atBase (flatF t).1 name : Int)), .int .i64 (-1), .string ⟨#[]⟩]) (css := [[.int .i64 (atBase (flatF t).1 name : Int)], [.int .i64 (-1)]]) bd23 rfl rfl rfl rfl rfl ?_)
  refine l_cons (o_new tbOk rfl rfl rfl ?_)
  intro b8 w13 qb8 ew13 hb8
  have ne_h4_h8 : b4 ≠ b8 := by have := h4.lt; omega
  have ne_h6_h8 : b6 ≠ b8 := by have := h6.lt; omega
  have ne_h7_h8 : b7 ≠ b8 := by have := h7.lt; omega
  have sw13 := Stp.add ew13 hlow hB (Nat.le_of_eq qb8.symm) hb8.lt
  have h8 : MB w.heap.size (Rw.Add (Rw.Add (Rw.Add (Rw.Add M b4) b6) b7) b8) w13 b8 23 [.int .i64 0, .int .i64 0, .string ⟨#[]⟩] := MB.mk' hb8 qb8 hB
  replace h4 := h4.stp sw13 (ew13.block b4 h4.lt)
  replace h6 := h6.stp sw13 (ew13.block b6 h6.lt)
  replace h7 := h7.stp sw13 (ew13.block b7 h7.lt)
  replace hE := hE.trans sw13.below
  replace ht := Rep.stp ht sw13
  replace hk := hk.stp sw13
  replace h2 := h2.stp sw13
  replace h3 := h3.stp sw13
  replace hfl := hfl.stp sw13
  replace htl := Rep.stp htl sw13
  replace hke := hke.stp sw13
  replace hsub := fun b h => sw13.sub b (hsub b h)
  replace hlow := sw13.low
  replace hB := Nat.le_trans hB sw13.upd.1
  refine l_cons (o_st tbOk h8.box rfl rfl rfl rfl (by intro u hu; simp [Value.cells] at hu; rcases hu with rfl | rfl | rfl <;> rfl) rfl rfl ?_)
  intro w14 hw14 qw14 bew14
  have uw14 : UpdB _ _ _ := ⟨qw14, bew14⟩
  have sw14 := uw14.stp h8.inM hlow h8.ge
  have frw14 := qw14.2
  replace h4 := h4.stp sw14 (frw14 b4 h4.lt ne_h4_h8)
  replace h6 := h6.stp sw14 (frw14 b6 h6.lt ne_h6_h8)
  replace h7 := h7.stp sw14 (frw14 b7 h7.lt ne_h7_h8)
  replace hE := hE.trans sw14.below
  replace ht := Rep.stp ht sw14
  replace hk := hk.stp sw14
  replace h2 := h2.stp sw14
  replace h3 := h3.stp sw14
  replace hfl := hfl.stp sw14
  replace htl := Rep.stp htl sw14
  replace hke := hke.stp sw14
  replace hsub := fun b h => sw14.sub b (hsub b h)
  replace hlow := sw14.low
  replace hB := Nat.le_trans hB sw14.upd.1
  replace h8 : MB w.heap.size _ w14 b8 _ [.int .i64 ((atBase (flatF t).1 name : Int)), .int .i64 (-1), .string ⟨#[]⟩] := ⟨hw14, h8.inM, h8.ge⟩
  refine l_nil ?_
  refine x_seq ?_
  refine c_seq ?_
  refine c_seq ?_
  refine c_reg ?_
  refine l_cons (o_p tbOk rfl rfl rfl ?_)
  refine l_cons (o_ld tbOk (h7.cell 0 _ rfl) rfl rfl rfl rfl rfl ?_)
  refine l_cons (o_p tbOk rfl rfl rfl ?_)
  refine l_nil ?_
  refine x_seq ?_
  refine c_ifP _ rfl (fun c3 => ?_) (fun c3 => ?_)
  · refine a_beg (fun _ _ => True) rfl ?_
    intro w15 ew15
    replace h4 := h4.ext hlow hB ew15
    replace h6 := h6.ext hlow hB ew15
    replace h7 := h7.ext hlow hB ew15
    replace h8 := h8.ext hlow hB ew15
    replace hE := hE.trans (Below.mono ew15 hB)
    replace ht := Rep.ext ht ew15
    replace hk := hk.ext ew15
    replace h2 := h2.ext ew15
    replace h3 := h3.ext ew15
    replace hfl := hfl.ext ew15
    replace htl := Rep.ext htl ew15
    replace hke := hke.ext ew15
    replace hlow := hlow.ext ew15
    replace hB := Nat.le_trans hB ew15.size
    have hS : True := trivial
    have D_hk := hk
    have D_h2 := h2
    have D_h3 := h3
    have D_h4 := h4.box
    have D_hfl := hfl
    have D_hke := hke
    have D_h6 := h6.box
    have D_h7 := h7.box
    have D_h8 := h8.box
    refine a_p 0 tbOk rfl rfl rfl rfl (by kernel_rfl) (fun _ _ _ h => h) hS ?_
    refine a_all [1, 2] (by kernel_rfl) rfl (all_cons (i := 1) rfl ?_ (all_cons (i := 2) rfl ?_ all_nil))
    · refine o_ld tbOk (h7.cell 2 _ rfl) rfl rfl rfl rfl rfl ?_
      refine ⟨hS, ?_⟩
      refine a_p 3 tbOk rfl rfl rfl rfl (by kernel_rfl) (fun _ _ _ h => h) hS ?_
      refine a_all [2, 4] (by kernel_rfl) rfl (all_cons (i := 2) rfl ?_ (all_cons (i := 4) rfl ?_ all_nil))
      · refine o_ld tbOk (h3.cell 0 _ rfl) rfl rfl rfl rfl rfl ?_
        refine ⟨hS, ?_⟩
        refine a_one 4 rfl (by kernel_rfl) (o_st tbOk h8.box rfl rfl rfl rfl (by simp [Value.cells, Value.oneCell']) rfl rfl ?_)
        intro w16 hw16 qw16 bew16
        have uw16 : UpdB _ _ _ := ⟨qw16, bew16⟩
        have sw16 := uw16.stp h8.inM hlow h8.ge
        have frw16 := qw16.2
        replace h4 := h4.stp sw16 (frw16 b4 h4.lt ne_h4_h8)
        replace h6 := h6.stp sw16 (frw16 b6 h6.lt ne_h6_h8)
        replace h7 := h7.stp sw16 (frw16 b7 h7.lt ne_h7_h8)
        replace hE := hE.trans sw16.below
        replace ht := Rep.stp ht sw16
        replace hk := hk.stp sw16
        replace h2 := h2.stp sw16
        replace h3 := h3.stp sw16
        replace hfl := hfl.stp sw16
        replace htl := Rep.stp htl sw16
        replace hke := hke.stp sw16
        replace hsub := fun b h => sw16.sub b (hsub b h)
        replace hlow := sw16.low
        replace hB := Nat.le_trans hB sw16.upd.1
        refine ⟨hS, ?_⟩
        replace h8 : MB w.heap.size _ w16 b8 _ [.int .i64 ((atBase (flatF t).1 name : Int)), .int .i64 ((flatF t).2.n), .string ⟨#[]⟩] := ⟨hw16, h8.inM, h8.ge⟩
        refine a_p 5 tbOk rfl rfl rfl rfl (by kernel_rfl) (fun _ _ _ h => h) hS ?_
        refine a_one 6 rfl (by kernel_rfl) (o_st tbOk h8.box rfl rfl rfl rfl (by simp [Value.cells, Value.oneCell']) rfl rfl ?_)
        intro w17 hw17 qw17 bew17
        have uw17 : UpdB _ _ _ := ⟨qw17, bew17⟩
        have sw17 := uw17.stp h8.inM hlow h8.ge
        have frw17 := qw17.2
        replace h4 := h4.stp sw17 (frw17 b4 h4.lt ne_h4_h8)
        replace h6 := h6.stp sw17 (frw17 b6 h6.lt ne_h6_h8)
        replace h7 := h7.stp sw17 (frw17 b7 h7.lt ne_h7_h8)
        replace hE := hE.trans sw17.below
        replace ht := Rep.stp ht sw17
        replace hk := hk.stp sw17
        replace h2 := h2.stp sw17
        replace h3 := h3.stp sw17
        replace hfl := hfl.stp sw17
        replace htl := Rep.stp htl sw17
        replace hke := hke.stp sw17
        replace hsub := fun b h => sw17.sub b (hsub b h)
        replace hlow := sw17.low
        replace hB := Nat.le_trans hB sw17.upd.1
        refine ⟨hS, ?_⟩
        replace h8 : MB w.heap.size _ w17 b8 _ [.int .i64 ((atBase (flatF t).1 name : Int)), .int .i64 ((flatF t).2.n), .string name] := ⟨hw17, h8.inM, h8.ge⟩
        refine a_end (by kernel_rfl) ?_
        refine x_seq ?_
        refine c_seq ?_
        refine c_reg ?_
        refine l_cons (o_lds tbOk (fun j v hv => h8.cell j v hv) rfl rfl rfl rfl rfl rfl ?_)
        refine l_cons (o_st tbOk h4.box rfl rfl rfl rfl (by intro u hu; simp [Value.cells] at hu; rcases hu with rfl | rfl | rfl <;> rfl) rfl rfl ?_)
        intro w18 hw18 qw18 bew18
        have uw18 : UpdB _ _ _ := ⟨qw18, bew18⟩
        have sw18 := uw18.stp h4.inM hlow h4.ge
        have frw18 := qw18.2
        replace h6 := h6.stp sw18 (frw18 b6 h6.lt ne_h4_h6.symm)
        replace h7 := h7.stp sw18 (frw18 b7 h7.lt ne_h4_h7.symm)
        replace h8 := h8.stp sw18 (frw18 b8 h8.lt ne_h4_h8.symm)
        replace hE := hE.trans sw18.below
        replace ht := Rep.stp ht sw18
        replace hk := hk.stp sw18
        replace h2 := h2.stp sw18
        replace h3 := h3.stp sw18
        replace hfl := hfl.stp sw18
        replace htl := Rep.stp htl sw18
        replace hke := hke.stp sw18
        replace hsub := fun b h => sw18.sub b (hsub b h)
        replace hlow := sw18.low
        replace hB := Nat.le_trans hB sw18.upd.1
        replace h4 : MB w.heap.size _ w18 b4 _ [.int .i64 ((atBase (flatF t).1 name : Int)), .int .i64 ((flatF t).2.n), .string name] := ⟨hw18, h4.inM, h4.ge⟩
        refine l_cons (o_p tbOk rfl rfl rfl ?_)
        refine l_nil ?_
        refine x_seq ?_
        refine c_ret ?_
        refine x_ret2st tbOk (fun j v hv => h4.cell j v hv) rfl rfl rfl rfl rfl rfl ?_
        have e1 : atF t name = (atP (flatF t).1 (flatF t).2 name, 0) := by rw [atF]; simp_all
        rw [e1, atP]
        exact ⟨by simp_all, hE⟩
      refine o_st tbOk h8.box rfl rfl rfl rfl (by simp [Value.cells, Value.oneCell']) rfl rfl ?_
      intro w19 hw19 qw19 bew19
      have uw19 : UpdB _ _ _ := ⟨qw19, bew19⟩
      have sw19 := uw19.stp h8.inM hlow h8.ge
      have frw19 := qw19.2
      replace h4 := h4.stp sw19 (frw19 b4 h4.lt ne_h4_h8)
      replace h6 := h6.stp sw19 (frw19 b6 h6.lt ne_h6_h8)
      replace h7 := h7.stp sw19 (frw19 b7 h7.lt ne_h7_h8)
      replace hE := hE.trans sw19.below
      replace ht := Rep.stp ht sw19
      replace hk := hk.stp sw19
      replace h2 := h2.stp sw19
      replace h3 := h3.stp sw19
      replace hfl := hfl.stp sw19
      replace htl := Rep.stp htl sw19
      replace hke := hke.stp sw19
      replace hsub := fun b h => sw19.sub b (hsub b h)
      replace hlow := sw19.low
      replace hB := Nat.le_trans hB sw19.upd.1
      refine ⟨hS, ?_⟩
      replace h8 : MB w.heap.size _ w19 b8 _ [.int .i64 ((atBase (flatF t).1 name : Int)), .int .i64 ((flatF t).2.n), .string ⟨#[]⟩] := ⟨hw19, h8.inM, h8.ge⟩
      refine a_one 2 rfl (by kernel_rfl) (o_ld tbOk (h3.cell 0 _ rfl) rfl rfl rfl rfl rfl ?_)
      refine ⟨hS, ?_⟩
      refine a_p 5 tbOk rfl rfl rfl rfl (by kernel_rfl) (fun _ _ _ h => h) hS ?_
      refine a_one 6 rfl (by kernel_rfl) (o_st tbOk h8.box rfl rfl rfl rfl (by simp [Value.cells, Value.oneCell']) rfl rfl ?_)
      intro w20 hw20 qw20 bew20
      have uw20 : UpdB _ _ _ := ⟨qw20, bew20⟩
      have sw20 := uw20.stp h8.inM hlow h8.ge
      have frw20 := qw20.2
      replace h4 := h4.stp sw20 (frw20 b4 h4.lt ne_h4_h8)
      replace h6 := h6.stp sw20 (frw20 b6 h6.lt ne_h6_h8)
      replace h7 := h7.stp sw20 (frw20 b7 h7.lt ne_h7_h8)
      replace hE := hE.trans sw20.below
      replace ht := Rep.stp ht sw20
      replace hk := hk.stp sw20
      replace h2 := h2.stp sw20
      replace h3 := h3.stp sw20
      replace hfl := hfl.stp sw20
      replace htl := Rep.stp htl sw20
      replace hke := hke.stp sw20
      replace hsub := fun b h => sw20.sub b (hsub b h)
      replace hlow := sw20.low
      replace hB := Nat.le_trans hB sw20.upd.1
      refine ⟨hS, ?_⟩
      replace h8 : MB w.heap.size _ w20 b8 _ [.int .i64 ((atBase (flatF t).1 name : Int)), .int .i64 ((flatF t).2.n), .string name] := ⟨hw20, h8.inM, h8.ge⟩
      refine a_end (by kernel_rfl) ?_
      refine x_seq ?_
      refine c_seq ?_
      refine c_reg ?_
      refine l_cons (o_lds tbOk (fun j v hv => h8.cell j v hv) rfl rfl rfl rfl rfl rfl ?_)
      refine l_cons (o_st tbOk h4.box rfl rfl rfl rfl (by intro u hu; simp [Value.cells] at hu; rcases hu with rfl | rfl | rfl <;> rfl) rfl rfl ?_)
      intro w21 hw21 qw21 bew21
      have uw21 : UpdB _ _ _ := ⟨qw21, bew21⟩
      have sw21 := uw21.stp h4.inM hlow h4.ge
      have frw21 := qw21.2
      replace h6 := h6.stp sw21 (frw21 b6 h6.lt ne_h4_h6.symm)
      replace h7 := h7.stp sw21 (frw21 b7 h7.lt ne_h4_h7.symm)
      replace h8 := h8.stp sw21 (frw21 b8 h8.lt ne_h4_h8.symm)
      replace hE := hE.trans sw21.below
      replace ht := Rep.stp ht sw21
      replace hk := hk.stp sw21
      replace h2 := h2.stp sw21
      replace h3 := h3.stp sw21
      replace hfl := hfl.stp sw21
      replace htl := Rep.stp htl sw21
      replace hke := hke.stp sw21
      replace hsub := fun b h => sw21.sub b (hsub b h)
      replace hlow := sw21.low
      replace hB := Nat.le_trans hB sw21.upd.1
      replace h4 : MB w.heap.size _ w21 b4 _ [.int .i64 ((atBase (flatF t).1 name : Int)), .int .i64 ((flatF t).2.n), .string name] := ⟨hw21, h4.inM, h4.ge⟩
      refine l_cons (o_p tbOk rfl rfl rfl ?_)
      refine l_nil ?_
      refine x_seq ?_
      refine c_ret ?_
      refine x_ret2st tbOk (fun j v hv => h4.cell j v hv) rfl rfl rfl rfl rfl rfl ?_
      have e1 : atF t name = (atP (flatF t).1 (flatF t).2 name, 0) := by rw [atF]; simp_all
      rw [e1, atP]
      exact ⟨by simp_all, hE⟩
    refine o_ld tbOk (h3.cell 0 _ rfl) rfl rfl rfl rfl rfl ?_
    refine ⟨hS, ?_⟩
    refine a_one 1 rfl (by kernel_rfl) (o_ld tbOk (h7.cell 2 _ rfl) rfl rfl rfl rfl rfl ?_)
    refine ⟨hS, ?_⟩
    refine a_p 3 tbOk rfl rfl rfl rfl (by kernel_rfl) (fun _ _ _ h => h) hS ?_
    refine a_one 4 rfl (by kernel_rfl) (o_st tbOk h8.box rfl rfl rfl rfl (by simp [Value.cells, Value.oneCell']) rfl rfl ?_)
    intro w22 hw22 qw22 bew22
    have uw22 : UpdB _ _ _ := ⟨qw22, bew22⟩
    have sw22 := uw22.stp h8.inM hlow h8.ge
    have frw22 := qw22.2
    replace h4 := h4.stp sw22 (frw22 b4 h4.lt ne_h4_h8)
    replace h6 := h6.stp sw22 (frw22 b6 h6.lt ne_h6_h8)
    replace h7 := h7.stp sw22 (frw22 b7 h7.lt ne_h7_h8)
    replace hE := hE.trans sw22.below
    replace ht := Rep.stp ht sw22
    replace hk := hk.stp sw22
    replace h2 := h2.stp sw22
    replace h3 := h3.stp sw22
    replace hfl := hfl.stp sw22
    replace htl := Rep.stp htl sw22
    replace hke := hke.stp sw22
    replace hsub := fun b h => sw22.sub b (hsub b h)
    replace hlow := sw22.low
    replace hB := Nat.le_trans hB sw22.upd.1
    refine ⟨hS, ?_⟩
    replace h8 : MB w.heap.size _ w22 b8 _ [.int .i64 ((atBase (flatF t).1 name : Int)), .int .i64 ((flatF t).2.n), .string ⟨#[]⟩] := ⟨hw22, h8.inM, h8.ge⟩
    refine a_p 5 tbOk rfl rfl rfl rfl (by kernel_rfl) (fun _ _ _ h => h) hS ?_
    refine a_one 6 rfl (by kernel_rfl) (o_st tbOk h8.box rfl rfl rfl rfl (by simp [Value.cells, Value.oneCell']) rfl rfl ?_)
    intro w23 hw23 qw23 bew23
    have uw23 : UpdB _ _ _ := ⟨qw23, bew23⟩
    have sw23 := uw23.stp h8.inM hlow h8.ge
    have frw23 := qw23.2
    replace h4 := h4.stp sw23 (frw23 b4 h4.lt ne_h4_h8)
    replace h6 := h6.stp sw23 (frw23 b6 h6.lt ne_h6_h8)
    replace h7 := h7.stp sw23 (frw23 b7 h7.lt ne_h7_h8)
    replace hE := hE.trans sw23.below
    replace ht := Rep.stp ht sw23
    replace hk := hk.stp sw23
    replace h2 := h2.stp sw23
    replace h3 := h3.stp sw23
    replace hfl := hfl.stp sw23
    replace htl := Rep.stp htl sw23
    replace hke := hke.stp sw23
    replace hsub := fun b h => sw23.sub b (hsub b h)
    replace hlow := sw23.low
    replace hB := Nat.le_trans hB sw23.upd.1
    refine ⟨hS, ?_⟩
    replace h8 : MB w.heap.size _ w23 b8 _ [.int .i64 ((atBase (flatF t).1 name : Int)), .int .i64 ((flatF t).2.n), .string name] := ⟨hw23, h8.inM, h8.ge⟩
    refine a_end (by kernel_rfl) ?_
    refine x_seq ?_
    refine c_seq ?_
    refine c_reg ?_
    refine l_cons (o_lds tbOk (fun j v hv => h8.cell j v hv) rfl rfl rfl rfl rfl rfl ?_)
    refine l_cons (o_st tbOk h4.box rfl rfl rfl rfl (by intro u hu; simp [Value.cells] at hu; rcases hu with rfl | rfl | rfl <;> rfl) rfl rfl ?_)
    intro w24 hw24 qw24 bew24
    have uw24 : UpdB _ _ _ := ⟨qw24, bew24⟩
    have sw24 := uw24.stp h4.inM hlow h4.ge
    have frw24 := qw24.2
    replace h6 := h6.stp sw24 (frw24 b6 h6.lt ne_h4_h6.symm)
    replace h7 := h7.stp sw24 (frw24 b7 h7.lt ne_h4_h7.symm)
    replace h8 := h8.stp sw24 (frw24 b8 h8.lt ne_h4_h8.symm)
    replace hE := hE.trans sw24.below
    replace ht := Rep.stp ht sw24
    replace hk := hk.stp sw24
    replace h2 := h2.stp sw24
    replace h3 := h3.stp sw24
    replace hfl := hfl.stp sw24
    replace htl := Rep.stp htl sw24
    replace hke := hke.stp sw24
    replace hsub := fun b h => sw24.sub b (hsub b h)
    replace hlow := sw24.low
    replace hB := Nat.le_trans hB sw24.upd.1
    replace h4 : MB w.heap.size _ w24 b4 _ [.int .i64 ((atBase (flatF t).1 name : Int)), .int .i64 ((flatF t).2.n), .string name] := ⟨hw24, h4.inM, h4.ge⟩
    refine l_cons (o_p tbOk rfl rfl rfl ?_)
    refine l_nil ?_
    refine x_seq ?_
    refine c_ret ?_
    refine x_ret2st tbOk (fun j v hv => h4.cell j v hv) rfl rfl rfl rfl rfl rfl ?_
    have e1 : atF t name = (atP (flatF t).1 (flatF t).2 name, 0) := by rw [atF]; simp_all
    rw [e1, atP]
    exact ⟨by simp_all, hE⟩
  refine c_skip ?_
  refine x_seq ?_
  refine c_seq ?_
  refine c_reg ?_
  refine l_cons (o_lds tbOk (fun j v hv => h8.cell j v hv) rfl rfl rfl rfl rfl rfl ?_)
  refine l_cons (o_st tbOk h4.box rfl rfl rfl rfl (by intro u hu; simp [Value.cells] at hu; rcases hu with rfl | rfl | rfl <;> rfl) rfl rfl ?_)
  intro w25 hw25 qw25 bew25
  have uw25 : UpdB _ _ _ := ⟨qw25, bew25⟩
  have sw25 := uw25.stp h4.inM hlow h4.ge
  have frw25 := qw25.2
  replace h6 := h6.stp sw25 (frw25 b6 h6.lt ne_h4_h6.symm)
  replace h7 := h7.stp sw25 (frw25 b7 h7.lt ne_h4_h7.symm)
  replace h8 := h8.stp sw25 (frw25 b8 h8.lt ne_h4_h8.symm)
  replace hE := hE.trans sw25.below
  replace ht := Rep.stp ht sw25
  replace hk := hk.stp sw25
  replace h2 := h2.stp sw25
  replace h3 := h3.stp sw25
  replace hfl := hfl.stp sw25
  replace htl := Rep.stp htl sw25
  replace hke := hke.stp sw25
  replace hsub := fun b h => sw25.sub b (hsub b h)
  replace hlow := sw25.low
  replace hB := Nat.le_trans hB sw25.upd.1
  replace h4 : MB w.heap.size _ w25 b4 _ [.int .i64 ((atBase (flatF t).1 name : Int)), .int .i64 (-1), .string ⟨#[]⟩] := ⟨hw25, h4.inM, h4.ge⟩
  refine l_cons (o_p tbOk rfl rfl rfl ?_)
  refine l_nil ?_
  refine x_seq ?_
  refine c_ret ?_
  refine x_ret2st tbOk (fun j v hv => h4.cell j v hv) rfl rfl rfl rfl rfl rfl ?_
  have e1 : atF t name = (atP (flatF t).1 (flatF t).2 name, 0) := by rw [atF]; simp_all
  rw [e1, atP]
  exact ⟨by simp_all, hE⟩

end Go.Proofs.Ytohfnpmehgpphaa
