/- Walks: a row put for a row's variable. Printed by wip/walks/layout7.py. -/
import Derived.Test.YtohfnpmehgpphaaYg
import Derived.Test.YtohfnpmehgpphaaWk
import Derived.Test.YtohfnpmehgpphaaPlainS
namespace Go.Proofs.Ytohfnpmehgpphaa
open Go Rw Go.RowKit
set_option maxRecDepth 100000

/-- Of: what is put for a number. -/
theorem ofB_spec (n : Int) (e : Ty) (he : rowB e = true) (hze : psz e ≤ 2000000) (m : Int) (row : Bool) (M : Nat → Prop) (w : World) (v : Value) (hs : Sl M w v ([⟨n, e⟩] : List Bnd)) (hlow0 : Low M w) :
    Calls Try.prog 99 #[v, .int .i64 m, .bool row] w (Ret fun r w' => (∃ x tv, r = .tuple #[tv, .bool (decide (n = m) && row)] ∧ Rep.R M w' tv x ∧ ((decide (n = m) && row) = true → x = e)) ∧ Ext w w') := by
  have hlow := hlow0
  have hB : w.heap.size ≤ w.heap.size := Nat.le_refl _
  have hE : Below w.heap.size w w := Below.refl _ _
  have hsub : ∀ b, M b → M b := fun _ h => h
  refine c_enter (n := 51) Try.func99 rfl rfl rfl ?_
  refine c_seq ?_
  refine c_reg ?_
  refine l_cons (o_new tbOk rfl rfl rfl ?_)
  intro b6 w1 qb6 ew1 hb6
  have sw1 := Stp.add ew1 hlow hB (Nat.le_of_eq qb6.symm) hb6.lt
  have h6 : MB w.heap.size (Rw.Add M b6) w1 b6 40 [.int .u8 0, .string ⟨#[]⟩, .int .i64 0, .slice none 0 0] := MB.mk' hb6 qb6 hB
  replace hE := hE.trans sw1.below
  replace hs := hs.stp sw1
  replace hsub := fun b h => sw1.sub b (hsub b h)
  replace hlow := sw1.low
  replace hB := Nat.le_trans hB sw1.upd.1
  refine l_cons (o_p tbOk rfl rfl rfl ?_)
  refine l_nil ?_
  refine x_seq ?_
  refine c_seq ?_
  refine c_seq ?_
  refine c_reg ?_
  refine l_cons (o_p tbOk rfl rfl rfl ?_)
  refine l_nil ?_
  refine x_seq ?_
  refine c_blk ?_
  refine c_loop (X := Nat) (fun i => [(0, v), (1, .int .i64 m), (2, .bool row), (6, .pointer (some ⟨b6, 0, none⟩)), (8, .int .i64 (i : Nat))]) (fun i w' => i ≤ 1 ∧ (i = 1 → (decide (n = m) && row) = false) ∧ MB w.heap.size (Rw.Add M b6) w' b6 40 [.int .u8 0, .string ⟨#[]⟩, .int .i64 0, .slice none 0 0] ∧ Sl (Rw.Add M b6) w' v ([⟨n, e⟩] : List Bnd) ∧ Low (Rw.Add M b6) w' ∧ (∀ b, M b → (Rw.Add M b6) b) ∧ Below w.heap.size w w' ∧ w.heap.size ≤ w'.heap.size) (fun i => 1 - i) (0) (subL_cons rfl (subL_cons rfl (subL_cons rfl (subL_cons rfl (subL_cons rfl (subL_nil)))))) ?_ ?_
  · exact ⟨by omega, fun h => by omega, h6, hs, hlow, hsub, hE, hB⟩
  rintro i w2 ⟨hi, hno, h6, hs, hlow, hsub, hE, hB⟩
  refine c_seq ?_
  refine c_seq ?_
  refine c_reg ?_
  refine l_cons (o_p tbOk rfl rfl rfl ?_)
  refine l_cons (o_p tbOk rfl rfl rfl ?_)
  refine l_cons (o_len tbOk hs rfl rfl rfl rfl rfl ?_)
  refine l_cons (o_p tbOk rfl rfl rfl ?_)
  refine l_nil ?_
  refine x_seq ?_
  refine c_ifP _ rfl (fun hc => ?_) (fun hc => ?_)
  · obtain rfl : i = 0 := by simp only [List.length_cons, List.length_nil] at hc; omega
    refine c_skip ?_
    refine x_seq ?_
    refine c_seq ?_
    refine c_blk ?_
    refine c_seq ?_
    refine c_reg ?_
    refine l_cons (o_p tbOk rfl rfl rfl ?_)
    refine l_cons (o_p tbOk rfl rfl rfl ?_)
    refine l_cons (o_ixS tbOk hs (show ([⟨n, e⟩] : List Bnd)[0]? = some ⟨n, e⟩ from rfl) rfl rfl rfl rfl rfl rfl rfl rfl rfl ?_)
    intro eby0 eoy0 euy0 hry0 haty0
    obtain ⟨bny0, kvy0, rfl, hyy0⟩ := bnd_open hry0
    replace haty0 : At _ w2 eby0 eoy0 [.int .i64 (⟨n, e⟩ : Bnd).n, .int .u8 (⟨n, e⟩ : Bnd).to.op, .string (⟨n, e⟩ : Bnd).to.name, .int .i64 (⟨n, e⟩ : Bnd).to.n, kvy0] := haty0
    refine l_cons (o_p tbOk rfl rfl rfl ?_)
    refine l_cons (o_ld tbOk (haty0.cell 0 _ rfl) rfl rfl rfl rfl rfl ?_)
    refine l_cons (o_p tbOk rfl rfl rfl ?_)
    refine l_cons (o_p tbOk rfl rfl rfl ?_)
    refine l_cons (o_p tbOk rfl rfl rfl ?_)
    refine l_splitP 22 _ rfl (fun hnm => ?_) (fun hnm => ?_)
    · replace hnm : n = m := hnm
      refine l_cons (o_p tbOk rfl rfl rfl ?_)
      refine l_cons (o_p tbOk rfl rfl rfl ?_)
      refine l_split 24 _ rfl (fun hrow => ?_) (fun hrow => ?_)
      · subst hrow
        refine l_cons (o_p tbOk rfl rfl rfl ?_)
        refine l_cons (o_p tbOk rfl rfl rfl ?_)
        refine l_cons (o_ixS tbOk hs (show ([⟨n, e⟩] : List Bnd)[0]? = some ⟨n, e⟩ from rfl) rfl rfl rfl rfl rfl rfl rfl rfl rfl ?_)
        intro eby1 eoy1 euy1 hry1 haty1
        obtain ⟨bny1, kvy1, rfl, hyy1⟩ := bnd_open hry1
        replace haty1 : At _ w2 eby1 eoy1 [.int .i64 (⟨n, e⟩ : Bnd).n, .int .u8 (⟨n, e⟩ : Bnd).to.op, .string (⟨n, e⟩ : Bnd).to.name, .int .i64 (⟨n, e⟩ : Bnd).to.n, kvy1] := haty1
        refine l_cons (o_p tbOk rfl rfl rfl ?_)
        refine l_cons (o_lds tbOk (fun j v hv => (haty1).drop 1 (sub := [.int .u8 (⟨n, e⟩ : Bnd).to.op, .string (⟨n, e⟩ : Bnd).to.name, .int .i64 (⟨n, e⟩ : Bnd).to.n, kvy1]) rfl j v hv) rfl rfl rfl rfl rfl rfl ?_)
        have k1 := refRow_spec e _ _ _ hyy1 hlow hze
        rw [he] at k1
        refine l_cons (o_call fo20 rfl rfl rfl (k1) ?_)
        rintro _ w3 ⟨rfl, ew3⟩
        replace h6 := h6.ext hlow hB ew3
        replace hE := hE.trans (Below.mono ew3 hB)
        replace hs := hs.ext ew3
        replace hry0 := Rep.ext hry0 ew3
        replace hyy0 := Rep.ext hyy0 ew3
        replace haty0 := haty0.ext ew3
        replace hry1 := Rep.ext hry1 ew3
        replace hyy1 := Rep.ext hyy1 ew3
        replace haty1 := haty1.ext ew3
        replace hlow := hlow.ext ew3
        replace hB := Nat.le_trans hB ew3.size
        refine l_cons (o_p tbOk rfl rfl rfl ?_)
        refine l_cons (o_p tbOk rfl rfl rfl ?_)
        refine l_cons (o_skip rfl rfl ?_)
        refine l_cons (o_skip rfl rfl ?_)
        refine l_cons (o_skip rfl rfl ?_)
        refine l_cons (o_skip rfl rfl ?_)
        refine l_cons (o_skip rfl rfl ?_)
        refine l_cons (o_skip rfl rfl ?_)
        refine l_cons (o_skip rfl rfl ?_)
        refine l_cons (o_skip rfl rfl ?_)
        refine l_cons (o_skip rfl rfl ?_)
        refine l_cons (o_skip rfl rfl ?_)
        refine l_cons (o_p tbOk rfl rfl rfl ?_)
        refine l_cons (o_p tbOk rfl rfl rfl ?_)
        refine l_nil ?_
        refine x_seq ?_
        refine c_ifT rfl ?_
        refine c_seq ?_
        refine c_reg ?_
        refine l_cons (o_p tbOk rfl rfl rfl ?_)
        refine l_cons (o_p tbOk rfl rfl rfl ?_)
        refine l_cons (o_ixS tbOk hs (show ([⟨n, e⟩] : List Bnd)[0]? = some ⟨n, e⟩ from rfl) rfl rfl rfl rfl rfl rfl rfl rfl rfl ?_)
        intro eby2 eoy2 euy2 hry2 haty2
        obtain ⟨bny2, kvy2, rfl, hyy2⟩ := bnd_open hry2
        replace haty2 : At _ w3 eby2 eoy2 [.int .i64 (⟨n, e⟩ : Bnd).n, .int .u8 (⟨n, e⟩ : Bnd).to.op, .string (⟨n, e⟩ : Bnd).to.name, .int .i64 (⟨n, e⟩ : Bnd).to.n, kvy2] := haty2
        refine l_cons (o_p tbOk rfl rfl rfl ?_)
        refine l_cons (o_lds tbOk (fun j v hv => (haty2).drop 1 (sub := [.int .u8 (⟨n, e⟩ : Bnd).to.op, .string (⟨n, e⟩ : Bnd).to.name, .int .i64 (⟨n, e⟩ : Bnd).to.n, kvy2]) rfl j v hv) rfl rfl rfl rfl rfl rfl ?_)
        replace hyy2 : Rep.R _ _ _ e := hyy2
        refine l_cons (o_st tbOk h6.box rfl rfl rfl rfl (Rep.one hyy2) rfl rfl ?_)
        intro w4 hw4 qw4 bew4
        have uw4 : UpdB _ _ _ := ⟨qw4, bew4⟩
        have sw4 := uw4.stp h6.inM hlow h6.ge
        have frw4 := qw4.2
        replace hE := hE.trans sw4.below
        replace hs := hs.stp sw4
        replace hry0 := Rep.stp hry0 sw4
        replace hyy0 := Rep.stp hyy0 sw4
        replace haty0 := haty0.stp sw4
        replace hry1 := Rep.stp hry1 sw4
        replace hyy1 := Rep.stp hyy1 sw4
        replace haty1 := haty1.stp sw4
        replace hry2 := Rep.stp hry2 sw4
        replace hyy2 := Rep.stp hyy2 sw4
        replace haty2 := haty2.stp sw4
        replace hsub := fun b h => sw4.sub b (hsub b h)
        replace hlow := sw4.low
        replace hB := Nat.le_trans hB sw4.upd.1
        replace h6 : MB w.heap.size _ w4 b6 _ [.int .u8 (⟨n, e⟩ : Bnd).to.op, .string (⟨n, e⟩ : Bnd).to.name, .int .i64 (⟨n, e⟩ : Bnd).to.n, kvy2] := ⟨hw4, h6.inM, h6.ge⟩
        refine l_cons (o_p tbOk rfl rfl rfl ?_)
        refine l_nil ?_
        refine x_seq ?_
        refine c_ret ?_
        refine x_blkR ?_
        refine x_seqR ?_
        refine x_seqR ?_
        refine x_blkR ?_
        refine x_seqR ?_
        refine x_ret2st tbOk (fun j v hv => h6.cell j v hv) rfl rfl rfl rfl rfl rfl ?_
        exact ⟨⟨e, _, by simp [*], Rep.wk hyy2 (fun b _ h => hsub b h), fun _ => rfl⟩, hE⟩
      subst hrow
      refine l_cons (o_skip rfl rfl ?_)
      refine l_cons (o_skip rfl rfl ?_)
      refine l_cons (o_skip rfl rfl ?_)
      refine l_cons (o_skip rfl rfl ?_)
      refine l_cons (o_skip rfl rfl ?_)
      refine l_cons (o_skip rfl rfl ?_)
      refine l_cons (o_p tbOk rfl rfl rfl ?_)
      refine l_cons (o_p tbOk rfl rfl rfl ?_)
      refine l_cons (o_p tbOk rfl rfl rfl ?_)
      refine l_cons (o_p tbOk rfl rfl rfl ?_)
      refine l_cons (o_p tbOk rfl rfl rfl ?_)
      refine l_cons (o_p tbOk rfl rfl rfl ?_)
      refine l_cons (o_p tbOk rfl rfl rfl ?_)
      refine l_cons (o_ixS tbOk hs (show ([⟨n, e⟩] : List Bnd)[0]? = some ⟨n, e⟩ from rfl) rfl rfl rfl rfl rfl rfl rfl rfl rfl ?_)
      intro eby1 eoy1 euy1 hry1 haty1
      obtain ⟨bny1, kvy1, rfl, hyy1⟩ := bnd_open hry1
      replace haty1 : At _ w2 eby1 eoy1 [.int .i64 (⟨n, e⟩ : Bnd).n, .int .u8 (⟨n, e⟩ : Bnd).to.op, .string (⟨n, e⟩ : Bnd).to.name, .int .i64 (⟨n, e⟩ : Bnd).to.n, kvy1] := haty1
      refine l_cons (o_p tbOk rfl rfl rfl ?_)
      refine l_cons (o_lds tbOk (fun j v hv => (haty1).drop 1 (sub := [.int .u8 (⟨n, e⟩ : Bnd).to.op, .string (⟨n, e⟩ : Bnd).to.name, .int .i64 (⟨n, e⟩ : Bnd).to.n, kvy1]) rfl j v hv) rfl rfl rfl rfl rfl rfl ?_)
      have k2 := refRight_spec e _ _ _ hyy1 hlow hze
      rw [show rightB e = false by cases h : rightB e with | false => rfl | true => have := right_row h; rw [he] at this; cases this] at k2
      refine l_cons (o_call fo45 rfl rfl rfl (k2) ?_)
      rintro _ w5 ⟨rfl, ew5⟩
      replace h6 := h6.ext hlow hB ew5
      replace hE := hE.trans (Below.mono ew5 hB)
      replace hs := hs.ext ew5
      replace hry0 := Rep.ext hry0 ew5
      replace hyy0 := Rep.ext hyy0 ew5
      replace haty0 := haty0.ext ew5
      replace hry1 := Rep.ext hry1 ew5
      replace hyy1 := Rep.ext hyy1 ew5
      replace haty1 := haty1.ext ew5
      replace hlow := hlow.ext ew5
      replace hB := Nat.le_trans hB ew5.size
      refine l_cons (o_p tbOk rfl rfl rfl ?_)
      refine l_cons (o_p tbOk rfl rfl rfl ?_)
      refine l_cons (o_p tbOk rfl rfl rfl ?_)
      refine l_nil ?_
      refine x_seq ?_
      refine c_ifF rfl ?_
      refine c_skip ?_
      refine x_blk ?_
      refine x_seq ?_
      refine c_reg ?_
      refine l_cons (o_p tbOk rfl rfl rfl ?_)
      refine l_cons (o_ar rfl rfl rfl (IntWalk.i64_in _ (by omega)) rfl rfl ?_)
      refine l_cons (o_p tbOk rfl rfl rfl ?_)
      refine l_nil ?_
      exact x_round (1) (subL_cons rfl (subL_cons rfl (subL_cons rfl (subL_cons rfl (subL_cons (get_num rfl (by omega)) (subL_nil)))))) ⟨Nat.le_refl _, fun _ => by simp [*], h6, hs, hlow, hsub, hE, hB⟩ (by omega)
    replace hnm : ¬ n = m := hnm
    refine l_cons (o_skip rfl rfl ?_)
    refine l_cons (o_skip rfl rfl ?_)
    refine l_cons (o_skip rfl rfl ?_)
    refine l_cons (o_skip rfl rfl ?_)
    refine l_cons (o_skip rfl rfl ?_)
    refine l_cons (o_skip rfl rfl ?_)
    refine l_cons (o_skip rfl rfl ?_)
    refine l_cons (o_skip rfl rfl ?_)
    refine l_cons (o_skip rfl rfl ?_)
    refine l_cons (o_skip rfl rfl ?_)
    refine l_cons (o_skip rfl rfl ?_)
    refine l_cons (o_skip rfl rfl ?_)
    refine l_cons (o_skip rfl rfl ?_)
    refine l_cons (o_skip rfl rfl ?_)
    refine l_cons (o_skip rfl rfl ?_)
    refine l_cons (o_skip rfl rfl ?_)
    refine l_cons (o_skip rfl rfl ?_)
    refine l_cons (o_skip rfl rfl ?_)
    refine l_cons (o_skip rfl rfl ?_)
    refine l_cons (o_skip rfl rfl ?_)
    refine l_cons (o_skip rfl rfl ?_)
    refine l_cons (o_p tbOk rfl rfl rfl ?_)
    refine l_nil ?_
    refine x_seq ?_
    refine c_ifF rfl ?_
    refine c_skip ?_
    refine x_blk ?_
    refine x_seq ?_
    refine c_reg ?_
    refine l_cons (o_p tbOk rfl rfl rfl ?_)
    refine l_cons (o_ar rfl rfl rfl (IntWalk.i64_in _ (by omega)) rfl rfl ?_)
    refine l_cons (o_p tbOk rfl rfl rfl ?_)
    refine l_nil ?_
    exact x_round (1) (subL_cons rfl (subL_cons rfl (subL_cons rfl (subL_cons rfl (subL_cons (get_num rfl (by omega)) (subL_nil)))))) ⟨Nat.le_refl _, fun _ => by simp [*], h6, hs, hlow, hsub, hE, hB⟩ (by omega)
  obtain rfl : i = 1 := by simp only [List.length_cons, List.length_nil] at hc; omega
  have hf := hno rfl
  refine c_exit ?_
  refine x_seqE ?_
  refine x_seqE ?_
  refine x_blkE ?_
  refine x_seq ?_
  refine c_seq ?_
  refine c_reg ?_
  refine l_cons (o_build (cells := [.int .u8 0, .string ⟨#[]⟩, .int .i64 0, .slice none 0 0]) (css := []) bd40 rfl rfl rfl rfl rfl ?_)
  refine l_cons (o_st tbOk h6.box rfl rfl rfl rfl (by intro u hu; simp [Value.cells] at hu; rcases hu with rfl | rfl | rfl | rfl <;> rfl) rfl rfl ?_)
  intro w6 hw6 qw6 bew6
  have uw6 : UpdB _ _ _ := ⟨qw6, bew6⟩
  have sw6 := uw6.stp h6.inM hlow h6.ge
  have frw6 := qw6.2
  replace hE := hE.trans sw6.below
  replace hs := hs.stp sw6
  replace hsub := fun b h => sw6.sub b (hsub b h)
  replace hlow := sw6.low
  replace hB := Nat.le_trans hB sw6.upd.1
  replace h6 : MB w.heap.size _ w6 b6 _ [.int .u8 0, .string ⟨#[]⟩, .int .i64 0, .slice none 0 0] := ⟨hw6, h6.inM, h6.ge⟩
  refine l_cons (o_p tbOk rfl rfl rfl ?_)
  refine l_nil ?_
  refine x_seq ?_
  refine c_ret ?_
  refine x_ret2st tbOk (fun j v hv => h6.cell j v hv) rfl rfl rfl rfl rfl rfl ?_
  exact ⟨⟨Ty.mk 0 ⟨#[]⟩ 0 [], _, by rw [hf], ty_mk (by decide) (by decide) ⟨by decide, by decide⟩ sl_nil, fun h => by rw [hf] at h; cases h⟩, hE⟩

/-- put: a row for its variables. -/
theorem putR_spec : ∀ (t : Ty) (n : Int) (e : Ty) (he : rowB e = true) (hze : psz e ≤ 2000000) (M : Nat → Prop) (w : World) (v u : Value), Rep.R M w v t → Sl M w u ([⟨n, e⟩] : List Bnd) → Low M w → psz t ≤ 2000000 → Calls Try.prog 69 #[v, u] w (Ret fun r w' => Rep.R M w' r (putF n e t) ∧ Ext w w') := by
  refine Ty.ind fun t ih => ?_
  intro n e he hze M w v u ht hs hlow0 hsz
  have hlow := hlow0
  have hB : w.heap.size ≤ w.heap.size := Nat.le_refl _
  have hE : Below w.heap.size w w := Below.refl _ _
  have hsub : ∀ b, M b → M b := fun _ h => h
  obtain ⟨kv, rfl, op, nm, n64, hk⟩ := ty_open ht
  have hps := psz_eq t
  have hkl := len_psz t.kids
  refine c_enter (n := 57) Try.func69 rfl rfl rfl ?_
  refine c_seq ?_
  refine c_reg ?_
  refine l_cons (o_box rfl rfl rfl ?_)
  intro b2 w1 hb_b2 ew1 h2
  replace h2 : Box _ b2 40 [.int .u8 t.op, .string t.name, .int .i64 t.n, kv] := h2
  replace h2 := h2.at (nM_of hlow hb_b2)
  replace hE := hE.trans (Below.mono ew1 hB)
  replace hs := hs.ext ew1
  replace ht := Rep.ext ht ew1
  replace hk := hk.ext ew1
  replace hlow := hlow.ext ew1
  replace hB := Nat.le_trans hB ew1.size
  refine l_cons (o_new tbOk rfl rfl rfl ?_)
  intro b4 w2 qb4 ew2 hb4
  have sw2 := Stp.add ew2 hlow hB (Nat.le_of_eq qb4.symm) hb4.lt
  have h4 : MB w.heap.size (Rw.Add M b4) w2 b4 40 [.int .u8 0, .string ⟨#[]⟩, .int .i64 0, .slice none 0 0] := MB.mk' hb4 qb4 hB
  replace hE := hE.trans sw2.below
  replace hs := hs.stp sw2
  replace ht := Rep.stp ht sw2
  replace hk := hk.stp sw2
  replace h2 := h2.stp sw2
  replace hsub := fun b h => sw2.sub b (hsub b h)
  replace hlow := sw2.low
  replace hB := Nat.le_trans hB sw2.upd.1
  refine l_nil ?_
  refine x_seq ?_
  refine c_seq ?_
  refine c_seq ?_
  refine c_reg ?_
  refine l_cons (o_p tbOk rfl rfl rfl ?_)
  refine l_cons (o_ld tbOk (h2.cell 0 _ rfl) rfl rfl rfl rfl rfl ?_)
  refine l_cons (o_p tbOk rfl rfl rfl ?_)
  refine l_cons (o_p tbOk rfl rfl rfl ?_)
  refine l_splitP 12 _ rfl (fun h7 => ?_) (fun h7 => ?_)
  · have hop := h7
    refine l_cons (o_skip rfl rfl ?_)
    refine l_cons (o_skip rfl rfl ?_)
    refine l_cons (o_skip rfl rfl ?_)
    refine l_cons (o_p tbOk rfl rfl rfl ?_)
    refine l_nil ?_
    refine x_seq ?_
    refine c_ifT rfl ?_
    refine c_seq ?_
    refine c_seq ?_
    refine c_reg ?_
    refine l_cons (o_p tbOk rfl rfl rfl ?_)
    refine l_cons (o_p tbOk rfl rfl rfl ?_)
    refine l_cons (o_ld tbOk (h2.cell 2 _ rfl) rfl rfl rfl rfl rfl ?_)
    refine l_cons (o_p tbOk rfl rfl rfl ?_)
    refine l_cons (o_ld tbOk (h2.cell 0 _ rfl) rfl rfl rfl rfl rfl ?_)
    refine l_cons (o_p tbOk rfl rfl rfl ?_)
    refine l_cons (o_call fo99 rfl rfl rfl (ofB_spec n e he hze t.n (decide (t.op = 10)) _ _ _ hs hlow) ?_)
    rintro _ w3 ⟨⟨x, tv, rfl, hx, hxe⟩, ew3⟩
    replace h4 := h4.ext hlow hB ew3
    replace hE := hE.trans (Below.mono ew3 hB)
    replace hs := hs.ext ew3
    replace ht := Rep.ext ht ew3
    replace hk := hk.ext ew3
    replace h2 := h2.ext ew3
    replace hlow := hlow.ext ew3
    replace hB := Nat.le_trans hB ew3.size
    obtain ⟨kvx, rfl, opx, nmx, n64x, hkx⟩ := ty_open hx
    refine l_cons (o_p tbOk rfl rfl rfl ?_)
    refine l_cons (o_p tbOk rfl rfl rfl ?_)
    refine l_cons (o_p tbOk rfl rfl rfl ?_)
    refine l_cons (o_new tbOk rfl rfl rfl ?_)
    intro b5 w4 qb5 ew4 hb5
    have nb5 := nM_of hlow qb5
    refine l_cons (o_st tbOk hb5 rfl rfl rfl rfl (Rep.one hx) rfl rfl ?_)
    intro w5 h5 uw5 bew5
    have ew5 : Ext w3 w5 := ew4.trans (bew5 _ (Nat.le_of_eq qb5.symm))
    replace h4 := h4.ext hlow hB ew5
    replace hE := hE.trans (Below.mono ew5 hB)
    replace hs := hs.ext ew5
    replace ht := Rep.ext ht ew5
    replace hk := hk.ext ew5
    replace h2 := h2.ext ew5
    replace hx := Rep.ext hx ew5
    replace hkx := hkx.ext ew5
    replace hlow := hlow.ext ew5
    replace hB := Nat.le_trans hB ew5.size
    replace h5 : Box w5 b5 40 [.int .u8 x.op, .string x.name, .int .i64 x.n, kvx] := h5
    replace h5 := h5.at nb5
    refine l_cons (o_p tbOk rfl rfl rfl ?_)
    refine l_nil ?_
    refine x_seq ?_
    refine c_seq ?_
    refine c_reg ?_
    refine l_cons (o_p tbOk rfl rfl rfl ?_)
    refine l_nil ?_
    refine x_seq ?_
    refine c_if _ rfl (fun hh => ?_) (fun hh => ?_)
    · refine c_seq ?_
      refine c_reg ?_
      refine l_cons (o_lds tbOk (fun j v hv => h5.cell j v hv) rfl rfl rfl rfl rfl rfl ?_)
      refine l_cons (o_st tbOk h4.box rfl rfl rfl rfl (Rep.one hx) rfl rfl ?_)
      intro w6 hw6 qw6 bew6
      have uw6 : UpdB _ _ _ := ⟨qw6, bew6⟩
      have sw6 := uw6.stp h4.inM hlow h4.ge
      have frw6 := qw6.2
      replace hE := hE.trans sw6.below
      replace hs := hs.stp sw6
      replace ht := Rep.stp ht sw6
      replace hk := hk.stp sw6
      replace h2 := h2.stp sw6
      replace hx := Rep.stp hx sw6
      replace hkx := hkx.stp sw6
      replace h5 := h5.stp sw6
      replace hsub := fun b h => sw6.sub b (hsub b h)
      replace hlow := sw6.low
      replace hB := Nat.le_trans hB sw6.upd.1
      replace h4 : MB w.heap.size _ w6 b4 _ [.int .u8 x.op, .string x.name, .int .i64 x.n, kvx] := ⟨hw6, h4.inM, h4.ge⟩
      refine l_nil ?_
      refine x_seq ?_
      refine c_ret ?_
      refine x_seqR ?_
      refine x_seqR ?_
      refine x_ret1s tbOk (fun j v hv => h4.cell j v hv) rfl rfl rfl rfl rfl ?_
      rw [Bool.and_eq_true, decide_eq_true_eq, decide_eq_true_eq] at hh
      have e1 : putF n e t = x := by rw [put_hit hh.2 hh.1.symm, hxe (by rw [decide_eq_true hh.1, decide_eq_true hh.2]; rfl)]
      rw [e1]
      exact ⟨Rep.wk hx (fun b _ h => hsub b h), hE⟩
    refine c_skip ?_
    refine x_seq ?_
    refine c_seq ?_
    refine c_reg ?_
    refine l_cons (o_lds tbOk (fun j v hv => h2.cell j v hv) rfl rfl rfl rfl rfl rfl ?_)
    refine l_cons (o_st tbOk h4.box rfl rfl rfl rfl (Rep.one ht) rfl rfl ?_)
    intro w7 hw7 qw7 bew7
    have uw7 : UpdB _ _ _ := ⟨qw7, bew7⟩
    have sw7 := uw7.stp h4.inM hlow h4.ge
    have frw7 := qw7.2
    replace hE := hE.trans sw7.below
    replace hs := hs.stp sw7
    replace ht := Rep.stp ht sw7
    replace hk := hk.stp sw7
    replace h2 := h2.stp sw7
    replace hx := Rep.stp hx sw7
    replace hkx := hkx.stp sw7
    replace h5 := h5.stp sw7
    replace hsub := fun b h => sw7.sub b (hsub b h)
    replace hlow := sw7.low
    replace hB := Nat.le_trans hB sw7.upd.1
    replace h4 : MB w.heap.size _ w7 b4 _ [.int .u8 t.op, .string t.name, .int .i64 t.n, kv] := ⟨hw7, h4.inM, h4.ge⟩
    refine l_nil ?_
    refine x_seq ?_
    refine c_ret ?_
    refine x_seqR ?_
    refine x_ret1s tbOk (fun j v hv => h4.cell j v hv) rfl rfl rfl rfl rfl ?_
    have e1 : putF n e t = t := put_var (fun h => by rw [decide_eq_true h.1, decide_eq_true h.2.symm] at hh; cases hh) (by omega)
    rw [e1]
    exact ⟨Rep.wk ht (fun b _ h => hsub b h), hE⟩
  refine l_cons (o_p tbOk rfl rfl rfl ?_)
  refine l_cons (o_ld tbOk (h2.cell 0 _ rfl) rfl rfl rfl rfl rfl ?_)
  refine l_cons (o_p tbOk rfl rfl rfl ?_)
  refine l_cons (o_p tbOk rfl rfl rfl ?_)
  refine l_nil ?_
  refine x_seq ?_
  refine c_ifP _ rfl (fun h10 => ?_) (fun h10 => ?_)
  · refine c_seq ?_
    refine c_seq ?_
    refine c_reg ?_
    refine l_cons (o_p tbOk rfl rfl rfl ?_)
    refine l_cons (o_p tbOk rfl rfl rfl ?_)
    refine l_cons (o_ld tbOk (h2.cell 2 _ rfl) rfl rfl rfl rfl rfl ?_)
    refine l_cons (o_p tbOk rfl rfl rfl ?_)
    refine l_cons (o_ld tbOk (h2.cell 0 _ rfl) rfl rfl rfl rfl rfl ?_)
    refine l_cons (o_p tbOk rfl rfl rfl ?_)
    refine l_cons (o_call fo99 rfl rfl rfl (ofB_spec n e he hze t.n (decide (t.op = 10)) _ _ _ hs hlow) ?_)
    rintro _ w8 ⟨⟨x, tv, rfl, hx, hxe⟩, ew8⟩
    replace h4 := h4.ext hlow hB ew8
    replace hE := hE.trans (Below.mono ew8 hB)
    replace hs := hs.ext ew8
    replace ht := Rep.ext ht ew8
    replace hk := hk.ext ew8
    replace h2 := h2.ext ew8
    replace hlow := hlow.ext ew8
    replace hB := Nat.le_trans hB ew8.size
    obtain ⟨kvx, rfl, opx, nmx, n64x, hkx⟩ := ty_open hx
    refine l_cons (o_p tbOk rfl rfl rfl ?_)
    refine l_cons (o_p tbOk rfl rfl rfl ?_)
    refine l_cons (o_p tbOk rfl rfl rfl ?_)
    refine l_cons (o_new tbOk rfl rfl rfl ?_)
    intro b5 w9 qb5 ew9 hb5
    have nb5 := nM_of hlow qb5
    refine l_cons (o_st tbOk hb5 rfl rfl rfl rfl (Rep.one hx) rfl rfl ?_)
    intro w10 h5 uw10 bew10
    have ew10 : Ext w8 w10 := ew9.trans (bew10 _ (Nat.le_of_eq qb5.symm))
    replace h4 := h4.ext hlow hB ew10
    replace hE := hE.trans (Below.mono ew10 hB)
    replace hs := hs.ext ew10
    replace ht := Rep.ext ht ew10
    replace hk := hk.ext ew10
    replace h2 := h2.ext ew10
    replace hx := Rep.ext hx ew10
    replace hkx := hkx.ext ew10
    replace hlow := hlow.ext ew10
    replace hB := Nat.le_trans hB ew10.size
    replace h5 : Box w10 b5 40 [.int .u8 x.op, .string x.name, .int .i64 x.n, kvx] := h5
    replace h5 := h5.at nb5
    refine l_cons (o_p tbOk rfl rfl rfl ?_)
    refine l_nil ?_
    refine x_seq ?_
    refine c_seq ?_
    refine c_reg ?_
    refine l_cons (o_p tbOk rfl rfl rfl ?_)
    refine l_nil ?_
    refine x_seq ?_
    refine c_if _ rfl (fun hh => ?_) (fun hh => ?_)
    · refine c_seq ?_
      refine c_reg ?_
      refine l_cons (o_lds tbOk (fun j v hv => h5.cell j v hv) rfl rfl rfl rfl rfl rfl ?_)
      refine l_cons (o_st tbOk h4.box rfl rfl rfl rfl (Rep.one hx) rfl rfl ?_)
      intro w11 hw11 qw11 bew11
      have uw11 : UpdB _ _ _ := ⟨qw11, bew11⟩
      have sw11 := uw11.stp h4.inM hlow h4.ge
      have frw11 := qw11.2
      replace hE := hE.trans sw11.below
      replace hs := hs.stp sw11
      replace ht := Rep.stp ht sw11
      replace hk := hk.stp sw11
      replace h2 := h2.stp sw11
      replace hx := Rep.stp hx sw11
      replace hkx := hkx.stp sw11
      replace h5 := h5.stp sw11
      replace hsub := fun b h => sw11.sub b (hsub b h)
      replace hlow := sw11.low
      replace hB := Nat.le_trans hB sw11.upd.1
      replace h4 : MB w.heap.size _ w11 b4 _ [.int .u8 x.op, .string x.name, .int .i64 x.n, kvx] := ⟨hw11, h4.inM, h4.ge⟩
      refine l_nil ?_
      refine x_seq ?_
      refine c_ret ?_
      refine x_seqR ?_
      refine x_seqR ?_
      refine x_ret1s tbOk (fun j v hv => h4.cell j v hv) rfl rfl rfl rfl rfl ?_
      rw [Bool.and_eq_true, decide_eq_true_eq, decide_eq_true_eq] at hh
      have e1 : putF n e t = x := by rw [put_hit hh.2 hh.1.symm, hxe (by rw [decide_eq_true hh.1, decide_eq_true hh.2]; rfl)]
      rw [e1]
      exact ⟨Rep.wk hx (fun b _ h => hsub b h), hE⟩
    refine c_skip ?_
    refine x_seq ?_
    refine c_seq ?_
    refine c_reg ?_
    refine l_cons (o_lds tbOk (fun j v hv => h2.cell j v hv) rfl rfl rfl rfl rfl rfl ?_)
    refine l_cons (o_st tbOk h4.box rfl rfl rfl rfl (Rep.one ht) rfl rfl ?_)
    intro w12 hw12 qw12 bew12
    have uw12 : UpdB _ _ _ := ⟨qw12, bew12⟩
    have sw12 := uw12.stp h4.inM hlow h4.ge
    have frw12 := qw12.2
    replace hE := hE.trans sw12.below
    replace hs := hs.stp sw12
    replace ht := Rep.stp ht sw12
    replace hk := hk.stp sw12
    replace h2 := h2.stp sw12
    replace hx := Rep.stp hx sw12
    replace hkx := hkx.stp sw12
    replace h5 := h5.stp sw12
    replace hsub := fun b h => sw12.sub b (hsub b h)
    replace hlow := sw12.low
    replace hB := Nat.le_trans hB sw12.upd.1
    replace h4 : MB w.heap.size _ w12 b4 _ [.int .u8 t.op, .string t.name, .int .i64 t.n, kv] := ⟨hw12, h4.inM, h4.ge⟩
    refine l_nil ?_
    refine x_seq ?_
    refine c_ret ?_
    refine x_seqR ?_
    refine x_ret1s tbOk (fun j v hv => h4.cell j v hv) rfl rfl rfl rfl rfl ?_
    have e1 : putF n e t = t := put_var (fun h => by rw [decide_eq_true h.1, decide_eq_true h.2.symm] at hh; cases hh) (by omega)
    rw [e1]
    exact ⟨Rep.wk ht (fun b _ h => hsub b h), hE⟩
  have hop : ¬ (t.op = 7 ∨ t.op = 10) := fun h => h.elim h7 h10
  clear h7
  refine c_skip ?_
  refine x_seq ?_
  refine c_seq ?_
  refine c_reg ?_
  refine l_cons (o_p tbOk rfl rfl rfl ?_)
  refine l_cons (o_ld tbOk (h2.cell 0 _ rfl) rfl rfl rfl rfl rfl ?_)
  refine l_cons (o_p tbOk rfl rfl rfl ?_)
  refine l_cons (o_ld tbOk (h2.cell 1 _ rfl) rfl rfl rfl rfl rfl ?_)
  refine l_cons (o_p tbOk rfl rfl rfl ?_)
  refine l_cons (o_ld tbOk (h2.cell 2 _ rfl) rfl rfl rfl rfl rfl ?_)
  refine l_cons (o_build (cells := [.int .u8 t.op, .string t.name, .int .i64 t.n, .slice none 0 0]) (css := [[.int .u8 t.op], [.string t.name], [.int .i64 t.n]]) bd40 rfl rfl rfl rfl rfl ?_)
  refine l_cons (o_new tbOk rfl rfl rfl ?_)
  intro b7 w13 qb7 ew13 hb7
  have ne_h4_h7 : b4 ≠ b7 := by have := h4.lt; omega
  have sw13 := Stp.add ew13 hlow hB (Nat.le_of_eq qb7.symm) hb7.lt
  have h7 : MB w.heap.size (Rw.Add (Rw.Add M b4) b7) w13 b7 40 [.int .u8 0, .string ⟨#[]⟩, .int .i64 0, .slice none 0 0] := MB.mk' hb7 qb7 hB
  replace h4 := h4.stp sw13 (ew13.block b4 h4.lt)
  replace hE := hE.trans sw13.below
  replace hs := hs.stp sw13
  replace ht := Rep.stp ht sw13
  replace hk := hk.stp sw13
  replace h2 := h2.stp sw13
  replace hsub := fun b h => sw13.sub b (hsub b h)
  replace hlow := sw13.low
  replace hB := Nat.le_trans hB sw13.upd.1
  refine l_cons (o_st tbOk h7.box rfl rfl rfl rfl (by intro u hu; simp [Value.cells] at hu; rcases hu with rfl | rfl | rfl | rfl <;> rfl) rfl rfl ?_)
  intro w14 hw14 qw14 bew14
  have uw14 : UpdB _ _ _ := ⟨qw14, bew14⟩
  have sw14 := uw14.stp h7.inM hlow h7.ge
  have frw14 := qw14.2
  replace h4 := h4.stp sw14 (frw14 b4 h4.lt ne_h4_h7)
  replace hE := hE.trans sw14.below
  replace hs := hs.stp sw14
  replace ht := Rep.stp ht sw14
  replace hk := hk.stp sw14
  replace h2 := h2.stp sw14
  replace hsub := fun b h => sw14.sub b (hsub b h)
  replace hlow := sw14.low
  replace hB := Nat.le_trans hB sw14.upd.1
  replace h7 : MB w.heap.size _ w14 b7 _ [.int .u8 t.op, .string t.name, .int .i64 t.n, .slice none 0 0] := ⟨hw14, h7.inM, h7.ge⟩
  refine l_nil ?_
  refine x_seq ?_
  refine c_seq ?_
  refine c_seq ?_
  refine c_reg ?_
  refine l_cons (o_p tbOk rfl rfl rfl ?_)
  refine l_nil ?_
  refine x_seq ?_
  refine c_blk ?_
  have d_ho_h4 : ∀ x, (.slice none 0 0 : Value).ownBlock = some x → x ≠ b4 := fun x hx => by simp [Value.ownBlock] at hx
  have d_ho_h7 : ∀ x, (.slice none 0 0 : Value).ownBlock = some x → x ≠ b7 := fun x hx => by simp [Value.ownBlock] at hx
  refine c_loop3 (X := Nat) (Y := Value) (Z := Nat → Prop) (fun i wv M1 => [(1, u), (2, .pointer (some ⟨b2, 0, none⟩)), (4, .pointer (some ⟨b4, 0, none⟩)), (7, .pointer (some ⟨b7, 0, none⟩)), (8, .int .i64 (i : Nat))]) (fun i wv M1 w' => i ≤ t.kids.length ∧ OwnSl 40 w.heap.size M1 w' wv ((t.kids.take i).map (putF n e)) ∧ MB w.heap.size M1 w' b4 40 [.int .u8 0, .string ⟨#[]⟩, .int .i64 0, .slice none 0 0] ∧ MB w.heap.size M1 w' b7 40 [.int .u8 t.op, .string t.name, .int .i64 t.n, wv] ∧ At M1 w' b2 0 [.int .u8 t.op, .string t.name, .int .i64 t.n, kv] ∧ (∀ x, (wv : Value).ownBlock = some x → x ≠ b4) ∧ (∀ x, (wv : Value).ownBlock = some x → x ≠ b7) ∧ Sl M1 w' kv t.kids ∧ Sl M1 w' u ([⟨n, e⟩] : List Bnd) ∧ Low M1 w' ∧ (∀ b, M b → M1 b) ∧ Below w.heap.size w w' ∧ w.heap.size ≤ w'.heap.size) (fun i wv M1 => t.kids.length - i) (0) (.slice none 0 0) ((Rw.Add (Rw.Add M b4) b7)) (subL_cons rfl (subL_cons rfl (subL_cons rfl (subL_cons rfl (subL_cons rfl (subL_nil)))))) ?_ ?_
  · exact ⟨Nat.zero_le _, own_nil, h4, h7, h2, d_ho_h4, d_ho_h7, hk, hs, hlow, hsub, hE, hB⟩
  rintro i wv M1 w15 ⟨hi, ho, h4, h7, h2, d_ho_h4, d_ho_h7, hk, hs, hlow, hsub, hE, hB⟩
  refine c_seq ?_
  refine c_seq ?_
  refine c_reg ?_
  refine l_cons (o_p tbOk rfl rfl rfl ?_)
  refine l_cons (o_p tbOk rfl rfl rfl ?_)
  refine l_cons (o_ld tbOk (h2.cell 3 _ rfl) rfl rfl rfl rfl rfl ?_)
  refine l_cons (o_len tbOk hk rfl rfl rfl rfl rfl ?_)
  refine l_cons (o_p tbOk rfl rfl rfl ?_)
  refine l_nil ?_
  refine x_seq ?_
  refine c_ifP _ rfl (fun hc => ?_) (fun hc => ?_)
  · refine c_skip ?_
    refine x_seq ?_
    refine c_seq ?_
    refine c_blk ?_
    refine a_beg Ext rfl ?_
    intro w16 ew16
    replace ho := ho.ext hlow hB ew16
    replace h4 := h4.ext hlow hB ew16
    replace h7 := h7.ext hlow hB ew16
    replace hE := hE.trans (Below.mono ew16 hB)
    replace h2 := h2.ext ew16
    replace hk := hk.ext ew16
    replace hs := hs.ext ew16
    replace hlow := hlow.ext ew16
    replace hB := Nat.le_trans hB ew16.size
    have hS : Ext w16 w16 := ext_refl _
    have D_h4 := h4.box
    have D_h7 := h7.box
    have D_h2 := h2
    have D_hk := hk
    have D_hs := hs
    refine a_p 0 tbOk rfl rfl rfl rfl (by kernel_rfl) (fun _ _ _ h => h) hS ?_
    refine a_ld 1 tbOk (fun _ hs => (D_h7.ext hs).cell 3 _ rfl) rfl rfl rfl rfl rfl rfl (by kernel_rfl) (fun _ _ _ h => h) hS ?_
    refine a_p 2 tbOk rfl rfl rfl rfl (by kernel_rfl) (fun _ _ _ h => h) hS ?_
    refine a_ld 3 tbOk (fun _ hs => (D_h2.ext hs).cell 3 _ rfl) rfl rfl rfl rfl rfl rfl (by kernel_rfl) (fun _ _ _ h => h) hS ?_
    refine a_p 4 tbOk rfl rfl rfl rfl (by kernel_rfl) (fun _ _ _ h => h) hS ?_
    have hik : i < t.kids.length := by omega
    have hp1 := psz_take hik
    refine a_ixS 5 tbOk D_hk (List.getElem?_eq_getElem hik) rfl rfl rfl rfl rfl rfl rfl rfl rfl rfl (by kernel_rfl) (fun _ _ _ _ h => h) hS ?_
    intro ebx eox eux hyx hatx
    obtain ⟨kvx, rfl, opx, nmx, n64x, hkx⟩ := ty_open hyx
    replace hatx : At M1 w16 ebx eox [.int .u8 t.kids[i].op, .string t.kids[i].name, .int .i64 t.kids[i].n, kvx] := hatx
    refine a_lds 6 tbOk (fun _ hs j v hv => (hatx.ext hs).cell j v hv) rfl rfl rfl rfl rfl rfl rfl (by kernel_rfl) (fun _ _ _ h => h) hS ?_
    refine a_p 7 tbOk rfl rfl rfl rfl (by kernel_rfl) (fun _ _ _ h => h) hS ?_
    refine a_one 8 rfl (by kernel_rfl) (o_call fo69 rfl rfl rfl (ih _ (List.getElem_mem hik) n e he hze _ _ _ _ hyx hs hlow (by omega)) ?_)
    rintro vc w17 ⟨hc, ew17⟩
    replace hS := hS.then ew17
    replace ho := ho.ext hlow hB ew17
    replace h4 := h4.ext hlow hB ew17
    replace h7 := h7.ext hlow hB ew17
    replace hE := hE.trans (Below.mono ew17 hB)
    replace h2 := h2.ext ew17
    replace hk := hk.ext ew17
    replace hs := hs.ext ew17
    replace hyx := Rep.ext hyx ew17
    replace hkx := hkx.ext ew17
    replace hatx := hatx.ext ew17
    replace hlow := hlow.ext ew17
    replace hB := Nat.le_trans hB ew17.size
    refine ⟨hS, ?_⟩
    refine a_one 9 rfl (by kernel_rfl) (o_bs tbOk rfl rfl rfl rfl rfl rfl rfl (sz1 (Rep.size hc)) rfl rfl rfl ?_)
    intro bw18 w18 qbw18 ew18 hbw18
    have nbw18 := nM_of hlow qbw18
    replace hS := hS.then ew18
    replace ho := ho.ext hlow hB ew18
    replace h4 := h4.ext hlow hB ew18
    replace h7 := h7.ext hlow hB ew18
    replace hE := hE.trans (Below.mono ew18 hB)
    replace h2 := h2.ext ew18
    replace hk := hk.ext ew18
    replace hs := hs.ext ew18
    replace hyx := Rep.ext hyx ew18
    replace hkx := hkx.ext ew18
    replace hatx := hatx.ext ew18
    replace hc := Rep.ext hc ew18
    replace hlow := hlow.ext ew18
    replace hB := Nat.le_trans hB ew18.size
    refine ⟨hS, ?_⟩
    refine a_barS Ext 10 rfl (by kernel_rfl) (by kernel_rfl) (o_app1 tbOk ho hbw18 nbw18 hc hlow hB rfl rfl rfl rfl rfl rfl rfl (by simp; omega) (by show (_ + _) * 56 ≤ _; simp; omega) rfl rfl ?_)
    intro vw19 w19 Mw19 hw19 sw19 frw19 blw19
    have zd_ho_h4 := d_ho_h4
    replace d_ho_h4 : ∀ x, (vw19 : Value).ownBlock = some x → x ≠ b4 := fun x hx => (blw19 x hx).elim (d_ho_h4 x) (fun h e => by have := h4.lt; omega)
    have zd_ho_h7 := d_ho_h7
    replace d_ho_h7 : ∀ x, (vw19 : Value).ownBlock = some x → x ≠ b7 := fun x hx => (blw19 x hx).elim (d_ho_h7 x) (fun h e => by have := h7.lt; omega)
    replace h4 := h4.stp sw19 (frw19 b4 h4.lt (fun e => zd_ho_h4 _ e.symm rfl))
    replace h7 := h7.stp sw19 (frw19 b7 h7.lt (fun e => zd_ho_h7 _ e.symm rfl))
    replace hE := hE.trans sw19.below
    replace h2 := h2.stp sw19
    replace hk := hk.stp sw19
    replace hs := hs.stp sw19
    replace hyx := Rep.stp hyx sw19
    replace hkx := hkx.stp sw19
    replace hatx := hatx.stp sw19
    replace hc := Rep.stp hc sw19
    replace hsub := fun b h => sw19.sub b (hsub b h)
    replace hlow := sw19.low
    replace hB := Nat.le_trans hB sw19.upd.1
    replace hS : Ext w19 w19 := ext_refl _
    replace ho := hw19
    clear hw19
    have D_h4 := h4.box
    have D_h7 := h7.box
    have D_h2 := h2
    have D_hk := hk
    have D_hs := hs
    have D_hkx := hkx
    have D_hatx := hatx
    refine a_p 11 tbOk rfl rfl rfl rfl (by kernel_rfl) (fun _ _ _ h => h) hS ?_
    obtain ⟨av6, cv6, rfl, _⟩ := ho.val
    refine a_barS Ext 12 rfl (by kernel_rfl) (by kernel_rfl) (o_st tbOk h7.box rfl rfl rfl rfl (by simp [Value.cells, Value.oneCell']) rfl rfl ?_)
    intro w20 hw20 qw20 bew20
    have uw20 : UpdB _ _ _ := ⟨qw20, bew20⟩
    have sw20 := uw20.stp h7.inM hlow h7.ge
    have frw20 := qw20.2
    replace ho := ho.stp sw20 (fun x hx => frw20 x (ho.lt x hx).2 (d_ho_h7 x hx))
    replace h4 := h4.stp sw20 (frw20 b4 h4.lt ne_h4_h7)
    replace hE := hE.trans sw20.below
    replace h2 := h2.stp sw20
    replace hk := hk.stp sw20
    replace hs := hs.stp sw20
    replace hyx := Rep.stp hyx sw20
    replace hkx := hkx.stp sw20
    replace hatx := hatx.stp sw20
    replace hc := Rep.stp hc sw20
    replace hsub := fun b h => sw20.sub b (hsub b h)
    replace hlow := sw20.low
    replace hB := Nat.le_trans hB sw20.upd.1
    replace hS : Ext w20 w20 := ext_refl _
    replace h7 : MB w.heap.size _ w20 b7 _ [.int .u8 t.op, .string t.name, .int .i64 t.n, (.slice av6 ((t.kids.take i).map (putF n e) ++ [putF n e t.kids[i]]).length cv6)] := ⟨hw20, h7.inM, h7.ge⟩
    have D_h4 := h4.box
    have D_h7 := h7.box
    have D_h2 := h2
    have D_hk := hk
    have D_hs := hs
    have D_hkx := hkx
    have D_hatx := hatx
    refine a_end (by kernel_rfl) ?_
    refine x_blk ?_
    refine x_seq ?_
    refine c_reg ?_
    refine l_cons (o_p tbOk rfl rfl rfl ?_)
    refine l_cons (o_ar rfl rfl rfl (IntWalk.i64_in _ (by omega)) rfl rfl ?_)
    refine l_cons (o_p tbOk rfl rfl rfl ?_)
    refine l_nil ?_
    exact x_round3 (i + 1) ((.slice av6 ((t.kids.take i).map (putF n e) ++ [putF n e t.kids[i]]).length cv6)) (Mw19) (subL_cons rfl (subL_cons rfl (subL_cons rfl (subL_cons rfl (subL_cons (get_num rfl (by omega)) (subL_nil)))))) ⟨by omega, by rw [List.take_succ_eq_append_getElem hik, List.map_append]; exact ho, h4, h7, h2, d_ho_h4, d_ho_h7, hk, hs, hlow, hsub, hE, hB⟩ (by omega)
  refine c_exit ?_
  refine x_seqE ?_
  refine x_seqE ?_
  refine x_blkE ?_
  refine x_seq ?_
  refine c_seq ?_
  refine c_reg ?_
  refine l_cons (o_lds tbOk (fun j v hv => h7.cell j v hv) rfl rfl rfl rfl rfl rfl ?_)
  obtain rfl : i = t.kids.length := by omega
  rw [List.take_of_length_le (Nat.le_refl _)] at ho
  obtain ⟨av, cv, rfl, hcv⟩ := ho.val
  have hml : (t.kids.map (putF n e)).length = t.kids.length := List.length_map _
  refine l_cons (o_st tbOk h4.box rfl rfl rfl rfl (by intro u hu; simp [Value.cells] at hu; rcases hu with rfl | rfl | rfl | rfl <;> rfl) rfl rfl ?_)
  intro w21 hw21 qw21 bew21
  have uw21 : UpdB _ _ _ := ⟨qw21, bew21⟩
  have sw21 := uw21.stp h4.inM hlow h4.ge
  have frw21 := qw21.2
  replace ho := ho.stp sw21 (fun x hx => frw21 x (ho.lt x hx).2 (d_ho_h4 x hx))
  replace h7 := h7.stp sw21 (frw21 b7 h7.lt ne_h4_h7.symm)
  replace hE := hE.trans sw21.below
  replace h2 := h2.stp sw21
  replace hk := hk.stp sw21
  replace hs := hs.stp sw21
  replace hsub := fun b h => sw21.sub b (hsub b h)
  replace hlow := sw21.low
  replace hB := Nat.le_trans hB sw21.upd.1
  replace h4 : MB w.heap.size _ w21 b4 _ [.int .u8 t.op, .string t.name, .int .i64 t.n, .slice av (t.kids.map (putF n e)).length cv] := ⟨hw21, h4.inM, h4.ge⟩
  refine l_nil ?_
  refine x_seq ?_
  refine c_ret ?_
  refine x_ret1s tbOk (fun j v hv => h4.cell j v hv) rfl rfl rfl rfl rfl ?_
  have hfin := ty_mk op nm n64 (ho.sl (by omega) hlow0 hsub)
  rw [← put_other hop] at hfin
  exact ⟨hfin, hE⟩

/-- Apply. -/
theorem apply_spec (t e : Ty) (n : Int) (M : Nat → Prop) (w : World) (v u : Value) (hr : rowB t = true) (he : rowB e = true) (ht : Rep.R M w v t) (hs : Sl M w u ([⟨n, e⟩] : List Bnd)) (hlow0 : Low M w) (hz : psz t ≤ 2000000) (hze : psz e ≤ 2000000) (hzz : psz t * psz e ≤ 2000000) :
    Calls Try.prog 26 #[v, u] w (Ret fun r w' => Rep.R M w' r (canonF (putF n e t)) ∧ Ext w w') := by
  have hlow := hlow0
  have hB : w.heap.size ≤ w.heap.size := Nat.le_refl _
  have hE : Below w.heap.size w w := Below.refl _ _
  have hsub : ∀ b, M b → M b := fun _ h => h
  obtain ⟨kv, rfl, op, nm, n64, hk⟩ := ty_open ht
  refine c_enter (n := 9) Try.func26 rfl rfl rfl ?_
  refine c_seq ?_
  refine c_reg ?_
  refine l_cons (o_box rfl rfl rfl ?_)
  intro b2 w1 hb_b2 ew1 h2
  replace h2 : Box _ b2 40 [.int .u8 t.op, .string t.name, .int .i64 t.n, kv] := h2
  replace h2 := h2.at (nM_of hlow hb_b2)
  replace hE := hE.trans (Below.mono ew1 hB)
  replace hs := hs.ext ew1
  replace ht := Rep.ext ht ew1
  replace hk := hk.ext ew1
  replace hlow := hlow.ext ew1
  replace hB := Nat.le_trans hB ew1.size
  refine l_cons (o_new tbOk rfl rfl rfl ?_)
  intro b4 w2 qb4 ew2 hb4
  have sw2 := Stp.add ew2 hlow hB (Nat.le_of_eq qb4.symm) hb4.lt
  have h4 : MB w.heap.size (Rw.Add M b4) w2 b4 40 [.int .u8 0, .string ⟨#[]⟩, .int .i64 0, .slice none 0 0] := MB.mk' hb4 qb4 hB
  replace hE := hE.trans sw2.below
  replace hs := hs.stp sw2
  replace ht := Rep.stp ht sw2
  replace hk := hk.stp sw2
  replace h2 := h2.stp sw2
  replace hsub := fun b h => sw2.sub b (hsub b h)
  replace hlow := sw2.low
  replace hB := Nat.le_trans hB sw2.upd.1
  refine l_nil ?_
  refine x_seq ?_
  refine c_seq ?_
  refine c_reg ?_
  refine l_cons (o_lds tbOk (fun j v hv => h2.cell j v hv) rfl rfl rfl rfl rfl rfl ?_)
  refine l_cons (o_p tbOk rfl rfl rfl ?_)
  refine l_cons (o_call fo69 rfl rfl rfl (putR_spec t n e he hze _ _ _ _ ht hs hlow hz) ?_)
  rintro vp w3 ⟨hp, ew3⟩
  replace h4 := h4.ext hlow hB ew3
  replace hE := hE.trans (Below.mono ew3 hB)
  replace hs := hs.ext ew3
  replace ht := Rep.ext ht ew3
  replace hk := hk.ext ew3
  replace h2 := h2.ext ew3
  replace hlow := hlow.ext ew3
  replace hB := Nat.le_trans hB ew3.size
  refine l_cons (o_call fo68 rfl rfl rfl (refCanon_all _ (putF n e t) 114 _ _ _ (Nat.le_refl _) (shape_put (rowB_of he).1 t 114 (rowB_of hr).1) hp hlow (Nat.le_trans (psz_put t) hzz)) ?_)
  rintro vc w4 ⟨hc, ew4⟩
  replace h4 := h4.ext hlow hB ew4
  replace hE := hE.trans (Below.mono ew4 hB)
  replace hs := hs.ext ew4
  replace ht := Rep.ext ht ew4
  replace hk := hk.ext ew4
  replace h2 := h2.ext ew4
  replace hp := Rep.ext hp ew4
  replace hlow := hlow.ext ew4
  replace hB := Nat.le_trans hB ew4.size
  obtain ⟨kvc, rfl, opc, nmc, n64c, hkc⟩ := ty_open hc
  refine l_cons (o_st tbOk h4.box rfl rfl rfl rfl (Rep.one hc) rfl rfl ?_)
  intro w5 hw5 qw5 bew5
  have uw5 : UpdB _ _ _ := ⟨qw5, bew5⟩
  have sw5 := uw5.stp h4.inM hlow h4.ge
  have frw5 := qw5.2
  replace hE := hE.trans sw5.below
  replace hs := hs.stp sw5
  replace ht := Rep.stp ht sw5
  replace hk := hk.stp sw5
  replace h2 := h2.stp sw5
  replace hp := Rep.stp hp sw5
  replace hc := Rep.stp hc sw5
  replace hsub := fun b h => sw5.sub b (hsub b h)
  replace hlow := sw5.low
  replace hB := Nat.le_trans hB sw5.upd.1
  replace h4 : MB w.heap.size _ w5 b4 _ [.int .u8 (canonF (putF n e t)).op, .string (canonF (putF n e t)).name, .int .i64 (canonF (putF n e t)).n, kvc] := ⟨hw5, h4.inM, h4.ge⟩
  refine l_nil ?_
  refine x_seq ?_
  refine c_ret ?_
  refine x_ret1s tbOk (fun j v hv => h4.cell j v hv) rfl rfl rfl rfl rfl ?_
  exact ⟨Rep.wk hc (fun b _ h => hsub b h), hE⟩

end Go.Proofs.Ytohfnpmehgpphaa
