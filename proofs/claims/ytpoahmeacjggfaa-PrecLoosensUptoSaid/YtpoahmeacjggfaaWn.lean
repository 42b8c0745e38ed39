/- Walks: variables of types. Printed by wip/walks/kinds17.py. -/
import Derived.Test.YtpoahmeacjggfaaWk
import Derived.Test.YtpoahmeacjggfaaPlainE
namespace Go.Proofs.Ytpoahmeacjggfaa
open Go Rw Go.RowKit
set_option maxRecDepth 100000

/-- each: a function is called with each part, from the outside to the inside. -/
theorem each_spec (g : Nat) (caps : List Value) (B N : Nat) (I : (Nat → Prop) → List Ty → World → Prop) (hg : FnOk Try.prog g) (hx : ∀ M acc w w', I M acc w → Ext w w' → I M acc w') (hI : ∀ M acc w, I M acc w → Low M w ∧ B ≤ w.heap.size)
    (hdo : ∀ (M : Nat → Prop) acc w u x, acc.length < N → I M acc w → Rep.R M w u x → Calls Try.prog g ([u] ++ caps).toArray w (Ret fun r w' => r = .tuple #[] ∧ ∃ M', I M' (acc ++ [x]) w' ∧ Stp B M M' w w')) :
    ∀ (t : Ty) (M : Nat → Prop) (acc : List Ty) (w : World) (v : Value), acc.length + psz t ≤ N → I M acc w → Rep.R M w v t → Calls Try.prog 80 #[v, .func (.func g) #[] caps.toArray] w (Ret fun r w' => r = .tuple #[] ∧ ∃ M', I M' (acc ++ partsL t) w' ∧ Stp B M M' w w') := by
  refine Ty.ind fun t ih => ?_
  intro M acc w v hN hI0 ht
  obtain ⟨hlow, hB⟩ := hI _ _ _ hI0
  have hT : Stp B M M w w := Stp.refl hlow
  have hps := psz_eq t
  have hkl := len_psz t.kids
  obtain ⟨kv, rfl, op, nm, n64, hk⟩ := ty_open ht
  have hlt := hk.lt
  refine c_enter (n := 20) Try.func80 rfl rfl rfl ?_
  refine q0 ?_
  refine l_cons (o_box rfl rfl rfl ?_)
  intro b2 w1 hb_b2 ew1 h2
  replace h2 : Box _ b2 25 [.int .u8 t.op, .string t.name, .int .i64 t.n, kv] := h2
  replace h2 := h2.at (nM_of hlow hb_b2)
  replace hI0 := hx _ _ _ _ hI0 ew1
  replace hT := hT.then (Stp.ext ew1 hlow hB)
  replace ht := Rep.ext ht ew1
  replace hk := hk.ext ew1
  replace hlow := hlow.ext ew1
  replace hB := Nat.le_trans hB ew1.size
  refine q1 (q0 (l_p 1 tbOk rfl ?_))
  refine l_cons (o_lds tbOk (fun j v hv => h2.cell j v hv) rfl rfl rfl rfl rfl rfl ?_)
  refine l_cons (o_dyn rfl hg rfl rfl rfl (hdo _ _ _ _ _ (by omega) hI0 ht) ?_)
  rintro _ w2 ⟨rfl, Mw2, hI0w2, sw2⟩
  replace hT := hT.then sw2
  replace ht := Rep.stp ht sw2
  replace hk := hk.stp sw2
  replace h2 := h2.stp sw2
  replace hlow := sw2.low
  replace hB := Nat.le_trans hB sw2.upd.1
  replace hI0 := hI0w2
  refine q1 (q0 (l_p 1 tbOk rfl ?_))
  refine l_cons (o_ld tbOk (h2.cell 3 _ rfl) rfl rfl rfl rfl rfl ?_)
  refine l_cons (o_len tbOk hk rfl rfl rfl rfl rfl ?_)
  refine l_p 1 tbOk rfl (q1 (c_blk ?_))
  refine c_loop2 (X := Nat) (Y := Nat → Prop) (fun i M1 => [(1, .func (.func g) #[] caps.toArray), (10, kv), (11, .int .i64 (t.kids.length : Int)), (12, .int .i64 (i : Nat))]) (fun i M1 w' => i ≤ t.kids.length ∧ I M1 (acc ++ t :: (t.kids.take i).flatMap partsL) w' ∧ Sl M1 w' kv t.kids ∧ Stp B M M1 w w' ∧ Low M1 w' ∧ B ≤ w'.heap.size) (fun i M1 => t.kids.length - i) (0) (Mw2) (s4 rfl rfl rfl rfl) ?_ ?_
  · exact ⟨Nat.zero_le _, hI0, hk, hT, hlow, hB⟩
  clear hk hI0 ht
  rintro i M1 w3 ⟨hi, hI0, hk, hT, hlow, hB⟩
  refine q0 (l_p 1 tbOk rfl (q1 (c_seq ?_)))
  refine c_ifP _ rfl (fun c1 => ?_) (fun c1 => ?_)
  · refine c_skip (x_seq (c_seq (c_blk (q0 ?_))))
    have hik : i < t.kids.length := by omega
    have e3 := take_psz t.kids (i + 1)
    rw [show pszs (t.kids.take (i + 1)) = pszs (t.kids.take i) + psz t.kids[i] by unfold pszs; rw [take_step hik, List.length_append]; rfl] at e3
    refine l_cons (o_ixS tbOk hk (List.getElem?_eq_getElem hik) rfl rfl rfl rfl rfl rfl rfl rfl rfl ?_)
    intro ebx eox eux hyx hatx
    obtain ⟨kvx, rfl, opx, nmx, n64x, hkx⟩ := ty_open hyx
    replace hatx : At M1 w3 ebx eox [.int .u8 t.kids[i].op, .string t.kids[i].name, .int .i64 t.kids[i].n, kvx] := hatx
    refine l_cons (o_lds tbOk (fun j v hv => hatx.cell j v hv) rfl rfl rfl rfl rfl rfl ?_)
    refine l_cons (o_new tbOk rfl rfl rfl ?_)
    intro b5 w4 qb5 ew4 hb5
    have nb5 := nM_of hlow qb5
    refine l_cons (o_st tbOk hb5 rfl rfl rfl rfl (Rep.one hyx) rfl rfl ?_)
    intro w5 h5 uw5 bew5
    have ew5 : Ext w3 w5 := ew4.trans (bew5 _ (Nat.le_of_eq qb5.symm))
    replace hI0 := hx _ _ _ _ hI0 ew5
    replace hT := hT.then (Stp.ext ew5 hlow hB)
    replace hk := hk.ext ew5
    replace hyx := Rep.ext hyx ew5
    replace hkx := hkx.ext ew5
    replace hatx := hatx.ext ew5
    replace hlow := hlow.ext ew5
    replace hB := Nat.le_trans hB ew5.size
    replace h5 : Box w5 b5 25 [.int .u8 t.kids[i].op, .string t.kids[i].name, .int .i64 t.kids[i].n, kvx] := h5
    replace h5 := h5.at nb5
    refine q1 (c_reg ?_)
    refine l_cons (o_lds tbOk (fun j v hv => h5.cell j v hv) rfl rfl rfl rfl rfl rfl ?_)
    refine l_p 1 tbOk rfl ?_
    have hal : (acc ++ t :: (t.kids.take i).flatMap partsL).length = acc.length + 1 + pszs (t.kids.take i) := by simp [pszs]; omega
    refine l_cons (o_call fo80 rfl rfl rfl (ih _ (List.getElem_mem hik) _ _ _ _ (by omega) hI0 hyx) ?_)
    rintro _ w6 ⟨rfl, Mw6, hI0w6, sw6⟩
    replace hT := hT.then sw6
    replace hk := hk.stp sw6
    replace hyx := Rep.stp hyx sw6
    replace hkx := hkx.stp sw6
    replace hatx := hatx.stp sw6
    replace h5 := h5.stp sw6
    replace hlow := sw6.low
    replace hB := Nat.le_trans hB sw6.upd.1
    replace hI0 := hI0w6
    refine q2 (x_seq (c_reg ?_))
    refine l_cons (o_ar rfl rfl rfl (IntWalk.i64_in _ (by omega)) rfl rfl ?_)
    refine l_p 1 tbOk rfl (l_nil ?_)
    exact x_round2 (i + 1) (Mw6) (s4 rfl rfl rfl (get_num rfl (by omega))) ⟨by omega, by rw [take_step hik]; simpa using hI0, hk, hT, hlow, hB⟩ (by omega)
  refine c_exit (x_seqE (x_seqE (x_blkE ?_)))
  refine x_ret0n rfl ?_
  obtain rfl : i = t.kids.length := by omega
  rw [List.take_of_length_le (Nat.le_refl _), ← partsL_eq] at hI0
  exact ⟨rfl, _, hI0, hT⟩

/-- Between two parts: the variables so far. -/
def VI (B b1 b2 bm : Nat) (M : Nat → Prop) (acc : List Ty) (w : World) : Prop := ∃ v m, MB B M w b1 68 [.map (some bm)] ∧ MB B M w b2 46 [v] ∧ OM (κ := Int) (fun x : Bool => Value.bool x) B M w bm m ∧ OwnSl 3 B M w v (varsTo [] acc) ∧ (∀ n, (getK m n).getD false = decide (n ∈ varsTo [] acc)) ∧
  b1 ≠ b2 ∧ b1 ≠ bm ∧ b2 ≠ bm ∧ (∀ x, (v : Value).ownBlock = some x → x ≠ b1) ∧ (∀ x, (v : Value).ownBlock = some x → x ≠ b2) ∧ (∀ x, (v : Value).ownBlock = some x → x ≠ bm) ∧ Low M w ∧ B ≤ w.heap.size
theorem VI.ext {B b1 b2 bm : Nat} {M : Nat → Prop} {acc : List Ty} {w w' : World} (h : VI B b1 b2 bm M acc w) (e : Ext w w') : VI B b1 b2 bm M acc w' := by
  obtain ⟨v, m, h1, h2, hm, ho, hg, r1, r2, r3, r4, r5, r6, hlow, hB⟩ := h
  exact ⟨v, m, h1.ext hlow hB e, h2.ext hlow hB e, hm.ext hlow hB e, ho.ext hlow hB e, hg, r1, r2, r3, r4, r5, r6, hlow.ext e, Nat.le_trans hB e.size⟩
/-- What is done with each part. -/
theorem varsDo_spec (B b1 b2 bm : Nat) (M : Nat → Prop) (acc : List Ty) (w : World) (v : Value) (t : Ty) (hN : acc.length < 2000000) (hI : VI B b1 b2 bm M acc w) (ht : Rep.R M w v t) :
    Calls Try.prog 81 #[v, .pointer (some ⟨b1, 0, none⟩), .pointer (some ⟨b2, 0, none⟩)] w (Ret fun r w' => r = .tuple #[] ∧ ∃ M', VI B b1 b2 bm M' (acc ++ [t]) w' ∧ Stp B M M' w w') := by
  obtain ⟨lv, m, h1, h2, hm, ho, hg, ne_h1_h2, ne_h1_hm, ne_h2_hm, d_ho_h1, d_ho_h2, d_ho_hm, hlow, hB⟩ := hI
  have hT : Stp B M M w w := Stp.refl hlow
  have hvl := varsTo_len [] acc
  simp only [List.length_nil, Nat.zero_add] at hvl
  obtain ⟨kv, rfl, op, nm, n64, hk⟩ := ty_open ht
  refine c_enter (n := 27) Try.func81 rfl rfl rfl ?_
  refine q0 ?_
  refine l_cons (o_box rfl rfl rfl ?_)
  intro b3 w1 hb_b3 ew1 h3
  replace h3 : Box _ b3 25 [.int .u8 t.op, .string t.name, .int .i64 t.n, kv] := h3
  replace h3 := h3.at (nM_of hlow hb_b3)
  replace hT := hT.then (Stp.ext ew1 hlow hB)
  replace h1 := h1.ext hlow hB ew1
  replace h2 := h2.ext hlow hB ew1
  replace hm := hm.ext hlow hB ew1
  replace ho := ho.ext hlow hB ew1
  replace ht := Rep.ext ht ew1
  replace hk := hk.ext ew1
  replace hlow := hlow.ext ew1
  replace hB := Nat.le_trans hB ew1.size
  refine q1 (q0 (l_p 1 tbOk rfl ?_))
  refine l_cons (o_ld tbOk (h3.cell 0 _ rfl) rfl rfl rfl rfl rfl ?_)
  refine l_p 2 tbOk rfl ?_
  refine l_splitP 7 _ rfl (fun c1 => ?_) (fun c1 => ?_)
  · refine l_p 5 tbOk rfl ?_
    refine l_cons (o_ld tbOk (h1.cell 0 _ rfl) rfl rfl rfl rfl rfl ?_)
    refine l_p 1 tbOk rfl ?_
    refine l_cons (o_ld tbOk (h3.cell 2 _ rfl) rfl rfl rfl rfl rfl ?_)
    refine l_cons (o_look (z := false) tbOk hm.map (k := t.n) rfl rfl rfl rfl ⟨_, Try.underlying3, rfl⟩ rfl rfl rfl rfl ?_)
    refine l_p 2 tbOk rfl (q1 ?_)
    refine c_ifB _ rfl (fun c2 => ?_) (fun c2 => ?_)
    · refine q0 ?_
      refine l_cons (o_ld tbOk (h1.cell 0 _ rfl) rfl rfl rfl rfl rfl ?_)
      refine l_p 1 tbOk rfl ?_
      refine l_cons (o_ld tbOk (h3.cell 2 _ rfl) rfl rfl rfl rfl rfl ?_)
      refine l_cons (o_mupd tbOk hm.map (k := t.n) (v := true) rfl rfl rfl rfl rfl ⟨_, Try.underlying3, rfl⟩ rfl ?_)
      intro w2 hw2 qw2 bew2
      have uw2 : UpdB _ _ _ := ⟨qw2, bew2⟩
      have sw2 := uw2.stp hm.inM hlow hm.ge
      have frw2 := qw2.2
      replace hT := hT.then sw2
      replace h1 := h1.stp sw2 (frw2 b1 h1.lt ne_h1_hm)
      replace h2 := h2.stp sw2 (frw2 b2 h2.lt ne_h2_hm)
      replace ho := ho.stp sw2 (fun x hx => frw2 x (ho.lt x hx).2 (d_ho_hm x hx))
      replace ht := Rep.stp ht sw2
      replace hk := hk.stp sw2
      replace h3 := h3.stp sw2
      replace hlow := sw2.low
      replace hB := Nat.le_trans hB sw2.upd.1
      replace hm : OM _ _ _ w2 _ (putK m t.n true) := ⟨hw2, hm.inM, hm.ge⟩
      refine q1 (c_reg ?_)
      refine l_cons (o_ld tbOk (h2.cell 0 _ rfl) rfl rfl rfl rfl rfl ?_)
      refine l_p 1 tbOk rfl ?_
      refine l_cons (o_ld tbOk (h3.cell 2 _ rfl) rfl rfl rfl rfl rfl ?_)
      refine l_cons (o_bs tbOk rfl rfl rfl rfl rfl rfl rfl (sz1 rfl) rfl rfl rfl ?_)
      intro bw3 w3 qbw3 ew3 hbw3
      have nbw3 := nM_of hlow qbw3
      replace hT := hT.then (Stp.ext ew3 hlow hB)
      replace h1 := h1.ext hlow hB ew3
      replace h2 := h2.ext hlow hB ew3
      replace hm := hm.ext hlow hB ew3
      replace ho := ho.ext hlow hB ew3
      replace ht := Rep.ext ht ew3
      replace hk := hk.ext ew3
      replace h3 := h3.ext ew3
      replace hlow := hlow.ext ew3
      replace hB := Nat.le_trans hB ew3.size
      refine l_cons (o_app1 tbOk ho hbw3 nbw3 ⟨rfl, n64⟩ hlow hB rfl rfl rfl rfl rfl rfl rfl (by omega) (by show (_ + _) * 8 ≤ _; omega) rfl rfl ?_)
      intro vw4 w4 Mw4 hw4 sw4 frw4 blw4
      have zd_ho_h1 := d_ho_h1
      replace d_ho_h1 : ∀ x, (vw4 : Value).ownBlock = some x → x ≠ b1 := fun x hx => (blw4 x hx).elim (d_ho_h1 x) (fun h e => by have := h1.lt; omega)
      have zd_ho_h2 := d_ho_h2
      replace d_ho_h2 : ∀ x, (vw4 : Value).ownBlock = some x → x ≠ b2 := fun x hx => (blw4 x hx).elim (d_ho_h2 x) (fun h e => by have := h2.lt; omega)
      have zd_ho_hm := d_ho_hm
      replace d_ho_hm : ∀ x, (vw4 : Value).ownBlock = some x → x ≠ bm := fun x hx => (blw4 x hx).elim (d_ho_hm x) (fun h e => by have := hm.lt; omega)
      replace hT := hT.then sw4
      replace h1 := h1.stp sw4 (frw4 b1 h1.lt (fun e => zd_ho_h1 _ e.symm rfl))
      replace h2 := h2.stp sw4 (frw4 b2 h2.lt (fun e => zd_ho_h2 _ e.symm rfl))
      replace hm := hm.stp sw4 (frw4 bm hm.lt (fun e => zd_ho_hm _ e.symm rfl))
      replace ht := Rep.stp ht sw4
      replace hk := hk.stp sw4
      replace h3 := h3.stp sw4
      replace hlow := sw4.low
      replace hB := Nat.le_trans hB sw4.upd.1
      replace ho := hw4
      clear hw4
      obtain ⟨av6, cv6, rfl, _⟩ := ho.val
      refine l_cons (o_st tbOk h2.box rfl rfl rfl rfl (by simp [Value.cells, Value.oneCell']) rfl rfl ?_)
      intro w5 hw5 qw5 bew5
      have uw5 : UpdB _ _ _ := ⟨qw5, bew5⟩
      have sw5 := uw5.stp h2.inM hlow h2.ge
      have frw5 := qw5.2
      replace hT := hT.then sw5
      replace h1 := h1.stp sw5 (frw5 b1 h1.lt ne_h1_h2)
      replace hm := hm.stp sw5 (frw5 bm hm.lt ne_h2_hm.symm)
      replace ho := ho.stp sw5 (fun x hx => frw5 x (ho.lt x hx).2 (d_ho_h2 x hx))
      replace ht := Rep.stp ht sw5
      replace hk := hk.stp sw5
      replace h3 := h3.stp sw5
      replace hlow := sw5.low
      replace hB := Nat.le_trans hB sw5.upd.1
      replace h2 : MB B _ w5 b2 _ [(.slice av6 (varsTo [] acc ++ [t.n]).length cv6)] := ⟨hw5, h2.inM, h2.ge⟩
      refine l_nil ?_
      refine x_ret0n rfl ?_
      have hnm : numB t.op = true := by simp [numB, *]
      have hni : t.n ∉ varsTo [] acc := by
        intro h
        have h2 := hg t.n
        rw [decide_eq_true h] at h2
        simp_all
      refine ⟨rfl, _, ⟨_, _, h1, h2, hm, by rw [varsTo_yes hnm hni]; exact ho, fun n => ?_, ne_h1_h2, ne_h1_hm, ne_h2_hm, d_ho_h1, d_ho_h2, d_ho_hm, hlow, hB⟩, hT⟩
      rw [getK_put, varsTo_yes hnm hni]
      by_cases e : n = t.n
      · subst e; simp
      · rw [if_neg e, hg n]; simp [e]
    refine c_skip ?_
    refine x_ret0n rfl ?_
    have hvs : varsTo [] (acc ++ [t]) = varsTo [] acc := by
      cases hnm : numB t.op with
      | false => exact varsTo_no hnm
      | true =>
        refine varsTo_old ?_
        have h2 := hg t.n
        unfold numB at hnm
        simp_all
    refine ⟨rfl, _, ⟨_, _, h1, h2, hm, by rw [hvs]; exact ho, fun n => by rw [hvs]; exact hg n, ne_h1_h2, ne_h1_hm, ne_h2_hm, d_ho_h1, d_ho_h2, d_ho_hm, hlow, hB⟩, hT⟩
  refine l_p 1 tbOk rfl ?_
  refine l_cons (o_ld tbOk (h3.cell 0 _ rfl) rfl rfl rfl rfl rfl ?_)
  refine l_p 3 tbOk rfl ?_
  refine l_splitP 12 _ rfl (fun c3 => ?_) (fun c3 => ?_)
  · refine l_cons (o_ld tbOk (h1.cell 0 _ rfl) rfl rfl rfl rfl rfl ?_)
    refine l_p 1 tbOk rfl ?_
    refine l_cons (o_ld tbOk (h3.cell 2 _ rfl) rfl rfl rfl rfl rfl ?_)
    refine l_cons (o_look (z := false) tbOk hm.map (k := t.n) rfl rfl rfl rfl ⟨_, Try.underlying3, rfl⟩ rfl rfl rfl rfl ?_)
    refine l_p 2 tbOk rfl (q1 ?_)
    refine c_ifB _ rfl (fun c4 => ?_) (fun c4 => ?_)
    · refine q0 ?_
      refine l_cons (o_ld tbOk (h1.cell 0 _ rfl) rfl rfl rfl rfl rfl ?_)
      refine l_p 1 tbOk rfl ?_
      refine l_cons (o_ld tbOk (h3.cell 2 _ rfl) rfl rfl rfl rfl rfl ?_)
      refine l_cons (o_mupd tbOk hm.map (k := t.n) (v := true) rfl rfl rfl rfl rfl ⟨_, Try.underlying3, rfl⟩ rfl ?_)
      intro w6 hw6 qw6 bew6
      have uw6 : UpdB _ _ _ := ⟨qw6, bew6⟩
      have sw6 := uw6.stp hm.inM hlow hm.ge
      have frw6 := qw6.2
      replace hT := hT.then sw6
      replace h1 := h1.stp sw6 (frw6 b1 h1.lt ne_h1_hm)
      replace h2 := h2.stp sw6 (frw6 b2 h2.lt ne_h2_hm)
      replace ho := ho.stp sw6 (fun x hx => frw6 x (ho.lt x hx).2 (d_ho_hm x hx))
      replace ht := Rep.stp ht sw6
      replace hk := hk.stp sw6
      replace h3 := h3.stp sw6
      replace hlow := sw6.low
      replace hB := Nat.le_trans hB sw6.upd.1
      replace hm : OM _ _ _ w6 _ (putK m t.n true) := ⟨hw6, hm.inM, hm.ge⟩
      refine q1 (c_reg ?_)
      refine l_cons (o_ld tbOk (h2.cell 0 _ rfl) rfl rfl rfl rfl rfl ?_)
      refine l_p 1 tbOk rfl ?_
      refine l_cons (o_ld tbOk (h3.cell 2 _ rfl) rfl rfl rfl rfl rfl ?_)
      refine l_cons (o_bs tbOk rfl rfl rfl rfl rfl rfl rfl (sz1 rfl) rfl rfl rfl ?_)
      intro bw7 w7 qbw7 ew7 hbw7
      have nbw7 := nM_of hlow qbw7
      replace hT := hT.then (Stp.ext ew7 hlow hB)
      replace h1 := h1.ext hlow hB ew7
      replace h2 := h2.ext hlow hB ew7
      replace hm := hm.ext hlow hB ew7
      replace ho := ho.ext hlow hB ew7
      replace ht := Rep.ext ht ew7
      replace hk := hk.ext ew7
      replace h3 := h3.ext ew7
      replace hlow := hlow.ext ew7
      replace hB := Nat.le_trans hB ew7.size
      refine l_cons (o_app1 tbOk ho hbw7 nbw7 ⟨rfl, n64⟩ hlow hB rfl rfl rfl rfl rfl rfl rfl (by omega) (by show (_ + _) * 8 ≤ _; omega) rfl rfl ?_)
      intro vw8 w8 Mw8 hw8 sw8 frw8 blw8
      have zd_ho_h1 := d_ho_h1
      replace d_ho_h1 : ∀ x, (vw8 : Value).ownBlock = some x → x ≠ b1 := fun x hx => (blw8 x hx).elim (d_ho_h1 x) (fun h e => by have := h1.lt; omega)
      have zd_ho_h2 := d_ho_h2
      replace d_ho_h2 : ∀ x, (vw8 : Value).ownBlock = some x → x ≠ b2 := fun x hx => (blw8 x hx).elim (d_ho_h2 x) (fun h e => by have := h2.lt; omega)
      have zd_ho_hm := d_ho_hm
      replace d_ho_hm : ∀ x, (vw8 : Value).ownBlock = some x → x ≠ bm := fun x hx => (blw8 x hx).elim (d_ho_hm x) (fun h e => by have := hm.lt; omega)
      replace hT := hT.then sw8
      replace h1 := h1.stp sw8 (frw8 b1 h1.lt (fun e => zd_ho_h1 _ e.symm rfl))
      replace h2 := h2.stp sw8 (frw8 b2 h2.lt (fun e => zd_ho_h2 _ e.symm rfl))
      replace hm := hm.stp sw8 (frw8 bm hm.lt (fun e => zd_ho_hm _ e.symm rfl))
      replace ht := Rep.stp ht sw8
      replace hk := hk.stp sw8
      replace h3 := h3.stp sw8
      replace hlow := sw8.low
      replace hB := Nat.le_trans hB sw8.upd.1
      replace ho := hw8
      clear hw8
      obtain ⟨av6, cv6, rfl, _⟩ := ho.val
      refine l_cons (o_st tbOk h2.box rfl rfl rfl rfl (by simp [Value.cells, Value.oneCell']) rfl rfl ?_)
      intro w9 hw9 qw9 bew9
      have uw9 : UpdB _ _ _ := ⟨qw9, bew9⟩
      have sw9 := uw9.stp h2.inM hlow h2.ge
      have frw9 := qw9.2
      replace hT := hT.then sw9
      replace h1 := h1.stp sw9 (frw9 b1 h1.lt ne_h1_h2)
      replace hm := hm.stp sw9 (frw9 bm hm.lt ne_h2_hm.symm)
      replace ho := ho.stp sw9 (fun x hx => frw9 x (ho.lt x hx).2 (d_ho_h2 x hx))
      replace ht := Rep.stp ht sw9
      replace hk := hk.stp sw9
      replace h3 := h3.stp sw9
      replace hlow := sw9.low
      replace hB := Nat.le_trans hB sw9.upd.1
      replace h2 : MB B _ w9 b2 _ [(.slice av6 (varsTo [] acc ++ [t.n]).length cv6)] := ⟨hw9, h2.inM, h2.ge⟩
      refine l_nil ?_
      refine x_ret0n rfl ?_
      have hnm : numB t.op = true := by simp [numB, *]
      have hni : t.n ∉ varsTo [] acc := by
        intro h
        have h2 := hg t.n
        rw [decide_eq_true h] at h2
        simp_all
      refine ⟨rfl, _, ⟨_, _, h1, h2, hm, by rw [varsTo_yes hnm hni]; exact ho, fun n => ?_, ne_h1_h2, ne_h1_hm, ne_h2_hm, d_ho_h1, d_ho_h2, d_ho_hm, hlow, hB⟩, hT⟩
      rw [getK_put, varsTo_yes hnm hni]
      by_cases e : n = t.n
      · subst e; simp
      · rw [if_neg e, hg n]; simp [e]
    refine c_skip ?_
    refine x_ret0n rfl ?_
    have hvs : varsTo [] (acc ++ [t]) = varsTo [] acc := by
      cases hnm : numB t.op with
      | false => exact varsTo_no hnm
      | true =>
        refine varsTo_old ?_
        have h2 := hg t.n
        unfold numB at hnm
        simp_all
    refine ⟨rfl, _, ⟨_, _, h1, h2, hm, by rw [hvs]; exact ho, fun n => by rw [hvs]; exact hg n, ne_h1_h2, ne_h1_hm, ne_h2_hm, d_ho_h1, d_ho_h2, d_ho_hm, hlow, hB⟩, hT⟩
  refine l_p 6 tbOk rfl (q1 (c_ifF rfl (c_skip ?_)))
  refine x_ret0n rfl ?_
  have hvs : varsTo [] (acc ++ [t]) = varsTo [] acc := by
    cases hnm : numB t.op with
    | false => exact varsTo_no hnm
    | true =>
      refine varsTo_old ?_
      have h2 := hg t.n
      unfold numB at hnm
      simp_all
  refine ⟨rfl, _, ⟨_, _, h1, h2, hm, by rw [hvs]; exact ho, fun n => by rw [hvs]; exact hg n, ne_h1_h2, ne_h1_hm, ne_h2_hm, d_ho_h1, d_ho_h2, d_ho_hm, hlow, hB⟩, hT⟩

/-- Vars: the variables. -/
theorem kVars_spec (t : Ty) (M : Nat → Prop) (w : World) (v : Value) (ht : Rep.R M w v t) (hlow0 : Low M w) (hz : psz t ≤ 2000000) :
    Calls Try.prog 45 #[v] w (Ret fun r w' => Sl M w' r (bif rightB t || rowB t then varsF t else []) ∧ Ext w w') := by
  have hlow := hlow0
  have hB : w.heap.size ≤ w.heap.size := Nat.le_refl _
  have hE : Below w.heap.size w w := Below.refl _ _
  have hsub : ∀ b, M b → M b := fun _ h => h
  obtain ⟨kv, rfl, op, nm, n64, hk⟩ := ty_open ht
  refine c_enter (n := 14) Try.func45 rfl rfl rfl ?_
  refine q0 ?_
  refine l_cons (o_box rfl rfl rfl ?_)
  intro b1 w1 hb_b1 ew1 h1
  replace h1 : Box _ b1 25 [.int .u8 t.op, .string t.name, .int .i64 t.n, kv] := h1
  replace h1 := h1.at (nM_of hlow hb_b1)
  replace hE := hE.trans (Below.mono ew1 hB)
  replace ht := Rep.ext ht ew1
  replace hk := hk.ext ew1
  replace hlow := hlow.ext ew1
  replace hB := Nat.le_trans hB ew1.size
  refine l_p 1 tbOk rfl (q1 (c_seq (q0 ?_)))
  refine l_cons (o_lds tbOk (fun j v hv => h1.cell j v hv) rfl rfl rfl rfl rfl rfl ?_)
  refine l_cons (o_call fo70 rfl rfl rfl (either_specB t _ _ _ ht hlow) ?_)
  rintro _ w2 ⟨rfl, ew2⟩
  replace hE := hE.trans (Below.mono ew2 hB)
  replace ht := Rep.ext ht ew2
  replace hk := hk.ext ew2
  replace h1 := h1.ext ew2
  replace hlow := hlow.ext ew2
  replace hB := Nat.le_trans hB ew2.size
  refine l_p 1 tbOk rfl (q1 ?_)
  refine c_ifB _ rfl (fun hr => ?_) (fun hr => ?_)
  · refine q0 (l_p 1 tbOk rfl (q1 (c_ret (x_seqR (x_ret1 rfl rfl ?_)))))
    exact ⟨by rw [show (rightB t || rowB t) = false from hr]; exact sl_nil, hE⟩
  refine c_skip (x_seq (q0 ?_))
  refine l_cons (o_new tbOk rfl rfl rfl ?_)
  intro b3 w3 qb3 ew3 hb3
  have sw3 := Stp.add ew3 hlow hB (Nat.le_of_eq qb3.symm) hb3.lt
  have h3 : MB w.heap.size (Rw.Add M b3) w3 b3 46 [.slice none 0 0] := MB.mk' hb3 qb3 hB
  replace hE := hE.trans sw3.below
  replace ht := Rep.stp ht sw3
  replace hk := hk.stp sw3
  replace h1 := h1.stp sw3
  replace hsub := fun b h => sw3.sub b (hsub b h)
  replace hlow := sw3.low
  replace hB := Nat.le_trans hB sw3.upd.1
  refine q1 (q0 ?_)
  refine l_cons (o_mkmap (κ := Int) (ν := Bool) (va := (fun x : Bool => Value.bool x)) rfl rfl ?_)
  intro bm w4 qbm ew4 ltbm hbm
  have ne_h3_hm : b3 ≠ bm := by have := h3.lt; omega
  have sw4 := Stp.add ew4 hlow hB (Nat.le_of_eq qbm.symm) ltbm
  have hm : OM (κ := Int) (fun x : Bool => Value.bool x) w.heap.size (Rw.Add (Rw.Add M b3) bm) w4 bm [] := OM.mk' hbm qbm hB
  replace h3 := h3.stp sw4 (ew4.block b3 h3.lt)
  replace hE := hE.trans sw4.below
  replace ht := Rep.stp ht sw4
  replace hk := hk.stp sw4
  replace h1 := h1.stp sw4
  replace hsub := fun b h => sw4.sub b (hsub b h)
  replace hlow := sw4.low
  replace hB := Nat.le_trans hB sw4.upd.1
  refine l_cons (o_new tbOk rfl rfl rfl ?_)
  intro b4 w5 qb4 ew5 hb4
  have ne_h3_h4 : b3 ≠ b4 := by have := h3.lt; omega
  have ne_hm_h4 : bm ≠ b4 := by have := hm.lt; omega
  have sw5 := Stp.add ew5 hlow hB (Nat.le_of_eq qb4.symm) hb4.lt
  have h4 : MB w.heap.size (Rw.Add (Rw.Add (Rw.Add M b3) bm) b4) w5 b4 68 [.map none] := MB.mk' hb4 qb4 hB
  replace h3 := h3.stp sw5 (ew5.block b3 h3.lt)
  replace hm := hm.stp sw5 (ew5.block bm hm.lt)
  replace hE := hE.trans sw5.below
  replace ht := Rep.stp ht sw5
  replace hk := hk.stp sw5
  replace h1 := h1.stp sw5
  replace hsub := fun b h => sw5.sub b (hsub b h)
  replace hlow := sw5.low
  replace hB := Nat.le_trans hB sw5.upd.1
  refine l_cons (o_st tbOk h4.box rfl rfl rfl rfl (by intro u hu; simp [Value.cells] at hu; subst hu; rfl) rfl rfl ?_)
  intro w6 hw6 qw6 bew6
  have uw6 : UpdB _ _ _ := ⟨qw6, bew6⟩
  have sw6 := uw6.stp h4.inM hlow h4.ge
  have frw6 := qw6.2
  replace h3 := h3.stp sw6 (frw6 b3 h3.lt ne_h3_h4)
  replace hm := hm.stp sw6 (frw6 bm hm.lt ne_hm_h4)
  replace hE := hE.trans sw6.below
  replace ht := Rep.stp ht sw6
  replace hk := hk.stp sw6
  replace h1 := h1.stp sw6
  replace hsub := fun b h => sw6.sub b (hsub b h)
  replace hlow := sw6.low
  replace hB := Nat.le_trans hB sw6.upd.1
  replace h4 : MB w.heap.size _ w6 b4 _ [.map (some bm)] := ⟨hw6, h4.inM, h4.ge⟩
  refine q1 (q0 ?_)
  refine l_cons (o_lds tbOk (fun j v hv => h1.cell j v hv) rfl rfl rfl rfl rfl rfl ?_)
  refine l_cons (o_call fo73 rfl rfl rfl (canon_all _ t _ _ _ _ (Nat.le_refl _) (Classical.choose_spec (shape_either hr)) ht hlow hz) ?_)
  rintro vc w7 ⟨hc, ew7⟩
  replace h3 := h3.ext hlow hB ew7
  replace hm := hm.ext hlow hB ew7
  replace h4 := h4.ext hlow hB ew7
  replace hE := hE.trans (Below.mono ew7 hB)
  replace ht := Rep.ext ht ew7
  replace hk := hk.ext ew7
  replace h1 := h1.ext ew7
  replace hlow := hlow.ext ew7
  replace hB := Nat.le_trans hB ew7.size
  refine l_p 1 tbOk rfl ?_
  have hpc := psz_canon _ t (Nat.le_refl _)
  have hvl0 := varsTo_len [] (partsL (canonF t))
  have hvl1 : (partsL (canonF t)).length = psz (canonF t) := rfl
  simp only [List.length_nil, Nat.zero_add] at hvl0
  have hV : VI w.heap.size b4 b3 bm (Rw.Add (Rw.Add (Rw.Add M b3) bm) b4) [] w7 := ⟨_, _, h4, h3, hm, own_nil, fun n => by simp [getK, varsTo], ne_h3_h4.symm, ne_hm_h4.symm, ne_h3_hm, fun x hx => by simp [Value.ownBlock] at hx, fun x hx => by simp [Value.ownBlock] at hx, fun x hx => by simp [Value.ownBlock] at hx, hlow, hB⟩
  refine l_cons (o_call fo80 rfl rfl rfl (each_spec 81 [.pointer (some ⟨b4, 0, none⟩), .pointer (some ⟨b3, 0, none⟩)] w.heap.size 2000000 (VI w.heap.size b4 b3 bm) fo81 (fun _ _ _ _ h e => h.ext e) (fun _ _ _ h => by obtain ⟨v, m, h1, h2, hm, ho, hg, r1, r2, r3, r4, r5, r6, hlow, hB⟩ := h; exact ⟨hlow, hB⟩) (fun M acc w u x hN hI hu => varsDo_spec _ _ _ _ M acc w u x hN hI hu) (canonF t) _ [] _ _ (by simp only [List.length_nil]; omega) hV hc) ?_)
  rintro _ w8 ⟨rfl, Mw8, hV2, sw8⟩
  replace hE := hE.trans sw8.below
  replace ht := Rep.stp ht sw8
  replace hk := hk.stp sw8
  replace h1 := h1.stp sw8
  replace hc := Rep.stp hc sw8
  replace hsub := fun b h => sw8.sub b (hsub b h)
  replace hlow := sw8.low
  replace hB := Nat.le_trans hB sw8.upd.1
  obtain ⟨lv, m2, h4, h3, hm, ho, _, _, _, _, _, _, _, _, _⟩ := hV2
  rw [List.nil_append] at ho
  refine q1 (q0 ?_)
  refine l_cons (o_ld tbOk (h3.cell 0 _ rfl) rfl rfl rfl rfl rfl ?_)
  refine l_p 1 tbOk rfl (q1 (c_ret (x_ret1 rfl rfl ?_)))
  refine ⟨?_, hE⟩
  rw [show (rightB t || rowB t) = true from hr]
  exact ho.sl (by omega) hlow0 hsub

/-- Closed: without variables? -/
theorem kClosed_spec (t : Ty) (M : Nat → Prop) (w : World) (v : Value) (ht : Rep.R M w v t) (hlow : Low M w) (hz : psz t ≤ 2000000) :
    Calls Try.prog 46 #[v] w (Ret fun r w' => r = .bool ((rightB t || rowB t) && decide (varsF t = [])) ∧ Ext w w') := by
  have hE : Below w.heap.size w w := Below.refl _ _
  have hB : w.heap.size ≤ w.heap.size := Nat.le_refl _
  obtain ⟨kv, rfl, op, nm, n64, hk⟩ := ty_open ht
  refine c_enter (n := 11) Try.func46 rfl rfl rfl ?_
  refine q0 ?_
  refine l_cons (o_box rfl rfl rfl ?_)
  intro b1 w1 hb_b1 ew1 h1
  replace h1 : Box _ b1 25 [.int .u8 t.op, .string t.name, .int .i64 t.n, kv] := h1
  replace h1 := h1.at (nM_of hlow hb_b1)
  replace hE := hE.trans (Below.mono ew1 hB)
  replace ht := Rep.ext ht ew1
  replace hk := hk.ext ew1
  replace hlow := hlow.ext ew1
  replace hB := Nat.le_trans hB ew1.size
  refine l_p 1 tbOk rfl (q1 (q0 ?_))
  refine l_cons (o_lds tbOk (fun j v hv => h1.cell j v hv) rfl rfl rfl rfl rfl rfl ?_)
  refine l_cons (o_call fo70 rfl rfl rfl (either_specB t _ _ _ ht hlow) ?_)
  rintro _ w2 ⟨rfl, ew2⟩
  replace hE := hE.trans (Below.mono ew2 hB)
  replace ht := Rep.ext ht ew2
  replace hk := hk.ext ew2
  replace h1 := h1.ext ew2
  replace hlow := hlow.ext ew2
  replace hB := Nat.le_trans hB ew2.size
  refine l_p 1 tbOk rfl ?_
  refine l_split 5 _ rfl (fun hr => ?_) (fun hr => ?_)
  · refine l_cons (o_lds tbOk (fun j v hv => h1.cell j v hv) rfl rfl rfl rfl rfl rfl ?_)
    refine l_cons (o_call fo45 rfl rfl rfl (kVars_spec t _ _ _ ht hlow hz) ?_)
    rintro vhv w3 ⟨hv, ew3⟩
    replace hE := hE.trans (Below.mono ew3 hB)
    replace ht := Rep.ext ht ew3
    replace hk := hk.ext ew3
    replace h1 := h1.ext ew3
    replace hlow := hlow.ext ew3
    replace hB := Nat.le_trans hB ew3.size
    refine l_cons (o_len tbOk hv rfl rfl rfl rfl rfl ?_)
    refine l_p 3 tbOk rfl (q1 (c_ret (x_ret1 rfl rfl ?_)))
    refine ⟨?_, hE⟩
    rw [show (rightB t || rowB t) = true from hr]
    simp only [cond_true, Bool.true_and]
    congr 1
    cases varsF t <;> simp <;> omega
  refine l_p 6 tbOk rfl (q1 (c_ret (x_ret1 rfl rfl ?_)))
  exact ⟨by rw [show (rightB t || rowB t) = false from hr]; rfl, hE⟩

/-- Between two parts: was there a ? -/
def SI (B b1 : Nat) (c : Bool) (M : Nat → Prop) (acc : List Ty) (w : World) : Prop := MB B M w b1 4 [.bool (c && acc.all statB)] ∧ Low M w ∧ B ≤ w.heap.size
theorem SI.ext {B b1 : Nat} {c : Bool} {M : Nat → Prop} {acc : List Ty} {w w' : World} (h : SI B b1 c M acc w) (e : Ext w w') : SI B b1 c M acc w' := ⟨h.1.ext h.2.1 h.2.2 e, h.2.1.ext e, Nat.le_trans h.2.2 e.size⟩
theorem statDo_spec (B b1 : Nat) (c : Bool) (M : Nat → Prop) (acc : List Ty) (w : World) (v : Value) (t : Ty) (hI : SI B b1 c M acc w) (ht : Rep.R M w v t) :
    Calls Try.prog 82 #[v, .pointer (some ⟨b1, 0, none⟩)] w (Ret fun r w' => r = .tuple #[] ∧ ∃ M', SI B b1 c M' (acc ++ [t]) w' ∧ Stp B M M' w w') := by
  obtain ⟨h1, hlow, hB⟩ := hI
  have hT : Stp B M M w w := Stp.refl hlow
  obtain ⟨kv, rfl, op, nm, n64, hk⟩ := ty_open ht
  refine c_enter (n := 14) Try.func82 rfl rfl rfl ?_
  refine q0 ?_
  refine l_cons (o_box rfl rfl rfl ?_)
  intro b2 w1 hb_b2 ew1 h2
  replace h2 : Box _ b2 25 [.int .u8 t.op, .string t.name, .int .i64 t.n, kv] := h2
  replace h2 := h2.at (nM_of hlow hb_b2)
  replace hT := hT.then (Stp.ext ew1 hlow hB)
  replace h1 := h1.ext hlow hB ew1
  replace ht := Rep.ext ht ew1
  replace hk := hk.ext ew1
  replace hlow := hlow.ext ew1
  replace hB := Nat.le_trans hB ew1.size
  refine q1 (c_reg ?_)
  refine l_cons (o_ld tbOk (h1.cell 0 _ rfl) rfl rfl rfl rfl rfl ?_)
  refine l_p 1 tbOk rfl ?_
  refine l_split 4 _ rfl (fun c1 => ?_) (fun c1 => ?_)
  · refine l_p 1 tbOk rfl ?_
    refine l_cons (o_ld tbOk (h2.cell 0 _ rfl) rfl rfl rfl rfl rfl ?_)
    refine l_p 3 tbOk rfl ?_
    refine l_splitN 9 _ rfl (fun c2 => ?_) (fun c2 => ?_)
    · refine l_p 1 tbOk rfl ?_
      refine l_cons (o_ld tbOk (h2.cell 0 _ rfl) rfl rfl rfl rfl rfl ?_)
      refine l_p 2 tbOk rfl ?_
      have hval : (c && (acc ++ [t]).all statB) = (c && acc.all statB && statB t) := by simp [Bool.and_assoc]
      refine l_cons (o_st tbOk h1.box rfl rfl rfl rfl (by intro u hu; simp [Value.cells] at hu; subst hu; rfl) rfl rfl ?_)
      intro w2 hw2 qw2 bew2
      have uw2 : UpdB _ _ _ := ⟨qw2, bew2⟩
      have sw2 := uw2.stp h1.inM hlow h1.ge
      have frw2 := qw2.2
      replace hT := hT.then sw2
      replace ht := Rep.stp ht sw2
      replace hk := hk.stp sw2
      replace h2 := h2.stp sw2
      replace hlow := sw2.low
      replace hB := Nat.le_trans hB sw2.upd.1
      replace h1 : MB B _ w2 b1 _ [.bool (!decide (t.op = 9))] := ⟨hw2, h1.inM, h1.ge⟩
      refine l_nil ?_
      refine x_ret0n rfl ?_
      have hfin : (!decide (t.op = 9)) = (c && (acc ++ [t]).all statB) := by
        rw [hval]
        generalize (c && acc.all statB) = q at *
        unfold statB
        simp_all
      rw [hfin] at h1
      exact ⟨rfl, _, ⟨h1, hlow, hB⟩, hT⟩
    refine l_p 4 tbOk rfl ?_
    have hval : (c && (acc ++ [t]).all statB) = (c && acc.all statB && statB t) := by simp [Bool.and_assoc]
    refine l_cons (o_st tbOk h1.box rfl rfl rfl rfl (by intro u hu; simp [Value.cells] at hu; subst hu; rfl) rfl rfl ?_)
    intro w3 hw3 qw3 bew3
    have uw3 : UpdB _ _ _ := ⟨qw3, bew3⟩
    have sw3 := uw3.stp h1.inM hlow h1.ge
    have frw3 := qw3.2
    replace hT := hT.then sw3
    replace ht := Rep.stp ht sw3
    replace hk := hk.stp sw3
    replace h2 := h2.stp sw3
    replace hlow := sw3.low
    replace hB := Nat.le_trans hB sw3.upd.1
    replace h1 : MB B _ w3 b1 _ [.bool false] := ⟨hw3, h1.inM, h1.ge⟩
    refine l_nil ?_
    refine x_ret0n rfl ?_
    have hfin : false = (c && (acc ++ [t]).all statB) := by
      rw [hval]
      generalize (c && acc.all statB) = q at *
      unfold statB
      simp_all
    rw [hfin] at h1
    exact ⟨rfl, _, ⟨h1, hlow, hB⟩, hT⟩
  refine l_p 9 tbOk rfl ?_
  have hval : (c && (acc ++ [t]).all statB) = (c && acc.all statB && statB t) := by simp [Bool.and_assoc]
  refine l_cons (o_st tbOk h1.box rfl rfl rfl rfl (by intro u hu; simp [Value.cells] at hu; subst hu; rfl) rfl rfl ?_)
  intro w4 hw4 qw4 bew4
  have uw4 : UpdB _ _ _ := ⟨qw4, bew4⟩
  have sw4 := uw4.stp h1.inM hlow h1.ge
  have frw4 := qw4.2
  replace hT := hT.then sw4
  replace ht := Rep.stp ht sw4
  replace hk := hk.stp sw4
  replace h2 := h2.stp sw4
  replace hlow := sw4.low
  replace hB := Nat.le_trans hB sw4.upd.1
  replace h1 : MB B _ w4 b1 _ [.bool false] := ⟨hw4, h1.inM, h1.ge⟩
  refine l_nil ?_
  refine x_ret0n rfl ?_
  have hfin : false = (c && (acc ++ [t]).all statB) := by
    rw [hval]
    generalize (c && acc.all statB) = q at *
    unfold statB
    simp_all
  rw [hfin] at h1
  exact ⟨rfl, _, ⟨h1, hlow, hB⟩, hT⟩

/-- Static: without ? -/
theorem kStatic_spec (t : Ty) (M : Nat → Prop) (w : World) (v : Value) (ht : Rep.R M w v t) (hlow0 : Low M w) (hz : psz t ≤ 2000000) :
    Calls Try.prog 47 #[v] w (Ret fun r w' => r = .bool ((rightB t || rowB t) && staticF t) ∧ Ext w w') := by
  have hlow := hlow0
  have hB : w.heap.size ≤ w.heap.size := Nat.le_refl _
  have hE : Below w.heap.size w w := Below.refl _ _
  have hsub : ∀ b, M b → M b := fun _ h => h
  obtain ⟨kv, rfl, op, nm, n64, hk⟩ := ty_open ht
  refine c_enter (n := 10) Try.func47 rfl rfl rfl ?_
  refine q0 ?_
  refine l_cons (o_box rfl rfl rfl ?_)
  intro b1 w1 hb_b1 ew1 h1
  replace h1 : Box _ b1 25 [.int .u8 t.op, .string t.name, .int .i64 t.n, kv] := h1
  replace h1 := h1.at (nM_of hlow hb_b1)
  replace hE := hE.trans (Below.mono ew1 hB)
  replace ht := Rep.ext ht ew1
  replace hk := hk.ext ew1
  replace hlow := hlow.ext ew1
  replace hB := Nat.le_trans hB ew1.size
  refine l_p 1 tbOk rfl (q1 (q0 ?_))
  refine l_cons (o_lds tbOk (fun j v hv => h1.cell j v hv) rfl rfl rfl rfl rfl rfl ?_)
  refine l_cons (o_call fo70 rfl rfl rfl (either_specB t _ _ _ ht hlow) ?_)
  rintro _ w2 ⟨rfl, ew2⟩
  replace hE := hE.trans (Below.mono ew2 hB)
  replace ht := Rep.ext ht ew2
  replace hk := hk.ext ew2
  replace h1 := h1.ext ew2
  replace hlow := hlow.ext ew2
  replace hB := Nat.le_trans hB ew2.size
  refine l_cons (o_new tbOk rfl rfl rfl ?_)
  intro b3 w3 qb3 ew3 hb3
  have sw3 := Stp.add ew3 hlow hB (Nat.le_of_eq qb3.symm) hb3.lt
  have h3 : MB w.heap.size (Rw.Add M b3) w3 b3 4 [.bool false] := MB.mk' hb3 qb3 hB
  replace hE := hE.trans sw3.below
  replace ht := Rep.stp ht sw3
  replace hk := hk.stp sw3
  replace h1 := h1.stp sw3
  replace hsub := fun b h => sw3.sub b (hsub b h)
  replace hlow := sw3.low
  replace hB := Nat.le_trans hB sw3.upd.1
  refine l_cons (o_st tbOk h3.box rfl rfl rfl rfl (by intro u hu; simp [Value.cells] at hu; subst hu; rfl) rfl rfl ?_)
  intro w4 hw4 qw4 bew4
  have uw4 : UpdB _ _ _ := ⟨qw4, bew4⟩
  have sw4 := uw4.stp h3.inM hlow h3.ge
  have frw4 := qw4.2
  replace hE := hE.trans sw4.below
  replace ht := Rep.stp ht sw4
  replace hk := hk.stp sw4
  replace h1 := h1.stp sw4
  replace hsub := fun b h => sw4.sub b (hsub b h)
  replace hlow := sw4.low
  replace hB := Nat.le_trans hB sw4.upd.1
  replace h3 : MB w.heap.size _ w4 b3 _ [.bool (rightB t || rowB t)] := ⟨hw4, h3.inM, h3.ge⟩
  refine q1 (q0 ?_)
  refine l_cons (o_lds tbOk (fun j v hv => h1.cell j v hv) rfl rfl rfl rfl rfl rfl ?_)
  refine l_p 1 tbOk rfl ?_
  refine l_cons (o_call fo80 rfl rfl rfl (each_spec 82 [.pointer (some ⟨b3, 0, none⟩)] w.heap.size 2000000 (SI w.heap.size b3 (rightB t || rowB t)) fo82 (fun _ _ _ _ h e => h.ext e) (fun _ _ _ h => h.2) (fun M acc w u x hN hI hu => statDo_spec _ _ _ M acc w u x hI hu) t _ [] _ _ (by simp only [List.length_nil]; omega) ⟨by simpa using h3, hlow, hB⟩ ht) ?_)
  rintro _ w5 ⟨rfl, Mw5, hV2, sw5⟩
  replace hE := hE.trans sw5.below
  replace ht := Rep.stp ht sw5
  replace hk := hk.stp sw5
  replace h1 := h1.stp sw5
  replace hsub := fun b h => sw5.sub b (hsub b h)
  replace hlow := sw5.low
  replace hB := Nat.le_trans hB sw5.upd.1
  obtain ⟨h3, _, _⟩ := hV2
  rw [List.nil_append] at h3
  refine q1 (q0 ?_)
  refine l_cons (o_ld tbOk (h3.cell 0 _ rfl) rfl rfl rfl rfl rfl ?_)
  refine l_p 1 tbOk rfl (q1 (c_ret (x_ret1 rfl rfl ?_)))
  exact ⟨rfl, hE⟩

/-- renumbered: by a table, in place. -/
theorem renum_own : ∀ (t : Ty) (m : List (Int × Int)) (M : Nat → Prop) (w : World) (B : Nat) (v : Value) (F : Nat → Prop) (bm : Nat), OTy 25 B w t v F → (∀ c, F c → M c) → OM (κ := Int) (fun x : Int => Value.int .i64 x) B M w bm m → ¬ F bm → (∀ n, I64 ((getK m n).getD 0)) → Low M w → B ≤ w.heap.size → Calls Try.prog 79 #[v, .map (some bm)] w (Ret fun r w' => ∃ M' F', OTy 25 B w' (renF (fun n => (getK m n).getD 0) t) r F' ∧ (∀ c, F' c → M' c ∧ (F c ∨ w.heap.size ≤ c)) ∧ Stp B M M' w w' ∧ Kept w w' (Out F w)) := by
  refine Ty.ind fun t ih => ?_
  intro m M w B v F bm ht hF hm hbm hmI hlow hB
  have hT : Stp B M M w w := Stp.refl hlow
  have hfr : Kept w w (Out F w) := Kept.refl (fun x hx => hx.1)
  obtain ⟨kv, us, H, rfl, op, nm, n64, hl, hr, hO, hH⟩ := oty_open ht
  have hkF := hr.inM
  replace hr := hr.keepV (M' := M) (fun b hb => hF b (hr.inM b hb)) (fun _ _ _ _ _ => rfl)
  have hF1 : ∀ c, H c → M c := fun c hc => hF c (hH c hc).1
  have hFn : ∀ c, H c → F c ∨ w.heap.size ≤ c := fun c hc => .inl (hH c hc).1
  have hul := hO.len
  have dd_hr_hO : ∀ x y, kv.ownBlock = some x → H y → x ≠ y := fun x y hx hy e => (hH y hy).2 (e ▸ hx)
  have dd_hr_hfr : ∀ x y, kv.ownBlock = some x → Out F w y → x ≠ y := fun x y hx hy e => hy.2 (e ▸ hkF x hx)
  have d_hr_hm : ∀ x, kv.ownBlock = some x → x ≠ bm := fun x hx e => hbm (e ▸ hkF x hx)
  have d_hO_hm : ∀ x, H x → x ≠ bm := fun x hx e => hbm (e ▸ (hH x hx).1)
  have ne_hm0 : bm < w.heap.size := hm.lt
  refine c_enter (n := 37) Try.func79 rfl rfl rfl ?_
  refine q0 ?_
  refine l_cons (o_box rfl rfl rfl ?_)
  intro b2 w1 qb2 ew1 hb2
  have d_hr_h2 : ∀ x, (kv : Value).ownBlock = some x → x ≠ b2 := fun x hx => by have := (hr.lt x hx).2; omega
  have d_hO_h2 : ∀ x, H x → x ≠ b2 := fun x hx => by have := (hO.lt x hx).2; omega
  have d_hfr_h2 : ∀ x, (Out F w) x → x ≠ b2 := fun x hx => by have := (hfr.lt x hx).2; omega
  have ne_hm_h2 : bm ≠ b2 := by have := hm.lt; omega
  have sw1 := Stp.add ew1 hlow hB (Nat.le_of_eq qb2.symm) hb2.lt
  have h2 : MB B (Rw.Add M b2) w1 b2 25 [.int .u8 t.op, .string t.name, .int .i64 t.n, kv] := MB.mk' hb2 qb2 hB
  replace hT := hT.then sw1
  replace hr := hr.stp sw1 (fun x hx => ew1.block x (hr.lt x hx).2)
  replace hO := hO.stp sw1 (fun x hx => ew1.block x (hO.lt x hx).2)
  replace hfr := hfr.stp sw1 (fun x hx => ew1.block x (hfr.lt x hx).2)
  replace hm := hm.stp sw1 (ew1.block bm hm.lt)
  replace hF1 := fun b h => sw1.sub b (hF1 b h)
  replace hlow := sw1.low
  replace hB := Nat.le_trans hB sw1.upd.1
  refine l_cons (o_new tbOk rfl rfl rfl ?_)
  intro b4 w2 qb4 ew2 hb4
  have d_hr_h4 : ∀ x, (kv : Value).ownBlock = some x → x ≠ b4 := fun x hx => by have := (hr.lt x hx).2; omega
  have d_hO_h4 : ∀ x, H x → x ≠ b4 := fun x hx => by have := (hO.lt x hx).2; omega
  have d_hfr_h4 : ∀ x, (Out F w) x → x ≠ b4 := fun x hx => by have := (hfr.lt x hx).2; omega
  have ne_hm_h4 : bm ≠ b4 := by have := hm.lt; omega
  have ne_h2_h4 : b2 ≠ b4 := by have := h2.lt; omega
  have sw2 := Stp.add ew2 hlow hB (Nat.le_of_eq qb4.symm) hb4.lt
  have h4 : MB B (Rw.Add (Rw.Add M b2) b4) w2 b4 25 [.int .u8 0, .string ⟨#[]⟩, .int .i64 0, .slice none 0 0] := MB.mk' hb4 qb4 hB
  replace hT := hT.then sw2
  replace hr := hr.stp sw2 (fun x hx => ew2.block x (hr.lt x hx).2)
  replace hO := hO.stp sw2 (fun x hx => ew2.block x (hO.lt x hx).2)
  replace hfr := hfr.stp sw2 (fun x hx => ew2.block x (hfr.lt x hx).2)
  replace hm := hm.stp sw2 (ew2.block bm hm.lt)
  replace h2 := h2.stp sw2 (ew2.block b2 h2.lt)
  replace hF1 := fun b h => sw2.sub b (hF1 b h)
  replace hlow := sw2.low
  replace hB := Nat.le_trans hB sw2.upd.1
  refine q1 (c_seq (q0 (l_p 1 tbOk rfl ?_)))
  refine l_cons (o_ld tbOk (h2.cell 0 _ rfl) rfl rfl rfl rfl rfl ?_)
  refine l_p 2 tbOk rfl ?_
  refine l_splitP 10 _ rfl (fun c1 => ?_) (fun c1 => ?_)
  · refine l_p 4 tbOk rfl (q1 (c_ifT rfl (c_reg (l_p 2 tbOk rfl ?_))))
    refine l_cons (o_ld tbOk (h2.cell 2 _ rfl) rfl rfl rfl rfl rfl ?_)
    refine l_cons (o_look (z := 0) tbOk hm.map (k := t.n) rfl rfl rfl rfl ⟨_, Try.underlying3, rfl⟩ rfl rfl rfl rfl ?_)
    refine l_p 1 tbOk rfl ?_
    refine l_cons (o_st tbOk h2.box rfl rfl rfl rfl (by simp [Value.cells, Value.oneCell']) rfl rfl ?_)
    intro w3 hw3 qw3 bew3
    have uw3 : UpdB _ _ _ := ⟨qw3, bew3⟩
    have sw3 := uw3.stp h2.inM hlow h2.ge
    have frw3 := qw3.2
    replace hT := hT.then sw3
    replace hr := hr.stp sw3 (fun x hx => frw3 x (hr.lt x hx).2 (d_hr_h2 x hx))
    replace hO := hO.stp sw3 (fun x hx => frw3 x (hO.lt x hx).2 (d_hO_h2 x hx))
    replace hfr := hfr.stp sw3 (fun x hx => frw3 x (hfr.lt x hx).2 (d_hfr_h2 x hx))
    replace hm := hm.stp sw3 (frw3 bm hm.lt ne_hm_h2)
    replace h4 := h4.stp sw3 (frw3 b4 h4.lt ne_h2_h4.symm)
    replace hF1 := fun b h => sw3.sub b (hF1 b h)
    replace hlow := sw3.low
    replace hB := Nat.le_trans hB sw3.upd.1
    replace h2 : MB B _ w3 b2 _ [.int .u8 t.op, .string t.name, .int .i64 ((getK m t.n).getD 0), kv] := ⟨hw3, h2.inM, h2.ge⟩
    refine q1 (c_seq (q0 (l_p 1 tbOk rfl ?_)))
    refine l_cons (o_ld tbOk (h2.cell 3 _ rfl) rfl rfl rfl rfl rfl ?_)
    refine l_cons (o_lenO tbOk hr rfl rfl rfl rfl rfl ?_)
    refine l_p 1 tbOk rfl (q1 (c_blk ?_))
    refine c_loop4 (X := Nat) (Y := List (VN 3)) (Z := Nat → Prop) (U := Nat → Prop) (fun i us M1 F1 => [(1, .map (some bm)), (2, .pointer (some ⟨b2, 0, none⟩)), (4, .pointer (some ⟨b4, 0, none⟩)), (21, kv), (22, .int .i64 (t.kids.length : Int)), (23, .int .i64 (i : Nat))]) (fun i us M1 F1 w' => i ≤ t.kids.length ∧ OwnSl 25 B M1 w' kv us ∧ OTs 25 B w' us (mapTo (renF (fun n => (getK m n).getD 0)) t.kids i) F1 ∧ (∀ c, F1 c → M1 c) ∧ (∀ c, F1 c → F c ∨ w.heap.size ≤ c) ∧ Kept w w' (Out F w) ∧ Stp B M M1 w w' ∧ Low M1 w' ∧ B ≤ w'.heap.size ∧ MB B M1 w' b4 25 [.int .u8 0, .string ⟨#[]⟩, .int .i64 0, .slice none 0 0] ∧ MB B M1 w' b2 25 [.int .u8 t.op, .string t.name, .int .i64 ((getK m t.n).getD 0), kv] ∧ OM (κ := Int) (fun x : Int => Value.int .i64 x) B M1 w' bm m ∧ (∀ x y, (kv : Value).ownBlock = some x → F1 y → x ≠ y) ∧ (∀ x y, (kv : Value).ownBlock = some x → (Out F w) y → x ≠ y) ∧ (∀ x, (kv : Value).ownBlock = some x → x ≠ bm) ∧ (∀ x, F1 x → x ≠ bm) ∧ (∀ x, (kv : Value).ownBlock = some x → x ≠ b2) ∧ (∀ x, F1 x → x ≠ b2) ∧ (∀ x, (Out F w) x → x ≠ b2) ∧ (∀ x, (kv : Value).ownBlock = some x → x ≠ b4) ∧ (∀ x, F1 x → x ≠ b4) ∧ (∀ x, (Out F w) x → x ≠ b4)) (fun i us M1 F1 => t.kids.length - i) (0) (us) ((Rw.Add (Rw.Add M b2) b4)) (H) (s6 rfl rfl rfl rfl (get_num rfl (by omega)) rfl) ?_ ?_
    · refine ⟨Nat.zero_le _, ?_⟩
      rw [mapTo_zero]
      exact ⟨hr, hO, hF1, hFn, hfr, hT, hlow, hB, h4, h2, hm, dd_hr_hO, dd_hr_hfr, d_hr_hm, d_hO_hm, d_hr_h2, d_hO_h2, d_hfr_h2, d_hr_h4, d_hO_h4, d_hfr_h4⟩
    clear hF1 hFn hfr hT dd_hr_hO dd_hr_hfr d_hr_hm d_hO_hm d_hr_h2 d_hO_h2 d_hfr_h2 d_hr_h4 d_hO_h4 d_hfr_h4 hul
    rintro i us M1 F1 w4 ⟨hi, hr, hO, hF1, hFn, hfr, hT, hlow, hB, h4, h2, hm, dd_hr_hO, dd_hr_hfr, d_hr_hm, d_hO_hm, d_hr_h2, d_hO_h2, d_hfr_h2, d_hr_h4, d_hO_h4, d_hfr_h4⟩
    have hul := hO.len
    rw [mapTo_len] at hul
    refine q0 (l_p 1 tbOk rfl (q1 (c_seq ?_)))
    refine c_ifP _ rfl (fun c2 => ?_) (fun c2 => ?_)
    · refine c_skip (x_seq (c_seq (c_blk (q0 (l_p 1 tbOk rfl ?_)))))
      have hik : i < t.kids.length := by omega
      obtain ⟨⟨uv⟩, G, hui, hx, hGF, hOh⟩ := hO.take (mapTo_get hik)
      refine l_cons (o_ixO tbOk hr hui rfl rfl rfl rfl rfl rfl rfl rfl rfl ?_)
      intro ebx eux hobx hRx hatx
      obtain ⟨e0, _⟩ := hRx
      replace e0 : eux = uv := e0
      subst e0
      obtain ⟨kvx, usx, Hx, rfl, opx, nmx, n64x, hlx, hrx, hOx, hHx⟩ := oty_open hx
      replace hatx : OAt _ _ _ [.int .u8 t.kids[i].op, .string t.kids[i].name, .int .i64 t.kids[i].n, kvx] := hatx
      refine l_cons (o_lds tbOk (fun j v hv => hatx.cell j v hv) rfl rfl rfl rfl rfl rfl ?_)
      refine l_cons (o_new tbOk rfl rfl rfl ?_)
      intro b6 w5 qb6 ew5 hb6
      have nb6 := nM_of hlow qb6
      refine l_p 1 tbOk rfl ?_
      refine l_cons (o_st tbOk hb6 rfl rfl rfl rfl hx.one rfl rfl ?_)
      intro w6 h6 uw6 bew6
      have ew6 : Ext w4 w6 := ew5.trans (bew6 _ (Nat.le_of_eq qb6.symm))
      replace hT := hT.then (Stp.ext ew6 hlow hB)
      replace hr := hr.ext hlow hB ew6
      replace hfr := hfr.ext hlow hB ew6
      replace h4 := h4.ext hlow hB ew6
      replace h2 := h2.ext hlow hB ew6
      replace hm := hm.ext hlow hB ew6
      replace hOh := hOh.ext hlow hB ew6
      replace hx := hx.ext hlow hB ew6
      replace hlow := hlow.ext ew6
      replace hB := Nat.le_trans hB ew6.size
      replace h6 : Box w6 b6 25 [.int .u8 t.kids[i].op, .string t.kids[i].name, .int .i64 t.kids[i].n, kvx] := h6
      replace h6 := h6.at nb6
      refine q1 ?_
      refine a_beg (Sof2 B M1 b2) rfl ?_
      intro w7 ew7
      replace hT := hT.then (Stp.ext ew7 hlow hB)
      replace hr := hr.ext hlow hB ew7
      replace hfr := hfr.ext hlow hB ew7
      replace h4 := h4.ext hlow hB ew7
      replace h2 := h2.ext hlow hB ew7
      replace hm := hm.ext hlow hB ew7
      replace hOh := hOh.ext hlow hB ew7
      replace hx := hx.ext hlow hB ew7
      replace h6 := h6.ext ew7
      replace hlow := hlow.ext ew7
      replace hB := Nat.le_trans hB ew7.size
      have hS : Stp B M1 M1 w7 w7 := Stp.refl hlow
      have D_h4 := h4.box
      have D_h2 := h2.box
      have D_h6 := h6
      refine a_p 0 tbOk rfl rfl rfl rfl (by kernel_rfl) (fun _ _ _ h => h) ⟨⟨_, hS⟩, h2.box.heap.trans D_h2.heap.symm⟩ ?_
      refine a_ld 1 tbOk (fun _ hs => (D_h2.so2 hs).cell 3 _ rfl) rfl rfl rfl rfl rfl rfl (by kernel_rfl) (fun _ _ _ h => h) ⟨⟨_, hS⟩, h2.box.heap.trans D_h2.heap.symm⟩ ?_
      refine a_p 2 tbOk rfl rfl rfl rfl (by kernel_rfl) (fun _ _ _ h => h) ⟨⟨_, hS⟩, h2.box.heap.trans D_h2.heap.symm⟩ ?_
      refine a_lds 3 tbOk (fun _ hs j v hv => (D_h6.so2 hs).cell j v hv) rfl rfl rfl rfl rfl rfl rfl (by kernel_rfl) (fun _ _ _ h => h) ⟨⟨_, hS⟩, h2.box.heap.trans D_h2.heap.symm⟩ ?_
      refine a_p 4 tbOk rfl rfl rfl rfl (by kernel_rfl) (fun _ _ _ h => h) ⟨⟨_, hS⟩, h2.box.heap.trans D_h2.heap.symm⟩ ?_
      have l_h4 := h4.lt
      have l_h2 := h2.lt
      have l_hm := hm.lt
      have hsz0 := hT.upd.1
      have lH := hOh.lt
      have lr := hr.lt
      refine a_one 5 rfl (by kernel_rfl) (o_call fo79 rfl rfl rfl (ih _ (List.getElem_mem hik) m _ _ B _ G bm hx (fun c hc => hF1 c (hGF c hc)) hm (fun g => d_hO_hm _ (hGF _ g) rfl) hmI hlow hB) ?_)
      rintro vq w8 ⟨Mw8, Fw8, hq, hq2, sw8, kw8⟩
      have frw8 : ∀ x, x < w7.heap.size → ¬ G x → w8.heap[x]? = w7.heap[x]? := fun x hx hg => kw8.blk x ⟨hx, hg⟩
      replace hT := hT.then sw8
      replace hS := hS.then sw8
      replace hr := hr.stp sw8 (fun x hx => frw8 x (hr.lt x hx).2 (fun g => dd_hr_hO x x hx (hGF x g) rfl))
      replace hfr := hfr.stp sw8 (fun x hx => frw8 x (hfr.lt x hx).2 (fun g => (hFn x (hGF x g)).elim hx.2 (fun h => by have := hx.1; have := hfr.size; omega)))
      replace h4 := h4.stp sw8 (frw8 b4 h4.lt (fun g => d_hO_h4 _ (hGF _ g) rfl))
      replace h2 := h2.stp sw8 (frw8 b2 h2.lt (fun g => d_hO_h2 _ (hGF _ g) rfl))
      replace hm := hm.stp sw8 (frw8 bm hm.lt (fun g => d_hO_hm _ (hGF _ g) rfl))
      replace hOh := hOh.stp sw8 (fun c hc hn => frw8 c (hOh.lt c hc).2 hn)
      replace h6 := h6.stp sw8
      replace hF1 := fun b h => sw8.sub b (hF1 b h)
      replace hlow := sw8.low
      replace hB := Nat.le_trans hB sw8.upd.1
      refine ⟨⟨⟨_, hS⟩, h2.box.heap.trans D_h2.heap.symm⟩, ?_⟩
      have hO := hOh.put hq (fun c hc => (hq2 c hc).2.elim .inl (fun h => .inr (fun hf => by have := (lH c hf).2; omega)))
      replace hF1 : ∀ c, F1 c ∨ Fw8 c → Mw8 c := fun c h => h.elim (hF1 c) (fun h => (hq2 c h).1)
      replace dd_hr_hO : ∀ x y, kv.ownBlock = some x → (F1 y ∨ Fw8 y) → x ≠ y := fun x y hx hy => hy.elim (dd_hr_hO x y hx) (fun h => (hq2 y h).2.elim (fun g => dd_hr_hO x y hx (hGF y g)) (fun h => by have := (lr x hx).2; omega))
      replace d_hO_h4 : ∀ x, (F1 x ∨ Fw8 x) → x ≠ b4 := fun x hx => hx.elim (d_hO_h4 x) (fun h => (hq2 x h).2.elim (fun g => d_hO_h4 x (hGF x g)) (fun h => by have := l_h4; omega))
      replace d_hO_h2 : ∀ x, (F1 x ∨ Fw8 x) → x ≠ b2 := fun x hx => hx.elim (d_hO_h2 x) (fun h => (hq2 x h).2.elim (fun g => d_hO_h2 x (hGF x g)) (fun h => by have := l_h2; omega))
      replace d_hO_hm : ∀ x, (F1 x ∨ Fw8 x) → x ≠ bm := fun x hx => hx.elim (d_hO_hm x) (fun h => (hq2 x h).2.elim (fun g => d_hO_hm x (hGF x g)) (fun h => by have := l_hm; omega))
      replace hFn : ∀ c, (F1 c ∨ Fw8 c) → F c ∨ w.heap.size ≤ c := fun c hc => hc.elim (hFn c) (fun h => (hq2 c h).2.elim (fun g => hFn c (hGF c g)) (fun h => .inr (by have := hsz0; omega)))
      refine a_ixO 6 tbOk hr hui rfl rfl rfl rfl rfl rfl rfl rfl rfl rfl (by kernel_rfl) (fun _ _ _ _ h => h) ⟨⟨_, hS⟩, h2.box.heap.trans D_h2.heap.symm⟩ ?_
      intro ebz euz hobz hRz hatz
      refine a_one 7 rfl (by kernel_rfl) (o_stO tbOk hr hobz (by omega) hq.vn hlow rfl rfl rfl rfl rfl rfl ?_)
      intro w9 hw9 sw9 frw9
      replace hT := hT.then sw9
      replace hS := hS.then sw9
      replace hfr := hfr.stp sw9 (fun x hx => frw9 x (hfr.lt x hx).2 (fun e => dd_hr_hfr _ x hobz hx e.symm))
      replace h4 := h4.stp sw9 (frw9 b4 h4.lt (fun e => d_hr_h4 _ hobz e.symm))
      replace h2 := h2.stp sw9 (frw9 b2 h2.lt (fun e => d_hr_h2 _ hobz e.symm))
      replace hm := hm.stp sw9 (frw9 bm hm.lt (fun e => d_hr_hm _ hobz e.symm))
      replace hO := hO.stp sw9 (fun x hx => frw9 x (hO.lt x hx).2 (fun e => dd_hr_hO _ x hobz hx e.symm))
      replace h6 := h6.stp sw9
      replace hF1 := fun b h => sw9.sub b (hF1 b h)
      replace hlow := sw9.low
      replace hB := Nat.le_trans hB sw9.upd.1
      refine ⟨⟨⟨_, hS⟩, h2.box.heap.trans D_h2.heap.symm⟩, ?_⟩
      replace hr := hw9
      clear hw9
      refine a_end (by kernel_rfl) ?_
      refine x_blk (x_seq (c_reg ?_))
      refine l_cons (o_ar rfl rfl rfl (IntWalk.i64_in _ (by omega)) rfl rfl ?_)
      refine l_p 1 tbOk rfl (l_nil ?_)
      exact x_round4 (i + 1) (us.set i ⟨vq⟩) (Mw8) ((fun c => F1 c ∨ Fw8 c)) (s6 rfl rfl rfl rfl rfl rfl) ⟨by omega, hr, by rw [← mapTo_set hik]; exact hO, hF1, hFn, hfr, hT, hlow, hB, h4, h2, hm, dd_hr_hO, dd_hr_hfr, d_hr_hm, d_hO_hm, d_hr_h2, d_hO_h2, d_hfr_h2, d_hr_h4, d_hO_h4, d_hfr_h4⟩ (by omega)
    refine c_exit (x_seqE (x_seqE (x_blkE (x_seq (q0 ?_)))))
    refine l_cons (o_lds tbOk (fun j v hv => h2.cell j v hv) rfl rfl rfl rfl rfl rfl ?_)
    refine l_cons (o_st tbOk h4.box rfl rfl rfl rfl (own_ones hr) rfl rfl ?_)
    intro w10 hw10 qw10 bew10
    have uw10 : UpdB _ _ _ := ⟨qw10, bew10⟩
    have sw10 := uw10.stp h4.inM hlow h4.ge
    have frw10 := qw10.2
    replace hT := hT.then sw10
    replace hr := hr.stp sw10 (fun x hx => frw10 x (hr.lt x hx).2 (d_hr_h4 x hx))
    replace hO := hO.stp sw10 (fun x hx => frw10 x (hO.lt x hx).2 (d_hO_h4 x hx))
    replace hfr := hfr.stp sw10 (fun x hx => frw10 x (hfr.lt x hx).2 (d_hfr_h4 x hx))
    replace h2 := h2.stp sw10 (frw10 b2 h2.lt ne_h2_h4)
    replace hm := hm.stp sw10 (frw10 bm hm.lt ne_hm_h4)
    replace hF1 := fun b h => sw10.sub b (hF1 b h)
    replace hlow := sw10.low
    replace hB := Nat.le_trans hB sw10.upd.1
    replace h4 : MB B _ w10 b4 _ [.int .u8 t.op, .string t.name, .int .i64 ((getK m t.n).getD 0), kv] := ⟨hw10, h4.inM, h4.ge⟩
    refine q1 (c_ret ?_)
    refine x_ret1s tbOk (fun j v hv => h4.cell j v hv) rfl rfl rfl rfl rfl ?_
    have hnb : numB t.op = true := by clear ih; simp [numB, *]
    have hn2 : I64 ((getK m t.n).getD 0) := hmI _
    obtain rfl : i = t.kids.length := by omega
    rw [mapTo_all (Nat.le_refl _)] at hO
    refine ⟨_, fun c => kv.ownBlock = some c ∨ F1 c, ?_, fun c hc => hc.elim (fun h => ⟨hr.inM c h, .inl (hkF c h)⟩) (fun h => ⟨hF1 c h, hFn c h⟩), hT, hfr⟩
    rw [renF_eq, hnb]
    exact oty_mk op nm hn2 (by simpa using hl) (fun c hc => hc.elim (hr.lt c) (hO.lt c)) (hr.keepV (fun b hb => .inl hb) (fun _ _ _ _ _ => rfl)) hO (fun c hc => ⟨.inr hc, fun e => dd_hr_hO c c e hc rfl⟩)
  refine l_p 1 tbOk rfl ?_
  refine l_cons (o_ld tbOk (h2.cell 0 _ rfl) rfl rfl rfl rfl rfl ?_)
  refine l_p 2 tbOk rfl (q1 ?_)
  refine c_ifP _ rfl (fun c3 => ?_) (fun c3 => ?_)
  · refine c_reg (l_p 2 tbOk rfl ?_)
    refine l_cons (o_ld tbOk (h2.cell 2 _ rfl) rfl rfl rfl rfl rfl ?_)
    refine l_cons (o_look (z := 0) tbOk hm.map (k := t.n) rfl rfl rfl rfl ⟨_, Try.underlying3, rfl⟩ rfl rfl rfl rfl ?_)
    refine l_p 1 tbOk rfl ?_
    refine l_cons (o_st tbOk h2.box rfl rfl rfl rfl (by simp [Value.cells, Value.oneCell']) rfl rfl ?_)
    intro w11 hw11 qw11 bew11
    have uw11 : UpdB _ _ _ := ⟨qw11, bew11⟩
    have sw11 := uw11.stp h2.inM hlow h2.ge
    have frw11 := qw11.2
    replace hT := hT.then sw11
    replace hr := hr.stp sw11 (fun x hx => frw11 x (hr.lt x hx).2 (d_hr_h2 x hx))
    replace hO := hO.stp sw11 (fun x hx => frw11 x (hO.lt x hx).2 (d_hO_h2 x hx))
    replace hfr := hfr.stp sw11 (fun x hx => frw11 x (hfr.lt x hx).2 (d_hfr_h2 x hx))
    replace hm := hm.stp sw11 (frw11 bm hm.lt ne_hm_h2)
    replace h4 := h4.stp sw11 (frw11 b4 h4.lt ne_h2_h4.symm)
    replace hF1 := fun b h => sw11.sub b (hF1 b h)
    replace hlow := sw11.low
    replace hB := Nat.le_trans hB sw11.upd.1
    replace h2 : MB B _ w11 b2 _ [.int .u8 t.op, .string t.name, .int .i64 ((getK m t.n).getD 0), kv] := ⟨hw11, h2.inM, h2.ge⟩
    refine q1 (c_seq (q0 (l_p 1 tbOk rfl ?_)))
    refine l_cons (o_ld tbOk (h2.cell 3 _ rfl) rfl rfl rfl rfl rfl ?_)
    refine l_cons (o_lenO tbOk hr rfl rfl rfl rfl rfl ?_)
    refine l_p 1 tbOk rfl (q1 (c_blk ?_))
    refine c_loop4 (X := Nat) (Y := List (VN 3)) (Z := Nat → Prop) (U := Nat → Prop) (fun i us M1 F1 => [(1, .map (some bm)), (2, .pointer (some ⟨b2, 0, none⟩)), (4, .pointer (some ⟨b4, 0, none⟩)), (21, kv), (22, .int .i64 (t.kids.length : Int)), (23, .int .i64 (i : Nat))]) (fun i us M1 F1 w' => i ≤ t.kids.length ∧ OwnSl 25 B M1 w' kv us ∧ OTs 25 B w' us (mapTo (renF (fun n => (getK m n).getD 0)) t.kids i) F1 ∧ (∀ c, F1 c → M1 c) ∧ (∀ c, F1 c → F c ∨ w.heap.size ≤ c) ∧ Kept w w' (Out F w) ∧ Stp B M M1 w w' ∧ Low M1 w' ∧ B ≤ w'.heap.size ∧ MB B M1 w' b4 25 [.int .u8 0, .string ⟨#[]⟩, .int .i64 0, .slice none 0 0] ∧ MB B M1 w' b2 25 [.int .u8 t.op, .string t.name, .int .i64 ((getK m t.n).getD 0), kv] ∧ OM (κ := Int) (fun x : Int => Value.int .i64 x) B M1 w' bm m ∧ (∀ x y, (kv : Value).ownBlock = some x → F1 y → x ≠ y) ∧ (∀ x y, (kv : Value).ownBlock = some x → (Out F w) y → x ≠ y) ∧ (∀ x, (kv : Value).ownBlock = some x → x ≠ bm) ∧ (∀ x, F1 x → x ≠ bm) ∧ (∀ x, (kv : Value).ownBlock = some x → x ≠ b2) ∧ (∀ x, F1 x → x ≠ b2) ∧ (∀ x, (Out F w) x → x ≠ b2) ∧ (∀ x, (kv : Value).ownBlock = some x → x ≠ b4) ∧ (∀ x, F1 x → x ≠ b4) ∧ (∀ x, (Out F w) x → x ≠ b4)) (fun i us M1 F1 => t.kids.length - i) (0) (us) ((Rw.Add (Rw.Add M b2) b4)) (H) (s6 rfl rfl rfl rfl (get_num rfl (by omega)) rfl) ?_ ?_
    · refine ⟨Nat.zero_le _, ?_⟩
      rw [mapTo_zero]
      exact ⟨hr, hO, hF1, hFn, hfr, hT, hlow, hB, h4, h2, hm, dd_hr_hO, dd_hr_hfr, d_hr_hm, d_hO_hm, d_hr_h2, d_hO_h2, d_hfr_h2, d_hr_h4, d_hO_h4, d_hfr_h4⟩
    clear hF1 hFn hfr hT dd_hr_hO dd_hr_hfr d_hr_hm d_hO_hm d_hr_h2 d_hO_h2 d_hfr_h2 d_hr_h4 d_hO_h4 d_hfr_h4 hul
    rintro i us M1 F1 w12 ⟨hi, hr, hO, hF1, hFn, hfr, hT, hlow, hB, h4, h2, hm, dd_hr_hO, dd_hr_hfr, d_hr_hm, d_hO_hm, d_hr_h2, d_hO_h2, d_hfr_h2, d_hr_h4, d_hO_h4, d_hfr_h4⟩
    have hul := hO.len
    rw [mapTo_len] at hul
    refine q0 (l_p 1 tbOk rfl (q1 (c_seq ?_)))
    refine c_ifP _ rfl (fun c4 => ?_) (fun c4 => ?_)
    · refine c_skip (x_seq (c_seq (c_blk (q0 (l_p 1 tbOk rfl ?_)))))
      have hik : i < t.kids.length := by omega
      obtain ⟨⟨uv⟩, G, hui, hx, hGF, hOh⟩ := hO.take (mapTo_get hik)
      refine l_cons (o_ixO tbOk hr hui rfl rfl rfl rfl rfl rfl rfl rfl rfl ?_)
      intro ebx eux hobx hRx hatx
      obtain ⟨e0, _⟩ := hRx
      replace e0 : eux = uv := e0
      subst e0
      obtain ⟨kvx, usx, Hx, rfl, opx, nmx, n64x, hlx, hrx, hOx, hHx⟩ := oty_open hx
      replace hatx : OAt _ _ _ [.int .u8 t.kids[i].op, .string t.kids[i].name, .int .i64 t.kids[i].n, kvx] := hatx
      refine l_cons (o_lds tbOk (fun j v hv => hatx.cell j v hv) rfl rfl rfl rfl rfl rfl ?_)
      refine l_cons (o_new tbOk rfl rfl rfl ?_)
      intro b6 w13 qb6 ew13 hb6
      have nb6 := nM_of hlow qb6
      refine l_p 1 tbOk rfl ?_
      refine l_cons (o_st tbOk hb6 rfl rfl rfl rfl hx.one rfl rfl ?_)
      intro w14 h6 uw14 bew14
      have ew14 : Ext w12 w14 := ew13.trans (bew14 _ (Nat.le_of_eq qb6.symm))
      replace hT := hT.then (Stp.ext ew14 hlow hB)
      replace hr := hr.ext hlow hB ew14
      replace hfr := hfr.ext hlow hB ew14
      replace h4 := h4.ext hlow hB ew14
      replace h2 := h2.ext hlow hB ew14
      replace hm := hm.ext hlow hB ew14
      replace hOh := hOh.ext hlow hB ew14
      replace hx := hx.ext hlow hB ew14
      replace hlow := hlow.ext ew14
      replace hB := Nat.le_trans hB ew14.size
      replace h6 : Box w14 b6 25 [.int .u8 t.kids[i].op, .string t.kids[i].name, .int .i64 t.kids[i].n, kvx] := h6
      replace h6 := h6.at nb6
      refine q1 ?_
      refine a_beg (Sof2 B M1 b2) rfl ?_
      intro w15 ew15
      replace hT := hT.then (Stp.ext ew15 hlow hB)
      replace hr := hr.ext hlow hB ew15
      replace hfr := hfr.ext hlow hB ew15
      replace h4 := h4.ext hlow hB ew15
      replace h2 := h2.ext hlow hB ew15
      replace hm := hm.ext hlow hB ew15
      replace hOh := hOh.ext hlow hB ew15
      replace hx := hx.ext hlow hB ew15
      replace h6 := h6.ext ew15
      replace hlow := hlow.ext ew15
      replace hB := Nat.le_trans hB ew15.size
      have hS : Stp B M1 M1 w15 w15 := Stp.refl hlow
      have D_h4 := h4.box
      have D_h2 := h2.box
      have D_h6 := h6
      refine a_p 0 tbOk rfl rfl rfl rfl (by kernel_rfl) (fun _ _ _ h => h) ⟨⟨_, hS⟩, h2.box.heap.trans D_h2.heap.symm⟩ ?_
      refine a_ld 1 tbOk (fun _ hs => (D_h2.so2 hs).cell 3 _ rfl) rfl rfl rfl rfl rfl rfl (by kernel_rfl) (fun _ _ _ h => h) ⟨⟨_, hS⟩, h2.box.heap.trans D_h2.heap.symm⟩ ?_
      refine a_p 2 tbOk rfl rfl rfl rfl (by kernel_rfl) (fun _ _ _ h => h) ⟨⟨_, hS⟩, h2.box.heap.trans D_h2.heap.symm⟩ ?_
      refine a_lds 3 tbOk (fun _ hs j v hv => (D_h6.so2 hs).cell j v hv) rfl rfl rfl rfl rfl rfl rfl (by kernel_rfl) (fun _ _ _ h => h) ⟨⟨_, hS⟩, h2.box.heap.trans D_h2.heap.symm⟩ ?_
      refine a_p 4 tbOk rfl rfl rfl rfl (by kernel_rfl) (fun _ _ _ h => h) ⟨⟨_, hS⟩, h2.box.heap.trans D_h2.heap.symm⟩ ?_
      have l_h4 := h4.lt
      have l_h2 := h2.lt
      have l_hm := hm.lt
      have hsz0 := hT.upd.1
      have lH := hOh.lt
      have lr := hr.lt
      refine a_one 5 rfl (by kernel_rfl) (o_call fo79 rfl rfl rfl (ih _ (List.getElem_mem hik) m _ _ B _ G bm hx (fun c hc => hF1 c (hGF c hc)) hm (fun g => d_hO_hm _ (hGF _ g) rfl) hmI hlow hB) ?_)
      rintro vq w16 ⟨Mw16, Fw16, hq, hq2, sw16, kw16⟩
      have frw16 : ∀ x, x < w15.heap.size → ¬ G x → w16.heap[x]? = w15.heap[x]? := fun x hx hg => kw16.blk x ⟨hx, hg⟩
      replace hT := hT.then sw16
      replace hS := hS.then sw16
      replace hr := hr.stp sw16 (fun x hx => frw16 x (hr.lt x hx).2 (fun g => dd_hr_hO x x hx (hGF x g) rfl))
      replace hfr := hfr.stp sw16 (fun x hx => frw16 x (hfr.lt x hx).2 (fun g => (hFn x (hGF x g)).elim hx.2 (fun h => by have := hx.1; have := hfr.size; omega)))
      replace h4 := h4.stp sw16 (frw16 b4 h4.lt (fun g => d_hO_h4 _ (hGF _ g) rfl))
      replace h2 := h2.stp sw16 (frw16 b2 h2.lt (fun g => d_hO_h2 _ (hGF _ g) rfl))
      replace hm := hm.stp sw16 (frw16 bm hm.lt (fun g => d_hO_hm _ (hGF _ g) rfl))
      replace hOh := hOh.stp sw16 (fun c hc hn => frw16 c (hOh.lt c hc).2 hn)
      replace h6 := h6.stp sw16
      replace hF1 := fun b h => sw16.sub b (hF1 b h)
      replace hlow := sw16.low
      replace hB := Nat.le_trans hB sw16.upd.1
      refine ⟨⟨⟨_, hS⟩, h2.box.heap.trans D_h2.heap.symm⟩, ?_⟩
      have hO := hOh.put hq (fun c hc => (hq2 c hc).2.elim .inl (fun h => .inr (fun hf => by have := (lH c hf).2; omega)))
      replace hF1 : ∀ c, F1 c ∨ Fw16 c → Mw16 c := fun c h => h.elim (hF1 c) (fun h => (hq2 c h).1)
      replace dd_hr_hO : ∀ x y, kv.ownBlock = some x → (F1 y ∨ Fw16 y) → x ≠ y := fun x y hx hy => hy.elim (dd_hr_hO x y hx) (fun h => (hq2 y h).2.elim (fun g => dd_hr_hO x y hx (hGF y g)) (fun h => by have := (lr x hx).2; omega))
      replace d_hO_h4 : ∀ x, (F1 x ∨ Fw16 x) → x ≠ b4 := fun x hx => hx.elim (d_hO_h4 x) (fun h => (hq2 x h).2.elim (fun g => d_hO_h4 x (hGF x g)) (fun h => by have := l_h4; omega))
      replace d_hO_h2 : ∀ x, (F1 x ∨ Fw16 x) → x ≠ b2 := fun x hx => hx.elim (d_hO_h2 x) (fun h => (hq2 x h).2.elim (fun g => d_hO_h2 x (hGF x g)) (fun h => by have := l_h2; omega))
      replace d_hO_hm : ∀ x, (F1 x ∨ Fw16 x) → x ≠ bm := fun x hx => hx.elim (d_hO_hm x) (fun h => (hq2 x h).2.elim (fun g => d_hO_hm x (hGF x g)) (fun h => by have := l_hm; omega))
      replace hFn : ∀ c, (F1 c ∨ Fw16 c) → F c ∨ w.heap.size ≤ c := fun c hc => hc.elim (hFn c) (fun h => (hq2 c h).2.elim (fun g => hFn c (hGF c g)) (fun h => .inr (by have := hsz0; omega)))
      refine a_ixO 6 tbOk hr hui rfl rfl rfl rfl rfl rfl rfl rfl rfl rfl (by kernel_rfl) (fun _ _ _ _ h => h) ⟨⟨_, hS⟩, h2.box.heap.trans D_h2.heap.symm⟩ ?_
      intro ebz euz hobz hRz hatz
      refine a_one 7 rfl (by kernel_rfl) (o_stO tbOk hr hobz (by omega) hq.vn hlow rfl rfl rfl rfl rfl rfl ?_)
      intro w17 hw17 sw17 frw17
      replace hT := hT.then sw17
      replace hS := hS.then sw17
      replace hfr := hfr.stp sw17 (fun x hx => frw17 x (hfr.lt x hx).2 (fun e => dd_hr_hfr _ x hobz hx e.symm))
      replace h4 := h4.stp sw17 (frw17 b4 h4.lt (fun e => d_hr_h4 _ hobz e.symm))
      replace h2 := h2.stp sw17 (frw17 b2 h2.lt (fun e => d_hr_h2 _ hobz e.symm))
      replace hm := hm.stp sw17 (frw17 bm hm.lt (fun e => d_hr_hm _ hobz e.symm))
      replace hO := hO.stp sw17 (fun x hx => frw17 x (hO.lt x hx).2 (fun e => dd_hr_hO _ x hobz hx e.symm))
      replace h6 := h6.stp sw17
      replace hF1 := fun b h => sw17.sub b (hF1 b h)
      replace hlow := sw17.low
      replace hB := Nat.le_trans hB sw17.upd.1
      refine ⟨⟨⟨_, hS⟩, h2.box.heap.trans D_h2.heap.symm⟩, ?_⟩
      replace hr := hw17
      clear hw17
      refine a_end (by kernel_rfl) ?_
      refine x_blk (x_seq (c_reg ?_))
      refine l_cons (o_ar rfl rfl rfl (IntWalk.i64_in _ (by omega)) rfl rfl ?_)
      refine l_p 1 tbOk rfl (l_nil ?_)
      exact x_round4 (i + 1) (us.set i ⟨vq⟩) (Mw16) ((fun c => F1 c ∨ Fw16 c)) (s6 rfl rfl rfl rfl rfl rfl) ⟨by omega, hr, by rw [← mapTo_set hik]; exact hO, hF1, hFn, hfr, hT, hlow, hB, h4, h2, hm, dd_hr_hO, dd_hr_hfr, d_hr_hm, d_hO_hm, d_hr_h2, d_hO_h2, d_hfr_h2, d_hr_h4, d_hO_h4, d_hfr_h4⟩ (by omega)
    refine c_exit (x_seqE (x_seqE (x_blkE (x_seq (q0 ?_)))))
    refine l_cons (o_lds tbOk (fun j v hv => h2.cell j v hv) rfl rfl rfl rfl rfl rfl ?_)
    refine l_cons (o_st tbOk h4.box rfl rfl rfl rfl (own_ones hr) rfl rfl ?_)
    intro w18 hw18 qw18 bew18
    have uw18 : UpdB _ _ _ := ⟨qw18, bew18⟩
    have sw18 := uw18.stp h4.inM hlow h4.ge
    have frw18 := qw18.2
    replace hT := hT.then sw18
    replace hr := hr.stp sw18 (fun x hx => frw18 x (hr.lt x hx).2 (d_hr_h4 x hx))
    replace hO := hO.stp sw18 (fun x hx => frw18 x (hO.lt x hx).2 (d_hO_h4 x hx))
    replace hfr := hfr.stp sw18 (fun x hx => frw18 x (hfr.lt x hx).2 (d_hfr_h4 x hx))
    replace h2 := h2.stp sw18 (frw18 b2 h2.lt ne_h2_h4)
    replace hm := hm.stp sw18 (frw18 bm hm.lt ne_hm_h4)
    replace hF1 := fun b h => sw18.sub b (hF1 b h)
    replace hlow := sw18.low
    replace hB := Nat.le_trans hB sw18.upd.1
    replace h4 : MB B _ w18 b4 _ [.int .u8 t.op, .string t.name, .int .i64 ((getK m t.n).getD 0), kv] := ⟨hw18, h4.inM, h4.ge⟩
    refine q1 (c_ret ?_)
    refine x_ret1s tbOk (fun j v hv => h4.cell j v hv) rfl rfl rfl rfl rfl ?_
    have hnb : numB t.op = true := by clear ih; simp [numB, *]
    have hn2 : I64 ((getK m t.n).getD 0) := hmI _
    obtain rfl : i = t.kids.length := by omega
    rw [mapTo_all (Nat.le_refl _)] at hO
    refine ⟨_, fun c => kv.ownBlock = some c ∨ F1 c, ?_, fun c hc => hc.elim (fun h => ⟨hr.inM c h, .inl (hkF c h)⟩) (fun h => ⟨hF1 c h, hFn c h⟩), hT, hfr⟩
    rw [renF_eq, hnb]
    exact oty_mk op nm hn2 (by simpa using hl) (fun c hc => hc.elim (hr.lt c) (hO.lt c)) (hr.keepV (fun b hb => .inl hb) (fun _ _ _ _ _ => rfl)) hO (fun c hc => ⟨.inr hc, fun e => dd_hr_hO c c e hc rfl⟩)
  refine c_skip (x_seq (c_seq (q0 (l_p 1 tbOk rfl ?_))))
  refine l_cons (o_ld tbOk (h2.cell 3 _ rfl) rfl rfl rfl rfl rfl ?_)
  refine l_cons (o_lenO tbOk hr rfl rfl rfl rfl rfl ?_)
  refine l_p 1 tbOk rfl (q1 (c_blk ?_))
  refine c_loop4 (X := Nat) (Y := List (VN 3)) (Z := Nat → Prop) (U := Nat → Prop) (fun i us M1 F1 => [(1, .map (some bm)), (2, .pointer (some ⟨b2, 0, none⟩)), (4, .pointer (some ⟨b4, 0, none⟩)), (21, kv), (22, .int .i64 (t.kids.length : Int)), (23, .int .i64 (i : Nat))]) (fun i us M1 F1 w' => i ≤ t.kids.length ∧ OwnSl 25 B M1 w' kv us ∧ OTs 25 B w' us (mapTo (renF (fun n => (getK m n).getD 0)) t.kids i) F1 ∧ (∀ c, F1 c → M1 c) ∧ (∀ c, F1 c → F c ∨ w.heap.size ≤ c) ∧ Kept w w' (Out F w) ∧ Stp B M M1 w w' ∧ Low M1 w' ∧ B ≤ w'.heap.size ∧ MB B M1 w' b4 25 [.int .u8 0, .string ⟨#[]⟩, .int .i64 0, .slice none 0 0] ∧ MB B M1 w' b2 25 [.int .u8 t.op, .string t.name, .int .i64 t.n, kv] ∧ OM (κ := Int) (fun x : Int => Value.int .i64 x) B M1 w' bm m ∧ (∀ x y, (kv : Value).ownBlock = some x → F1 y → x ≠ y) ∧ (∀ x y, (kv : Value).ownBlock = some x → (Out F w) y → x ≠ y) ∧ (∀ x, (kv : Value).ownBlock = some x → x ≠ bm) ∧ (∀ x, F1 x → x ≠ bm) ∧ (∀ x, (kv : Value).ownBlock = some x → x ≠ b2) ∧ (∀ x, F1 x → x ≠ b2) ∧ (∀ x, (Out F w) x → x ≠ b2) ∧ (∀ x, (kv : Value).ownBlock = some x → x ≠ b4) ∧ (∀ x, F1 x → x ≠ b4) ∧ (∀ x, (Out F w) x → x ≠ b4)) (fun i us M1 F1 => t.kids.length - i) (0) (us) ((Rw.Add (Rw.Add M b2) b4)) (H) (s6 rfl rfl rfl rfl (get_num rfl (by omega)) rfl) ?_ ?_
  · refine ⟨Nat.zero_le _, ?_⟩
    rw [mapTo_zero]
    exact ⟨hr, hO, hF1, hFn, hfr, hT, hlow, hB, h4, h2, hm, dd_hr_hO, dd_hr_hfr, d_hr_hm, d_hO_hm, d_hr_h2, d_hO_h2, d_hfr_h2, d_hr_h4, d_hO_h4, d_hfr_h4⟩
  clear hF1 hFn hfr hT dd_hr_hO dd_hr_hfr d_hr_hm d_hO_hm d_hr_h2 d_hO_h2 d_hfr_h2 d_hr_h4 d_hO_h4 d_hfr_h4 hul
  rintro i us M1 F1 w19 ⟨hi, hr, hO, hF1, hFn, hfr, hT, hlow, hB, h4, h2, hm, dd_hr_hO, dd_hr_hfr, d_hr_hm, d_hO_hm, d_hr_h2, d_hO_h2, d_hfr_h2, d_hr_h4, d_hO_h4, d_hfr_h4⟩
  have hul := hO.len
  rw [mapTo_len] at hul
  refine q0 (l_p 1 tbOk rfl (q1 (c_seq ?_)))
  refine c_ifP _ rfl (fun c5 => ?_) (fun c5 => ?_)
  · refine c_skip (x_seq (c_seq (c_blk (q0 (l_p 1 tbOk rfl ?_)))))
    have hik : i < t.kids.length := by omega
    obtain ⟨⟨uv⟩, G, hui, hx, hGF, hOh⟩ := hO.take (mapTo_get hik)
    refine l_cons (o_ixO tbOk hr hui rfl rfl rfl rfl rfl rfl rfl rfl rfl ?_)
    intro ebx eux hobx hRx hatx
    obtain ⟨e0, _⟩ := hRx
    replace e0 : eux = uv := e0
    subst e0
    obtain ⟨kvx, usx, Hx, rfl, opx, nmx, n64x, hlx, hrx, hOx, hHx⟩ := oty_open hx
    replace hatx : OAt _ _ _ [.int .u8 t.kids[i].op, .string t.kids[i].name, .int .i64 t.kids[i].n, kvx] := hatx
    refine l_cons (o_lds tbOk (fun j v hv => hatx.cell j v hv) rfl rfl rfl rfl rfl rfl ?_)
    refine l_cons (o_new tbOk rfl rfl rfl ?_)
    intro b6 w20 qb6 ew20 hb6
    have nb6 := nM_of hlow qb6
    refine l_p 1 tbOk rfl ?_
    refine l_cons (o_st tbOk hb6 rfl rfl rfl rfl hx.one rfl rfl ?_)
    intro w21 h6 uw21 bew21
    have ew21 : Ext w19 w21 := ew20.trans (bew21 _ (Nat.le_of_eq qb6.symm))
    replace hT := hT.then (Stp.ext ew21 hlow hB)
    replace hr := hr.ext hlow hB ew21
    replace hfr := hfr.ext hlow hB ew21
    replace h4 := h4.ext hlow hB ew21
    replace h2 := h2.ext hlow hB ew21
    replace hm := hm.ext hlow hB ew21
    replace hOh := hOh.ext hlow hB ew21
    replace hx := hx.ext hlow hB ew21
    replace hlow := hlow.ext ew21
    replace hB := Nat.le_trans hB ew21.size
    replace h6 : Box w21 b6 25 [.int .u8 t.kids[i].op, .string t.kids[i].name, .int .i64 t.kids[i].n, kvx] := h6
    replace h6 := h6.at nb6
    refine q1 ?_
    refine a_beg (Sof2 B M1 b2) rfl ?_
    intro w22 ew22
    replace hT := hT.then (Stp.ext ew22 hlow hB)
    replace hr := hr.ext hlow hB ew22
    replace hfr := hfr.ext hlow hB ew22
    replace h4 := h4.ext hlow hB ew22
    replace h2 := h2.ext hlow hB ew22
    replace hm := hm.ext hlow hB ew22
    replace hOh := hOh.ext hlow hB ew22
    replace hx := hx.ext hlow hB ew22
    replace h6 := h6.ext ew22
    replace hlow := hlow.ext ew22
    replace hB := Nat.le_trans hB ew22.size
    have hS : Stp B M1 M1 w22 w22 := Stp.refl hlow
    have D_h4 := h4.box
    have D_h2 := h2.box
    have D_h6 := h6
    refine a_p 0 tbOk rfl rfl rfl rfl (by kernel_rfl) (fun _ _ _ h => h) ⟨⟨_, hS⟩, h2.box.heap.trans D_h2.heap.symm⟩ ?_
    refine a_ld 1 tbOk (fun _ hs => (D_h2.so2 hs).cell 3 _ rfl) rfl rfl rfl rfl rfl rfl (by kernel_rfl) (fun _ _ _ h => h) ⟨⟨_, hS⟩, h2.box.heap.trans D_h2.heap.symm⟩ ?_
    refine a_p 2 tbOk rfl rfl rfl rfl (by kernel_rfl) (fun _ _ _ h => h) ⟨⟨_, hS⟩, h2.box.heap.trans D_h2.heap.symm⟩ ?_
    refine a_lds 3 tbOk (fun _ hs j v hv => (D_h6.so2 hs).cell j v hv) rfl rfl rfl rfl rfl rfl rfl (by kernel_rfl) (fun _ _ _ h => h) ⟨⟨_, hS⟩, h2.box.heap.trans D_h2.heap.symm⟩ ?_
    refine a_p 4 tbOk rfl rfl rfl rfl (by kernel_rfl) (fun _ _ _ h => h) ⟨⟨_, hS⟩, h2.box.heap.trans D_h2.heap.symm⟩ ?_
    have l_h4 := h4.lt
    have l_h2 := h2.lt
    have l_hm := hm.lt
    have hsz0 := hT.upd.1
    have lH := hOh.lt
    have lr := hr.lt
    refine a_one 5 rfl (by kernel_rfl) (o_call fo79 rfl rfl rfl (ih _ (List.getElem_mem hik) m _ _ B _ G bm hx (fun c hc => hF1 c (hGF c hc)) hm (fun g => d_hO_hm _ (hGF _ g) rfl) hmI hlow hB) ?_)
    rintro vq w23 ⟨Mw23, Fw23, hq, hq2, sw23, kw23⟩
    have frw23 : ∀ x, x < w22.heap.size → ¬ G x → w23.heap[x]? = w22.heap[x]? := fun x hx hg => kw23.blk x ⟨hx, hg⟩
    replace hT := hT.then sw23
    replace hS := hS.then sw23
    replace hr := hr.stp sw23 (fun x hx => frw23 x (hr.lt x hx).2 (fun g => dd_hr_hO x x hx (hGF x g) rfl))
    replace hfr := hfr.stp sw23 (fun x hx => frw23 x (hfr.lt x hx).2 (fun g => (hFn x (hGF x g)).elim hx.2 (fun h => by have := hx.1; have := hfr.size; omega)))
    replace h4 := h4.stp sw23 (frw23 b4 h4.lt (fun g => d_hO_h4 _ (hGF _ g) rfl))
    replace h2 := h2.stp sw23 (frw23 b2 h2.lt (fun g => d_hO_h2 _ (hGF _ g) rfl))
    replace hm := hm.stp sw23 (frw23 bm hm.lt (fun g => d_hO_hm _ (hGF _ g) rfl))
    replace hOh := hOh.stp sw23 (fun c hc hn => frw23 c (hOh.lt c hc).2 hn)
    replace h6 := h6.stp sw23
    replace hF1 := fun b h => sw23.sub b (hF1 b h)
    replace hlow := sw23.low
    replace hB := Nat.le_trans hB sw23.upd.1
    refine ⟨⟨⟨_, hS⟩, h2.box.heap.trans D_h2.heap.symm⟩, ?_⟩
    have hO := hOh.put hq (fun c hc => (hq2 c hc).2.elim .inl (fun h => .inr (fun hf => by have := (lH c hf).2; omega)))
    replace hF1 : ∀ c, F1 c ∨ Fw23 c → Mw23 c := fun c h => h.elim (hF1 c) (fun h => (hq2 c h).1)
    replace dd_hr_hO : ∀ x y, kv.ownBlock = some x → (F1 y ∨ Fw23 y) → x ≠ y := fun x y hx hy => hy.elim (dd_hr_hO x y hx) (fun h => (hq2 y h).2.elim (fun g => dd_hr_hO x y hx (hGF y g)) (fun h => by have := (lr x hx).2; omega))
    replace d_hO_h4 : ∀ x, (F1 x ∨ Fw23 x) → x ≠ b4 := fun x hx => hx.elim (d_hO_h4 x) (fun h => (hq2 x h).2.elim (fun g => d_hO_h4 x (hGF x g)) (fun h => by have := l_h4; omega))
    replace d_hO_h2 : ∀ x, (F1 x ∨ Fw23 x) → x ≠ b2 := fun x hx => hx.elim (d_hO_h2 x) (fun h => (hq2 x h).2.elim (fun g => d_hO_h2 x (hGF x g)) (fun h => by have := l_h2; omega))
    replace d_hO_hm : ∀ x, (F1 x ∨ Fw23 x) → x ≠ bm := fun x hx => hx.elim (d_hO_hm x) (fun h => (hq2 x h).2.elim (fun g => d_hO_hm x (hGF x g)) (fun h => by have := l_hm; omega))
    replace hFn : ∀ c, (F1 c ∨ Fw23 c) → F c ∨ w.heap.size ≤ c := fun c hc => hc.elim (hFn c) (fun h => (hq2 c h).2.elim (fun g => hFn c (hGF c g)) (fun h => .inr (by have := hsz0; omega)))
    refine a_ixO 6 tbOk hr hui rfl rfl rfl rfl rfl rfl rfl rfl rfl rfl (by kernel_rfl) (fun _ _ _ _ h => h) ⟨⟨_, hS⟩, h2.box.heap.trans D_h2.heap.symm⟩ ?_
    intro ebz euz hobz hRz hatz
    refine a_one 7 rfl (by kernel_rfl) (o_stO tbOk hr hobz (by omega) hq.vn hlow rfl rfl rfl rfl rfl rfl ?_)
    intro w24 hw24 sw24 frw24
    replace hT := hT.then sw24
    replace hS := hS.then sw24
    replace hfr := hfr.stp sw24 (fun x hx => frw24 x (hfr.lt x hx).2 (fun e => dd_hr_hfr _ x hobz hx e.symm))
    replace h4 := h4.stp sw24 (frw24 b4 h4.lt (fun e => d_hr_h4 _ hobz e.symm))
    replace h2 := h2.stp sw24 (frw24 b2 h2.lt (fun e => d_hr_h2 _ hobz e.symm))
    replace hm := hm.stp sw24 (frw24 bm hm.lt (fun e => d_hr_hm _ hobz e.symm))
    replace hO := hO.stp sw24 (fun x hx => frw24 x (hO.lt x hx).2 (fun e => dd_hr_hO _ x hobz hx e.symm))
    replace h6 := h6.stp sw24
    replace hF1 := fun b h => sw24.sub b (hF1 b h)
    replace hlow := sw24.low
    replace hB := Nat.le_trans hB sw24.upd.1
    refine ⟨⟨⟨_, hS⟩, h2.box.heap.trans D_h2.heap.symm⟩, ?_⟩
    replace hr := hw24
    clear hw24
    refine a_end (by kernel_rfl) ?_
    refine x_blk (x_seq (c_reg ?_))
    refine l_cons (o_ar rfl rfl rfl (IntWalk.i64_in _ (by omega)) rfl rfl ?_)
    refine l_p 1 tbOk rfl (l_nil ?_)
    exact x_round4 (i + 1) (us.set i ⟨vq⟩) (Mw23) ((fun c => F1 c ∨ Fw23 c)) (s6 rfl rfl rfl rfl rfl rfl) ⟨by omega, hr, by rw [← mapTo_set hik]; exact hO, hF1, hFn, hfr, hT, hlow, hB, h4, h2, hm, dd_hr_hO, dd_hr_hfr, d_hr_hm, d_hO_hm, d_hr_h2, d_hO_h2, d_hfr_h2, d_hr_h4, d_hO_h4, d_hfr_h4⟩ (by omega)
  refine c_exit (x_seqE (x_seqE (x_blkE (x_seq (q0 ?_)))))
  refine l_cons (o_lds tbOk (fun j v hv => h2.cell j v hv) rfl rfl rfl rfl rfl rfl ?_)
  refine l_cons (o_st tbOk h4.box rfl rfl rfl rfl (own_ones hr) rfl rfl ?_)
  intro w25 hw25 qw25 bew25
  have uw25 : UpdB _ _ _ := ⟨qw25, bew25⟩
  have sw25 := uw25.stp h4.inM hlow h4.ge
  have frw25 := qw25.2
  replace hT := hT.then sw25
  replace hr := hr.stp sw25 (fun x hx => frw25 x (hr.lt x hx).2 (d_hr_h4 x hx))
  replace hO := hO.stp sw25 (fun x hx => frw25 x (hO.lt x hx).2 (d_hO_h4 x hx))
  replace hfr := hfr.stp sw25 (fun x hx => frw25 x (hfr.lt x hx).2 (d_hfr_h4 x hx))
  replace h2 := h2.stp sw25 (frw25 b2 h2.lt ne_h2_h4)
  replace hm := hm.stp sw25 (frw25 bm hm.lt ne_hm_h4)
  replace hF1 := fun b h => sw25.sub b (hF1 b h)
  replace hlow := sw25.low
  replace hB := Nat.le_trans hB sw25.upd.1
  replace h4 : MB B _ w25 b4 _ [.int .u8 t.op, .string t.name, .int .i64 t.n, kv] := ⟨hw25, h4.inM, h4.ge⟩
  refine q1 (c_ret ?_)
  refine x_ret1s tbOk (fun j v hv => h4.cell j v hv) rfl rfl rfl rfl rfl ?_
  have hnb : numB t.op = false := by clear ih; simp [numB, *]
  have hn2 : I64 t.n := n64
  obtain rfl : i = t.kids.length := by omega
  rw [mapTo_all (Nat.le_refl _)] at hO
  refine ⟨_, fun c => kv.ownBlock = some c ∨ F1 c, ?_, fun c hc => hc.elim (fun h => ⟨hr.inM c h, .inl (hkF c h)⟩) (fun h => ⟨hF1 c h, hFn c h⟩), hT, hfr⟩
  rw [renF_eq, hnb]
  exact oty_mk op nm hn2 (by simpa using hl) (fun c hc => hc.elim (hr.lt c) (hO.lt c)) (hr.keepV (fun b hb => .inl hb) (fun _ _ _ _ _ => rfl)) hO (fun c hc => ⟨.inr hc, fun e => dd_hr_hO c c e hc rfl⟩)

end Go.Proofs.Ytpoahmeacjggfaa
