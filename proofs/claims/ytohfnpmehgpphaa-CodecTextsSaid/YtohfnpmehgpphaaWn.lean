/- Walks: variables of types. Printed by wip/walks/kinds17.py. -/
import Derived.Test.YtohfnpmehgpphaaWk
import Derived.Test.YtohfnpmehgpphaaPlainE
namespace Go.Proofs.Ytohfnpmehgpphaa
open Go Rw Go.RowKit
set_option maxRecDepth 100000

/-- each: a function is called with each part, from the outside to the inside. -/
theorem each_spec (g : Nat) (caps : List Value) (B N : Nat) (I : (Nat → Prop) → List Ty → World → Prop) (hg : FnOk Try.prog g) (hx : ∀ M acc w w', I M acc w → Ext w w' → I M acc w') (hI : ∀ M acc w, I M acc w → Low M w ∧ B ≤ w.heap.size)
    (hdo : ∀ (M : Nat → Prop) acc w u x, acc.length < N → I M acc w → Rep.R M w u x → Calls Try.prog g ([u] ++ caps).toArray w (Ret fun r w' => r = .tuple #[] ∧ ∃ M', I M' (acc ++ [x]) w' ∧ Stp B M M' w w')) :
    ∀ (t : Ty) (M : Nat → Prop) (acc : List Ty) (w : World) (v : Value), acc.length + psz t ≤ N → I M acc w → Rep.R M w v t → Calls Try.prog 155 #[v, .func (.func g) #[] caps.toArray] w (Ret fun r w' => r = .tuple #[] ∧ ∃ M', I M' (acc ++ partsL t) w' ∧ Stp B M M' w w') := by
  refine Ty.ind fun t ih => ?_
  intro M acc w v hN hI0 ht
  obtain ⟨hlow, hB⟩ := hI _ _ _ hI0
  have hT : Stp B M M w w := Stp.refl hlow
  have hps := psz_eq t
  have hkl := len_psz t.kids
  obtain ⟨kv, rfl, op, nm, n64, hk⟩ := ty_open ht
  have hlt := hk.lt
  refine c_enter (n := 20) Try.func155 rfl rfl rfl ?_
  refine q0 ?_
  refine l_cons (o_box rfl rfl rfl ?_)
  intro b2 w1 hb_b2 ew1 h2
  replace h2 : Box _ b2 40 [.int .u8 t.op, .string t.name, .int .i64 t.n, kv] := h2
  replace h2 := h2.at (nM_of hlow hb_b2)
  replace hI0 := hx _ _ _ _ hI0 ew1
  replace hT := hT.then (Stp.ext ew1 hlow hB)
  replace ht := Rep.ext ht ew1
  replace hk := hk.ext ew1
  replace hlow := hlow.ext ew1
  replace hB := Nat.le_trans hB ew1.size
  refine q1 (q0 (l_p 1 tbOk rfl ?_))
  refine l_cons (o_lds tbOk (fun j v hv => h2.cell j v hv) rfl rfl rfl rfl rfl rfl ?_)
  refine l_cons (o_dyn rfl hg rfl rfl rfl (hdo _ _ _ _ _ (by omega) hI0 ht) ?_)
  rintro _ w2 ⟨rfl, Mw2, hI0w2, sw2⟩
  replace hT := hT.then sw2
  replace ht := Rep.stp ht sw2
  replace hk := hk.stp sw2
  replace h2 := h2.stp sw2
  replace hlow := sw2.low
  replace hB := Nat.le_trans hB sw2.upd.1
  replace hI0 := hI0w2
  refine q1 (q0 (l_p 1 tbOk rfl ?_))
  refine l_cons (o_ld tbOk (h2.cell 3 _ rfl) rfl rfl rfl rfl rfl ?_)
  refine l_cons (o_len tbOk hk rfl rfl rfl rfl rfl ?_)
  refine l_p 1 tbOk rfl (q1 (c_blk ?_))
  refine c_loop2 (X := Nat) (Y := Nat → Prop) (fun i M1 => [(1, .func (.func g) #[] caps.toArray), (10, kv), (11, .int .i64 (t.kids.length : Int)), (12, .int .i64 (i : Nat))]) (fun i M1 w' => i ≤ t.kids.length ∧ I M1 (acc ++ t :: (t.kids.take i).flatMap partsL) w' ∧ Sl M1 w' kv t.kids ∧ Stp B M M1 w w' ∧ Low M1 w' ∧ B ≤ w'.heap.size) (fun i M1 => t.kids.length - i) (0) (Mw2) (s4 rfl rfl rfl rfl) ?_ ?_
  · exact ⟨Nat.zero_le _, hI0, hk, hT, hlow, hB⟩
  clear hk hI0 ht
  rintro i M1 w3 ⟨hi, hI0, hk, hT, hlow, hB⟩
  refine q0 (l_p 1 tbOk rfl (q1 (c_seq ?_)))
  refine c_ifP _ rfl (fun c1 => ?_) (fun c1 => ?_)
  · refine c_skip (x_seq (c_seq (c_blk (q0 ?_))))
    have hik : i < t.kids.length := by omega
    have e3 := take_psz t.kids (i + 1)
    rw [show pszs (t.kids.take (i + 1)) = pszs (t.kids.take i) + psz t.kids[i] by unfold pszs; rw [take_step hik, List.length_append]; rfl] at e3
    refine l_cons (o_ixS tbOk hk (List.getElem?_eq_getElem hik) rfl rfl rfl rfl rfl rfl rfl rfl rfl ?_)
    intro ebx eox eux hyx hatx
    obtain ⟨kvx, rfl, opx, nmx, n64x, hkx⟩ := ty_open hyx
    replace hatx : At M1 w3 ebx eox [.int .u8 t.kids[i].op, .string t.kids[i].name, .int .i64 t.kids[i].n, kvx] := hatx
    refine l_cons (o_lds tbOk (fun j v hv => hatx.cell j v hv) rfl rfl rfl rfl rfl rfl ?_)
    refine l_cons (o_new tbOk rfl rfl rfl ?_)
    intro b5 w4 qb5 ew4 hb5
    have nb5 := nM_of hlow qb5
    refine l_cons (o_st tbOk hb5 rfl rfl rfl rfl (Rep.one hyx) rfl rfl ?_)
    intro w5 h5 uw5 bew5
    have ew5 : Ext w3 w5 := ew4.trans (bew5 _ (Nat.le_of_eq qb5.symm))
    replace hI0 := hx _ _ _ _ hI0 ew5
    replace hT := hT.then (Stp.ext ew5 hlow hB)
    replace hk := hk.ext ew5
    replace hyx := Rep.ext hyx ew5
    replace hkx := hkx.ext ew5
    replace hatx := hatx.ext ew5
    replace hlow := hlow.ext ew5
    replace hB := Nat.le_trans hB ew5.size
    replace h5 : Box w5 b5 40 [.int .u8 t.kids[i].op, .string t.kids[i].name, .int .i64 t.kids[i].n, kvx] := h5
    replace h5 := h5.at nb5
    refine q1 (c_reg ?_)
    refine l_cons (o_lds tbOk (fun j v hv => h5.cell j v hv) rfl rfl rfl rfl rfl rfl ?_)
    refine l_p 1 tbOk rfl ?_
    have hal : (acc ++ t :: (t.kids.take i).flatMap partsL).length = acc.length + 1 + pszs (t.kids.take i) := by simp [pszs]; omega
    refine l_cons (o_call fo155 rfl rfl rfl (ih _ (List.getElem_mem hik) _ _ _ _ (by omega) hI0 hyx) ?_)
    rintro _ w6 ⟨rfl, Mw6, hI0w6, sw6⟩
    replace hT := hT.then sw6
    replace hk := hk.stp sw6
    replace hyx := Rep.stp hyx sw6
    replace hkx := hkx.stp sw6
    replace hatx := hatx.stp sw6
    replace h5 := h5.stp sw6
    replace hlow := sw6.low
    replace hB := Nat.le_trans hB sw6.upd.1
    replace hI0 := hI0w6
    refine q2 (x_seq (c_reg ?_))
    refine l_cons (o_ar rfl rfl rfl (IntWalk.i64_in _ (by omega)) rfl rfl ?_)
    refine l_p 1 tbOk rfl (l_nil ?_)
    exact x_round2 (i + 1) (Mw6) (s4 rfl rfl rfl (get_num rfl (by omega))) ⟨by omega, by rw [take_step hik]; simpa using hI0, hk, hT, hlow, hB⟩ (by omega)
  refine c_exit (x_seqE (x_seqE (x_blkE ?_)))
  refine x_ret0n rfl ?_
  obtain rfl : i = t.kids.length := by omega
  rw [List.take_of_length_le (Nat.le_refl _), ← partsL_eq] at hI0
  exact ⟨rfl, _, hI0, hT⟩

/-- Between two parts: the variables so far. -/
def VI (B b1 b2 bm : Nat) (M : Nat → Prop) (acc : List Ty) (w : World) : Prop := ∃ v m, MB B M w b1 151 [.map (some bm)] ∧ MB B M w b2 168 [v] ∧ OM (κ := Int) (fun x : Bool => Value.bool x) B M w bm m ∧ OwnSl 3 B M w v (varsTo [] acc) ∧ (∀ n, (getK m n).getD false = decide (n ∈ varsTo [] acc)) ∧
  b1 ≠ b2 ∧ b1 ≠ bm ∧ b2 ≠ bm ∧ (∀ x, (v : Value).ownBlock = some x → x ≠ b1) ∧ (∀ x, (v : Value).ownBlock = some x → x ≠ b2) ∧ (∀ x, (v : Value).ownBlock = some x → x ≠ bm) ∧ Low M w ∧ B ≤ w.heap.size
theorem VI.ext {B b1 b2 bm : Nat} {M : Nat → Prop} {acc : List Ty} {w w' : World} (h : VI B b1 b2 bm M acc w) (e : Ext w w') : VI B b1 b2 bm M acc w' := by
  obtain ⟨v, m, h1, h2, hm, ho, hg, r1, r2, r3, r4, r5, r6, hlow, hB⟩ := h
  exact ⟨v, m, h1.ext hlow hB e, h2.ext hlow hB e, hm.ext hlow hB e, ho.ext hlow hB e, hg, r1, r2, r3, r4, r5, r6, hlow.ext e, Nat.le_trans hB e.size⟩
/-- What is done with each part. -/
theorem varsDo_spec (B b1 b2 bm : Nat) (M : Nat → Prop) (acc : List Ty) (w : World) (v : Value) (t : Ty) (hN : acc.length < 2000000) (hI : VI B b1 b2 bm M acc w) (ht : Rep.R M w v t) :
    Calls Try.prog 157 #[v, .pointer (some ⟨b1, 0, none⟩), .pointer (some ⟨b2, 0, none⟩)] w (Ret fun r w' => r = .tuple #[] ∧ ∃ M', VI B b1 b2 bm M' (acc ++ [t]) w' ∧ Stp B M M' w w') := by
  obtain ⟨lv, m, h1, h2, hm, ho, hg, ne_h1_h2, ne_h1_hm, ne_h2_hm, d_ho_h1, d_ho_h2, d_ho_hm, hlow, hB⟩ := hI
  have hT : Stp B M M w w := Stp.refl hlow
  have hvl := varsTo_len [] acc
  simp only [List.length_nil, Nat.zero_add] at hvl
  obtain ⟨kv, rfl, op, nm, n64, hk⟩ := ty_open ht
  refine c_enter (n := 27) Try.func157 rfl rfl rfl ?_
  refine q0 ?_
  refine l_cons (o_box rfl rfl rfl ?_)
  intro b3 w1 hb_b3 ew1 h3
  replace h3 : Box _ b3 40 [.int .u8 t.op, .string t.name, .int .i64 t.n, kv] := h3
  replace h3 := h3.at (nM_of hlow hb_b3)
  replace hT := hT.then (Stp.ext ew1 hlow hB)
  replace h1 := h1.ext hlow hB ew1
  replace h2 := h2.ext hlow hB ew1
  replace hm := hm.ext hlow hB ew1
  replace ho := ho.ext hlow hB ew1
  replace ht := Rep.ext ht ew1
  replace hk := hk.ext ew1
  replace hlow := hlow.ext ew1
  replace hB := Nat.le_trans hB ew1.size
  refine q1 (q0 (l_p 1 tbOk rfl ?_))
  refine l_cons (o_ld tbOk (h3.cell 0 _ rfl) rfl rfl rfl rfl rfl ?_)
  refine l_p 2 tbOk rfl ?_
  refine l_splitP 7 _ rfl (fun c1 => ?_) (fun c1 => ?_)
  · refine l_p 5 tbOk rfl ?_
    refine l_cons (o_ld tbOk (h1.cell 0 _ rfl) rfl rfl rfl rfl rfl ?_)
    refine l_p 1 tbOk rfl ?_
    refine l_cons (o_ld tbOk (h3.cell 2 _ rfl) rfl rfl rfl rfl rfl ?_)
    refine l_cons (o_look (z := false) tbOk hm.map (k := t.n) rfl rfl rfl rfl ⟨_, Try.underlying3, rfl⟩ rfl rfl rfl rfl ?_)
    refine l_p 2 tbOk rfl (q1 ?_)
    refine c_ifB _ rfl (fun c2 => ?_) (fun c2 => ?_)
    · refine q0 ?_
      refine l_cons (o_ld tbOk (h1.cell 0 _ rfl) rfl rfl rfl rfl rfl ?_)
      refine l_p 1 tbOk rfl ?_
      refine l_cons (o_ld tbOk (h3.cell 2 _ rfl) rfl rfl rfl rfl rfl ?_)
      refine l_cons (o_mupd tbOk hm.map (k := t.n) (v := true) rfl rfl rfl rfl rfl ⟨_, Try.underlying3, rfl⟩ rfl ?_)
      intro w2 hw2 qw2 bew2
      have uw2 : UpdB _ _ _ := ⟨qw2, bew2⟩
      have sw2 := uw2.stp hm.inM hlow hm.ge
      have frw2 := qw2.2
      replace hT := hT.then sw2
      replace h1 := h1.stp sw2 (frw2 b1 h1.lt ne_h1_hm)
      replace h2 := h2.stp sw2 (frw2 b2 h2.lt ne_h2_hm)
      replace ho := ho.stp sw2 (fun x hx => frw2 x (ho.lt x hx).2 (d_ho_hm x hx))
      replace ht := Rep.stp ht sw2
      replace hk := hk.stp sw2
      replace h3 := h3.stp sw2
      replace hlow := sw2.low
      replace hB := Nat.le_trans hB sw2.upd.1
      replace hm : OM _ _ _ w2 _ (putK m t.n true) := ⟨hw2, hm.inM, hm.ge⟩
      refine q1 (c_reg ?_)
      refine l_cons (o_ld tbOk (h2.cell 0 _ rfl) rfl rfl rfl rfl rfl ?_)
      refine l_p 1 tbOk rfl ?_
      refine l_cons (o_ld tbOk (h3.cell 2 _ rfl) rfl rfl rfl rfl rfl ?_)
      refine l_cons (o_bs tbOk rfl rfl rfl rfl rfl rfl rfl (sz1 rfl) rfl rfl rfl ?_)
      intro bw3 w3 qbw3 ew3 hbw3
      have nbw3 := nM_of hlow qbw3
      replace hT := hT.then (Stp.ext ew3 hlow hB)
      replace h1 := h1.ext hlow hB ew3
      replace h2 := h2.ext hlow hB ew3
      replace hm := hm.ext hlow hB ew3
      replace ho := ho.ext hlow hB ew3
      replace ht := Rep.ext ht ew3
      replace hk := hk.ext ew3
      replace h3 := h3.ext ew3
      replace hlow := hlow.ext ew3
      replace hB := Nat.le_trans hB ew3.size
      refine l_cons (o_app1 tbOk ho hbw3 nbw3 ⟨rfl, n64⟩ hlow hB rfl rfl rfl rfl rfl rfl rfl (by omega) (by show (_ + _) * 8 ≤ _; omega) rfl rfl ?_)
      intro vw4 w4 Mw4 hw4 sw4 frw4 blw4
      have zd_ho_h1 := d_ho_h1
      replace d_ho_h1 : ∀ x, (vw4 : Value).ownBlock = some x → x ≠ b1 := fun x hx => (blw4 x hx).elim (d_ho_h1 x) (fun h e => by have := h1.lt; omega)
      have zd_ho_h2 := d_ho_h2
      replace d_ho_h2 : ∀ x, (vw4 : Value).ownBlock = some x → x ≠ b2 := fun x hx => (blw4 x hx).elim (d_ho_h2 x) (fun h e => by have := h2.lt; omega)
      have zd_ho_hm := d_ho_hm
      replace d_ho_hm : ∀ x, (vw4 : Value).ownBlock = some x → x ≠ bm := fun x hx => (blw4 x hx).elim (d_ho_hm x) (fun h e => by have := hm.lt; omega)
      replace hT := hT.then sw4
      replace h1 := h1.stp sw4 (frw4 b1 h1.lt (fun e => zd_ho_h1 _ e.symm rfl))
      replace h2 := h2.stp sw4 (frw4 b2 h2.lt (fun e => zd_ho_h2 _ e.symm rfl))
      replace hm := hm.stp sw4 (frw4 bm hm.lt (fun e => zd_ho_hm _ e.symm rfl))
      replace ht := Rep.stp ht sw4
      replace hk := hk.stp sw4
      replace h3 := h3.stp sw4
      replace hlow := sw4.low
      replace hB := Nat.le_trans hB sw4.upd.1
      replace ho := hw4
      clear hw4
      obtain ⟨av6, cv6, rfl, _⟩ := ho.val
      refine l_cons (o_st tbOk h2.box rfl rfl rfl rfl (by simp [Value.cells, Value.oneCell']) rfl rfl ?_)
      intro w5 hw5 qw5 bew5
      have uw5 : UpdB _ _ _ := ⟨qw5, bew5⟩
      have sw5 := uw5.stp h2.inM hlow h2.ge
      have frw5 := qw5.2
      replace hT := hT.then sw5
      replace h1 := h1.stp sw5 (frw5 b1 h1.lt ne_h1_h2)
      replace hm := hm.stp sw5 (frw5 bm hm.lt ne_h2_hm.symm)
      replace ho := ho.stp sw5 (fun x hx => frw5 x (ho.lt x hx).2 (d_ho_h2 x hx))
      replace ht := Rep.stp ht sw5
      replace hk := hk.stp sw5
      replace h3 := h3.stp sw5
      replace hlow := sw5.low
      replace hB := Nat.le_trans hB sw5.upd.1
      replace h2 : MB B _ w5 b2 _ [(.slice av6 (varsTo [] acc ++ [t.n]).length cv6)] := ⟨hw5, h2.inM, h2.ge⟩
      refine l_nil ?_
      refine x_ret0n rfl ?_
      have hnm : numB t.op = true := by simp [numB, *]
      have hni : t.n ∉ varsTo [] acc := by
        intro h
        have h2 := hg t.n
        rw [decide_eq_true h] at h2
        simp_all
      refine ⟨rfl, _, ⟨_, _, h1, h2, hm, by rw [varsTo_yes hnm hni]; exact ho, fun n => ?_, ne_h1_h2, ne_h1_hm, ne_h2_hm, d_ho_h1, d_ho_h2, d_ho_hm, hlow, hB⟩, hT⟩
      rw [getK_put, varsTo_yes hnm hni]
      by_cases e : n = t.n
      · subst e; simp
      · rw [if_neg e, hg n]; simp [e]
    refine c_skip ?_
    refine x_ret0n rfl ?_
    have hvs : varsTo [] (acc ++ [t]) = varsTo [] acc := by
      cases hnm : numB t.op with
      | false => exact varsTo_no hnm
      | true =>
        refine varsTo_old ?_
        have h2 := hg t.n
        unfold numB at hnm
        simp_all
    refine ⟨rfl, _, ⟨_, _, h1, h2, hm, by rw [hvs]; exact ho, fun n => by rw [hvs]; exact hg n, ne_h1_h2, ne_h1_hm, ne_h2_hm, d_ho_h1, d_ho_h2, d_ho_hm, hlow, hB⟩, hT⟩
  refine l_p 1 tbOk rfl ?_
  refine l_cons (o_ld tbOk (h3.cell 0 _ rfl) rfl rfl rfl rfl rfl ?_)
  refine l_p 3 tbOk rfl ?_
  refine l_splitP 12 _ rfl (fun c3 => ?_) (fun c3 => ?_)
  · refine l_cons (o_ld tbOk (h1.cell 0 _ rfl) rfl rfl rfl rfl rfl ?_)
    refine l_p 1 tbOk rfl ?_
    refine l_cons (o_ld tbOk (h3.cell 2 _ rfl) rfl rfl rfl rfl rfl ?_)
    refine l_cons (o_look (z := false) tbOk hm.map (k := t.n) rfl rfl rfl rfl ⟨_, Try.underlying3, rfl⟩ rfl rfl rfl rfl ?_)
    refine l_p 2 tbOk rfl (q1 ?_)
    refine c_ifB _ rfl (fun c4 => ?_) (fun c4 => ?_)
    · refine q0 ?_
      refine l_cons (o_ld tbOk (h1.cell 0 _ rfl) rfl rfl rfl rfl rfl ?_)
      refine l_p 1 tbOk rfl ?_
      refine l_cons (o_ld tbOk (h3.cell 2 _ rfl) rfl rfl rfl rfl rfl ?_)
      refine l_cons (o_mupd tbOk hm.map (k := t.n) (v := true) rfl rfl rfl rfl rfl ⟨_, Try.underlying3, rfl⟩ rfl ?_)
      intro w6 hw6 qw6 bew6
      have uw6 : UpdB _ _ _ := ⟨qw6, bew6⟩
      have sw6 := uw6.stp hm.inM hlow hm.ge
      have frw6 := qw6.2
      replace hT := hT.then sw6
      replace h1 := h1.stp sw6 (frw6 b1 h1.lt ne_h1_hm)
      replace h2 := h2.stp sw6 (frw6 b2 h2.lt ne_h2_hm)
      replace ho := ho.stp sw6 (fun x hx => frw6 x (ho.lt x hx).2 (d_ho_hm x hx))
      replace ht := Rep.stp ht sw6
      replace hk := hk.stp sw6
      replace h3 := h3.stp sw6
      replace hlow := sw6.low
      replace hB := Nat.le_trans hB sw6.upd.1
      replace hm : OM _ _ _ w6 _ (putK m t.n true) := ⟨hw6, hm.inM, hm.ge⟩
      refine q1 (c_reg ?_)
      refine l_cons (o_ld tbOk (h2.cell 0 _ rfl) rfl rfl rfl rfl rfl ?_)
      refine l_p 1 tbOk rfl ?_
      refine l_cons (o_ld tbOk (h3.cell 2 _ rfl) rfl rfl rfl rfl rfl ?_)
      refine l_cons (o_bs tbOk rfl rfl rfl rfl rfl rfl rfl (sz1 rfl) rfl rfl rfl ?_)
      intro bw7 w7 qbw7 ew7 hbw7
      have nbw7 := nM_of hlow qbw7
      replace hT := hT.then (Stp.ext ew7 hlow hB)
      replace h1 := h1.ext hlow hB ew7
      replace h2 := h2.ext hlow hB ew7
      replace hm := hm.ext hlow hB ew7
      replace ho := ho.ext hlow hB ew7
      replace ht := Rep.ext ht ew7
      replace hk := hk.ext ew7
      replace h3 := h3.ext ew7
      replace hlow := hlow.ext ew7
      replace hB := Nat.le_trans hB ew7.size
      refine l_cons (o_app1 tbOk ho hbw7 nbw7 ⟨rfl, n64⟩ hlow hB rfl rfl rfl rfl rfl rfl rfl (by omega) (by show (_ + _) * 8 ≤ _; omega) rfl rfl ?_)
      intro vw8 w8 Mw8 hw8 sw8 frw8 blw8
      have zd_ho_h1 := d_ho_h1
      replace d_ho_h1 : ∀ x, (vw8 : Value).ownBlock = some x → x ≠ b1 := fun x hx => (blw8 x hx).elim (d_ho_h1 x) (fun h e => by have := h1.lt; omega)
      have zd_ho_h2 := d_ho_h2
      replace d_ho_h2 : ∀ x, (vw8 : Value).ownBlock = some x → x ≠ b2 := fun x hx => (blw8 x hx).elim (d_ho_h2 x) (fun h e => by have := h2.lt; omega)
      have zd_ho_hm := d_ho_hm
      replace d_ho_hm : ∀ x, (vw8 : Value).ownBlock = some x → x ≠ bm := fun x hx => (blw8 x hx).elim (d_ho_hm x) (fun h e => by have := hm.lt; omega)
      replace hT := hT.then sw8
      replace h1 := h1.stp sw8 (frw8 b1 h1.lt (fun e => zd_ho_h1 _ e.symm rfl))
      replace h2 := h2.stp sw8 (frw8 b2 h2.lt (fun e => zd_ho_h2 _ e.symm rfl))
      replace hm := hm.stp sw8 (frw8 bm hm.lt (fun e => zd_ho_hm _ e.symm rfl))
      replace ht := Rep.stp ht sw8
      replace hk := hk.stp sw8
      replace h3 := h3.stp sw8
      replace hlow := sw8.low
      replace hB := Nat.le_trans hB sw8.upd.1
      replace ho := hw8
      clear hw8
      obtain ⟨av6, cv6, rfl, _⟩ := ho.val
      refine l_cons (o_st tbOk h2.box rfl rfl rfl rfl (by simp [Value.cells, Value.oneCell']) rfl rfl ?_)
      intro w9 hw9 qw9 bew9
      have uw9 : UpdB _ _ _ := ⟨qw9, bew9⟩
      have sw9 := uw9.stp h2.inM hlow h2.ge
      have frw9 := qw9.2
      replace hT := hT.then sw9
      replace h1 := h1.stp sw9 (frw9 b1 h1.lt ne_h1_h2)
      replace hm := hm.stp sw9 (frw9 bm hm.lt ne_h2_hm.symm)
      replace ho := ho.stp sw9 (fun x hx => frw9 x (ho.lt x hx).2 (d_ho_h2 x hx))
      replace ht := Rep.stp ht sw9
      replace hk := hk.stp sw9
      replace h3 := h3.stp sw9
      replace hlow := sw9.low
      replace hB := Nat.le_trans hB sw9.upd.1
      replace h2 : MB B _ w9 b2 _ [(.slice av6 (varsTo [] acc ++ [t.n]).length cv6)] := ⟨hw9, h2.inM, h2.ge⟩
      refine l_nil ?_
      refine x_ret0n rfl ?_
      have hnm : numB t.op = true := by simp [numB, *]
      have hni : t.n ∉ varsTo [] acc := by
        intro h
        have h2 := hg t.n
        rw [decide_eq_true h] at h2
        simp_all
      refine ⟨rfl, _, ⟨_, _, h1, h2, hm, by rw [varsTo_yes hnm hni]; exact ho, fun n => ?_, ne_h1_h2, ne_h1_hm, ne_h2_hm, d_ho_h1, d_ho_h2, d_ho_hm, hlow, hB⟩, hT⟩
      rw [getK_put, varsTo_yes hnm hni]
      by_cases e : n = t.n
      · subst e; simp
      · rw [if_neg e, hg n]; simp [e]
    refine c_skip ?_
    refine x_ret0n rfl ?_
    have hvs : varsTo [] (acc ++ [t]) = varsTo [] acc := by
      cases hnm : numB t.op with
      | false => exact varsTo_no hnm
      | true =>
        refine varsTo_old ?_
        have h2 := hg t.n
        unfold numB at hnm
        simp_all
    refine ⟨rfl, _, ⟨_, _, h1, h2, hm, by rw [hvs]; exact ho, fun n => by rw [hvs]; exact hg n, ne_h1_h2, ne_h1_hm, ne_h2_hm, d_ho_h1, d_ho_h2, d_ho_hm, hlow, hB⟩, hT⟩
  refine l_p 6 tbOk rfl (q1 (c_ifF rfl (c_skip ?_)))
  refine x_ret0n rfl ?_
  have hvs : varsTo [] (acc ++ [t]) = varsTo [] acc := by
    cases hnm : numB t.op with
    | false => exact varsTo_no hnm
    | true =>
      refine varsTo_old ?_
      have h2 := hg t.n
      unfold numB at hnm
      simp_all
  refine ⟨rfl, _, ⟨_, _, h1, h2, hm, by rw [hvs]; exact ho, fun n => by rw [hvs]; exact hg n, ne_h1_h2, ne_h1_hm, ne_h2_hm, d_ho_h1, d_ho_h2, d_ho_hm, hlow, hB⟩, hT⟩

/-- Vars: the variables. -/
theorem kVars_spec (t : Ty) (M : Nat → Prop) (w : World) (v : Value) (ht : Rep.R M w v t) (hlow0 : Low M w) (hz : psz t ≤ 2000000) :
    Calls Try.prog 142 #[v] w (Ret fun r w' => Sl M w' r (bif rightB t || rowB t then varsF t else []) ∧ Ext w w') := by
  have hlow := hlow0
  have hB : w.heap.size ≤ w.heap.size := Nat.le_refl _
  have hE : Below w.heap.size w w := Below.refl _ _
  have hsub : ∀ b, M b → M b := fun _ h => h
  obtain ⟨kv, rfl, op, nm, n64, hk⟩ := ty_open ht
  refine c_enter (n := 14) Try.func142 rfl rfl rfl ?_
  refine q0 ?_
  refine l_cons (o_box rfl rfl rfl ?_)
  intro b1 w1 hb_b1 ew1 h1
  replace h1 : Box _ b1 40 [.int .u8 t.op, .string t.name, .int .i64 t.n, kv] := h1
  replace h1 := h1.at (nM_of hlow hb_b1)
  replace hE := hE.trans (Below.mono ew1 hB)
  replace ht := Rep.ext ht ew1
  replace hk := hk.ext ew1
  replace hlow := hlow.ext ew1
  replace hB := Nat.le_trans hB ew1.size
  refine l_p 1 tbOk rfl (q1 (c_seq (q0 ?_)))
  refine l_cons (o_lds tbOk (fun j v hv => h1.cell j v hv) rfl rfl rfl rfl rfl rfl ?_)
  refine l_cons (o_call fo141 rfl rfl rfl (either_specB t _ _ _ ht hlow) ?_)
  rintro _ w2 ⟨rfl, ew2⟩
  replace hE := hE.trans (Below.mono ew2 hB)
  replace ht := Rep.ext ht ew2
  replace hk := hk.ext ew2
  replace h1 := h1.ext ew2
  replace hlow := hlow.ext ew2
  replace hB := Nat.le_trans hB ew2.size
  refine l_p 1 tbOk rfl (q1 ?_)
  refine c_ifB _ rfl (fun hr => ?_) (fun hr => ?_)
  · refine q0 (l_p 1 tbOk rfl (q1 (c_ret (x_seqR (x_ret1 rfl rfl ?_)))))
    exact ⟨by rw [show (rightB t || rowB t) = false from hr]; exact sl_nil, hE⟩
  refine c_skip (x_seq (q0 ?_))
  refine l_cons (o_new tbOk rfl rfl rfl ?_)
  intro b3 w3 qb3 ew3 hb3
  have sw3 := Stp.add ew3 hlow hB (Nat.le_of_eq qb3.symm) hb3.lt
  have h3 : MB w.heap.size (Rw.Add M b3) w3 b3 168 [.slice none 0 0] := MB.mk' hb3 qb3 hB
  replace hE := hE.trans sw3.below
  replace ht := Rep.stp ht sw3
  replace hk := hk.stp sw3
  replace h1 := h1.stp sw3
  replace hsub := fun b h => sw3.sub b (hsub b h)
  replace hlow := sw3.low
  replace hB := Nat.le_trans hB sw3.upd.1
  refine q1 (q0 ?_)
  refine l_cons (o_mkmap (κ := Int) (ν := Bool) (va := (fun x : Bool => Value.bool x)) rfl rfl ?_)
  intro bm w4 qbm ew4 ltbm hbm
  have ne_h3_hm : b3 ≠ bm := by have := h3.lt; omega
  have sw4 := Stp.add ew4 hlow hB (Nat.le_of_eq qbm.symm) ltbm
  have hm : OM (κ := Int) (fun x : Bool => Value.bool x) w.heap.size (Rw.Add (Rw.Add M b3) bm) w4 bm [] := OM.mk' hbm qbm hB
  replace h3 := h3.stp sw4 (ew4.block b3 h3.lt)
  replace hE := hE.trans sw4.below
  replace ht := Rep.stp ht sw4
  replace hk := hk.stp sw4
  replace h1 := h1.stp sw4
  replace hsub := fun b h => sw4.sub b (hsub b h)
  replace hlow := sw4.low
  replace hB := Nat.le_trans hB sw4.upd.1
  refine l_cons (o_new tbOk rfl rfl rfl ?_)
  intro b4 w5 qb4 ew5 hb4
  have ne_h3_h4 : b3 ≠ b4 := by have := h3.lt; omega
  have ne_hm_h4 : bm ≠ b4 := by have := hm.lt; omega
  have sw5 := Stp.add ew5 hlow hB (Nat.le_of_eq qb4.symm) hb4.lt
  have h4 : MB w.heap.size (Rw.Add (Rw.Add (Rw.Add M b3) bm) b4) w5 b4 151 [.map none] := MB.mk' hb4 qb4 hB
  replace h3 := h3.stp sw5 (ew5.block b3 h3.lt)
  replace hm := hm.stp sw5 (ew5.block bm hm.lt)
  replace hE := hE.trans sw5.below
  replace ht := Rep.stp ht sw5
  replace hk := hk.stp sw5
  replace h1 := h1.stp sw5
  replace hsub := fun b h => sw5.sub b (hsub b h)
  replace hlow := sw5.low
  replace hB := Nat.le_trans hB sw5.upd.1
  refine l_cons (o_st tbOk h4.box rfl rfl rfl rfl (by intro u hu; simp [Value.cells] at hu; subst hu; rfl) rfl rfl ?_)
  intro w6 hw6 qw6 bew6
  have uw6 : UpdB _ _ _ := ⟨qw6, bew6⟩
  have sw6 := uw6.stp h4.inM hlow h4.ge
  have frw6 := qw6.2
  replace h3 := h3.stp sw6 (frw6 b3 h3.lt ne_h3_h4)
  replace hm := hm.stp sw6 (frw6 bm hm.lt ne_hm_h4)
  replace hE := hE.trans sw6.below
  replace ht := Rep.stp ht sw6
  replace hk := hk.stp sw6
  replace h1 := h1.stp sw6
  replace hsub := fun b h => sw6.sub b (hsub b h)
  replace hlow := sw6.low
  replace hB := Nat.le_trans hB sw6.upd.1
  replace h4 : MB w.heap.size _ w6 b4 _ [.map (some bm)] := ⟨hw6, h4.inM, h4.ge⟩
  refine q1 (q0 ?_)
  refine l_cons (o_lds tbOk (fun j v hv => h1.cell j v hv) rfl rfl rfl rfl rfl rfl ?_)
  refine l_cons (o_call fo156 rfl rfl rfl (canon_all _ t _ _ _ _ (Nat.le_refl _) (Classical.choose_spec (shape_either hr)) ht hlow hz) ?_)
  rintro vc w7 ⟨hc, ew7⟩
  replace h3 := h3.ext hlow hB ew7
  replace hm := hm.ext hlow hB ew7
  replace h4 := h4.ext hlow hB ew7
  replace hE := hE.trans (Below.mono ew7 hB)
  replace ht := Rep.ext ht ew7
  replace hk := hk.ext ew7
  replace h1 := h1.ext ew7
  replace hlow := hlow.ext ew7
  replace hB := Nat.le_trans hB ew7.size
  refine l_p 1 tbOk rfl ?_
  have hpc := psz_canon _ t (Nat.le_refl _)
  have hvl0 := varsTo_len [] (partsL (canonF t))
  have hvl1 : (partsL (canonF t)).length = psz (canonF t) := rfl
  simp only [List.length_nil, Nat.zero_add] at hvl0
  have hV : VI w.heap.size b4 b3 bm (Rw.Add (Rw.Add (Rw.Add M b3) bm) b4) [] w7 := ⟨_, _, h4, h3, hm, own_nil, fun n => by simp [getK, varsTo], ne_h3_h4.symm, ne_hm_h4.symm, ne_h3_hm, fun x hx => by simp [Value.ownBlock] at hx, fun x hx => by simp [Value.ownBlock] at hx, fun x hx => by simp [Value.ownBlock] at hx, hlow, hB⟩
  refine l_cons (o_call fo155 rfl rfl rfl (each_spec 157 [.pointer (some ⟨b4, 0, none⟩), .pointer (some ⟨b3, 0, none⟩)] w.heap.size 2000000 (VI w.heap.size b4 b3 bm) fo157 (fun _ _ _ _ h e => h.ext e) (fun _ _ _ h => by obtain ⟨v, m, h1, h2, hm, ho, hg, r1, r2, r3, r4, r5, r6, hlow, hB⟩ := h; exact ⟨hlow, hB⟩) (fun M acc w u x hN hI hu => varsDo_spec _ _ _ _ M acc w u x hN hI hu) (canonF t) _ [] _ _ (by simp only [List.length_nil]; omega) hV hc) ?_)
  rintro _ w8 ⟨rfl, Mw8, hV2, sw8⟩
  replace hE := hE.trans sw8.below
  replace ht := Rep.stp ht sw8
  replace hk := hk.stp sw8
  replace h1 := h1.stp sw8
  replace hc := Rep.stp hc sw8
  replace hsub := fun b h => sw8.sub b (hsub b h)
  replace hlow := sw8.low
  replace hB := Nat.le_trans hB sw8.upd.1
  obtain ⟨lv, m2, h4, h3, hm, ho, _, _, _, _, _, _, _, _, _⟩ := hV2
  rw [List.nil_append] at ho
  refine q1 (q0 ?_)
  refine l_cons (o_ld tbOk (h3.cell 0 _ rfl) rfl rfl rfl rfl rfl ?_)
  refine l_p 1 tbOk rfl (q1 (c_ret (x_ret1 rfl rfl ?_)))
  refine ⟨?_, hE⟩
  rw [show (rightB t || rowB t) = true from hr]
  exact ho.sl (by omega) hlow0 hsub

/-- Closed: without variables? -/
theorem kClosed_spec (t : Ty) (M : Nat → Prop) (w : World) (v : Value) (ht : Rep.R M w v t) (hlow : Low M w) (hz : psz t ≤ 2000000) :
    Calls Try.prog 132 #[v] w (Ret fun r w' => r = .bool ((rightB t || rowB t) && decide (varsF t = [])) ∧ Ext w w') := by
  have hE : Below w.heap.size w w := Below.refl _ _
  have hB : w.heap.size ≤ w.heap.size := Nat.le_refl _
  obtain ⟨kv, rfl, op, nm, n64, hk⟩ := ty_open ht
  refine c_enter (n := 11) Try.func132 rfl rfl rfl ?_
  refine q0 ?_
  refine l_cons (o_box rfl rfl rfl ?_)
  intro b1 w1 hb_b1 ew1 h1
  replace h1 : Box _ b1 40 [.int .u8 t.op, .string t.name, .int .i64 t.n, kv] := h1
  replace h1 := h1.at (nM_of hlow hb_b1)
  replace hE := hE.trans (Below.mono ew1 hB)
  replace ht := Rep.ext ht ew1
  replace hk := hk.ext ew1
  replace hlow := hlow.ext ew1
  replace hB := Nat.le_trans hB ew1.size
  refine l_p 1 tbOk rfl (q1 (q0 ?_))
  refine l_cons (o_lds tbOk (fun j v hv => h1.cell j v hv) rfl rfl rfl rfl rfl rfl ?_)
  refine l_cons (o_call fo141 rfl rfl rfl (either_specB t _ _ _ ht hlow) ?_)
  rintro _ w2 ⟨rfl, ew2⟩
  replace hE := hE.trans (Below.mono ew2 hB)
  replace ht := Rep.ext ht ew2
  replace hk := hk.ext ew2
  replace h1 := h1.ext ew2
  replace hlow := hlow.ext ew2
  replace hB := Nat.le_trans hB ew2.size
  refine l_p 1 tbOk rfl ?_
  refine l_split 5 _ rfl (fun hr => ?_) (fun hr => ?_)
  · refine l_cons (o_lds tbOk (fun j v hv => h1.cell j v hv) rfl rfl rfl rfl rfl rfl ?_)
    refine l_cons (o_call fo142 rfl rfl rfl (kVars_spec t _ _ _ ht hlow hz) ?_)
    rintro vhv w3 ⟨hv, ew3⟩
    replace hE := hE.trans (Below.mono ew3 hB)
    replace ht := Rep.ext ht ew3
    replace hk := hk.ext ew3
    replace h1 := h1.ext ew3
    replace hlow := hlow.ext ew3
    replace hB := Nat.le_trans hB ew3.size
    refine l_cons (o_len tbOk hv rfl rfl rfl rfl rfl ?_)
    refine l_p 3 tbOk rfl (q1 (c_ret (x_ret1 rfl rfl ?_)))
    refine ⟨?_, hE⟩
    rw [show (rightB t || rowB t) = true from hr]
    simp only [cond_true, Bool.true_and]
    congr 1
    cases varsF t <;> simp <;> omega
  refine l_p 6 tbOk rfl (q1 (c_ret (x_ret1 rfl rfl ?_)))
  exact ⟨by rw [show (rightB t || rowB t) = false from hr]; rfl, hE⟩

end Go.Proofs.Ytohfnpmehgpphaa
