/- Part 5 of the proof: rules, plain laws and walks, merged out of smaller texts. -/
import Derived.Test.YtpoahmeacjggfaaGreatQ4
namespace Rw
/-! ## Canonical forms are their own canonical forms -/
/-! ## Variables -/
def addV (l : List Int) (n : Int) : List Int := if n ∈ l then l else l ++ [n]
def varsTo (l : List Int) (ps : List Ty) : List Int := ps.foldl (fun l x => bif numB x.op then addV l x.n else l) l
/-- The variables of a type, by its canonical form. -/
def varsF (t : Ty) : List Int := varsTo [] (partsL (canonF t))
theorem varsTo_snoc (l : List Int) (ps : List Ty) (x : Ty) : varsTo l (ps ++ [x]) = bif numB x.op then addV (varsTo l ps) x.n else varsTo l ps := by simp [varsTo]
theorem varsTo_yes {l : List Int} {ps : List Ty} {x : Ty} (h : numB x.op = true) (hn : x.n ∉ varsTo l ps) : varsTo l (ps ++ [x]) = varsTo l ps ++ [x.n] := by rw [varsTo_snoc, h]; simp [addV, hn]
theorem varsTo_old {l : List Int} {ps : List Ty} {x : Ty} (hn : x.n ∈ varsTo l ps) : varsTo l (ps ++ [x]) = varsTo l ps := by
  rw [varsTo_snoc]
  cases numB x.op with
  | true => simp [addV, hn]
  | false => rfl
theorem varsTo_no {l : List Int} {ps : List Ty} {x : Ty} (h : numB x.op = false) : varsTo l (ps ++ [x]) = varsTo l ps := by rw [varsTo_snoc, h]; rfl
theorem addV_len (l : List Int) (n : Int) : (addV l n).length ≤ l.length + 1 := by unfold addV; split <;> simp
theorem varsTo_len (l : List Int) : ∀ ps : List Ty, (varsTo l ps).length ≤ l.length + ps.length := by
  intro ps
  induction ps generalizing l with
  | nil => simp [varsTo]
  | cons x r ih =>
    have h := ih (bif numB x.op then addV l x.n else l)
    have h2 : (bif numB x.op then addV l x.n else l).length ≤ l.length + 1 := by
      cases numB x.op with
      | true => exact addV_len l x.n
      | false => simp
    simp only [varsTo, List.foldl_cons, List.length_cons] at h ⊢
    omega
/-! ## Numbers anew -/
/-! ## A canonical form is of the same sort -/
/-! ## Without ? -/
end Rw
namespace Go.Proofs.YtpoahmeacjggfaaGreat
open Go Rw Go.RowKit
set_option maxRecDepth 100000
theorem each_spec (g : Nat) (caps : List Value) (B N : Nat) (I : (Nat → Prop) → List Ty → World → Prop) (hg : FnOk Tryz.prog g) (hx : ∀ M acc w w', I M acc w → Ext w w' → I M acc w') (hI : ∀ M acc w, I M acc w → Low M w ∧ B ≤ w.heap.size)
  (hdo : ∀ (M : Nat → Prop) acc w u x, acc.length < N → I M acc w → Rep.R M w u x → Calls Tryz.prog g ([u] ++ caps).toArray w (Ret fun r w' => r = .tuple #[] ∧ ∃ M', I M' (acc ++ [x]) w' ∧ Stp B M M' w w')) :
  ∀ (t : Ty) (M : Nat → Prop) (acc : List Ty) (w : World) (v : Value), acc.length + psz t ≤ N → I M acc w → Rep.R M w v t → Calls Tryz.prog 106 #[v, .func (.func g) #[] caps.toArray] w (Ret fun r w' => r = .tuple #[] ∧ ∃ M', I M' (acc ++ partsL t) w' ∧ Stp B M M' w w') := by
 refine Ty.ind fun t ih => ?_
 intro M acc w v hN hI0 ht
 obtain ⟨Lw, hB⟩ := hI _ _ _ hI0
 have hT : Stp B M M w w := Stp.refl Lw
 have hps := psz_eq t
 have hkl := len_psz t.kids
 obtain ⟨kv, rfl, op, nm, n64, hk⟩ := tO ht
 have hlt := hk.lt
 refine cN (n := 20) Tryz.func106 rfl rfl rfl ?_
 refine q0 ?_
 refine lC (o_box rfl rfl rfl ?_)
 intro b2 w1 hb_b2 ew1 h2
 replace h2 : Box _ b2 29 [.int .u8 t.op, .string t.name, .int .i64 t.n, kv] := h2
 replace h2 := h2.at (nO Lw hb_b2)
 replace hI0 := hx _ _ _ _ hI0 ew1
 replace hT := hT.then (Stp.Y ew1 Lw hB)
 replace ht := Rep.Y ht ew1
 replace hk := hk.Y ew1
 replace Lw := Lw.Y ew1
 replace hB := ew1.z hB
 refine q1 (q0 (lP 1 tK rfl ?_))
 refine lC (oL tK (fun j v hv => h2.cell j v hv) rfl rfl rfl rfl rfl rfl ?_)
 refine lC (o_dyn rfl hg rfl rfl rfl (hdo _ _ _ _ _ (by omega) hI0 ht) ?_)
 rintro _ w2 ⟨rfl, Mw2, hI0w2, sw2⟩
 replace hT := hT.then sw2
 replace ht := Rep.sp ht sw2
 replace hk := hk.sp sw2
 replace h2 := h2.sp sw2
 replace Lw := sw2.low
 replace hB := sw2.z hB
 replace hI0 := hI0w2
 refine q1 (q0 (lP 1 tK rfl ?_))
 refine lC (oD tK (h2.cell 3 _ rfl) rfl rfl rfl rfl rfl ?_)
 refine lC (o_len tK hk rfl rfl rfl rfl rfl ?_)
 refine lP 1 tK rfl (q1 (cB ?_))
 refine c_loop2 (X := Nat) (Y := Nat → Prop) (fun i M1 => [(1, .func (.func g) #[] caps.toArray), (10, kv), (11, .int .i64 (t.kids.length : Int)), (12, .int .i64 (i : Nat))]) (fun i M1 w' => i ≤ t.kids.length ∧ I M1 (acc ++ t :: (t.kids.take i).flatMap partsL) w' ∧ Sl M1 w' kv t.kids ∧ Stp B M M1 w w' ∧ Low M1 w' ∧ B ≤ w'.heap.size) (fun i M1 => t.kids.length - i) (0) (Mw2) (s4 rfl rfl rfl rfl) ?_ ?_
 ·exact ⟨Nat.zero_le _, hI0, hk, hT, Lw, hB⟩
 clear hk hI0 ht
 rintro i M1 w3 ⟨hi, hI0, hk, hT, Lw, hB⟩
 refine q0 (lP 1 tK rfl (q1 (cS ?_)))
 refine cP _ rfl (fun c1 => ?_) (fun c1 => ?_)
 ·refine cK (xS (cS (cB (q0 ?_))))
  have hik : i < t.kids.length := by omega
  have e3 := take_psz t.kids (i + 1)
  rw [show pszs (t.kids.take (i + 1)) = pszs (t.kids.take i) + psz t.kids[i] by unfold pszs; rw [take_step hik, List.length_append]; rfl] at e3
  refine lC (o_ixS tK hk (gE hik) rfl rfl rfl rfl rfl rfl rfl rfl rfl ?_)
  intro ebx eox eux hyx hX
  obtain ⟨kvx, rfl, opx, nmx, n64x, hkx⟩ := tO hyx
  replace hX : At M1 w3 ebx eox [.int .u8 t.kids[i].op, .string t.kids[i].name, .int .i64 t.kids[i].n, kvx] := hX
  refine lC (oL tK (fun j v hv => hX.cell j v hv) rfl rfl rfl rfl rfl rfl ?_)
  refine lC (o_new tK rfl rfl rfl ?_)
  intro b5 w4 qb5 ew4 hb5
  have nb5 := nO Lw qb5
  refine lC (o_st tK hb5 rfl rfl rfl rfl (Rep.one hyx) rfl rfl ?_)
  intro w5 h5 uw5 bew5
  have ew5 : Ext w3 w5 := ew4.trans (bew5 _ (lQ qb5.symm))
  replace hI0 := hx _ _ _ _ hI0 ew5
  replace hT := hT.then (Stp.Y ew5 Lw hB)
  replace hk := hk.Y ew5
  replace hyx := Rep.Y hyx ew5
  replace hkx := hkx.Y ew5
  replace hX := hX.Y ew5
  replace Lw := Lw.Y ew5
  replace hB := ew5.z hB
  replace h5 : Box w5 b5 29 [.int .u8 t.kids[i].op, .string t.kids[i].name, .int .i64 t.kids[i].n, kvx] := h5
  replace h5 := h5.at nb5
  refine q1 (cG ?_)
  refine lC (oL tK (fun j v hv => h5.cell j v hv) rfl rfl rfl rfl rfl rfl ?_)
  refine lP 1 tK rfl ?_
  have hal : (acc ++ t :: (t.kids.take i).flatMap partsL).length = acc.length + 1 + pszs (t.kids.take i) := by simp [pszs]; omega
  refine lC (oK fo106 rfl rfl rfl (ih _ (gM hik) _ _ _ _ (by omega) hI0 hyx) ?_)
  rintro _ w6 ⟨rfl, Mw6, hI0w6, sw6⟩
  replace hT := hT.then sw6
  replace hk := hk.sp sw6
  replace hyx := Rep.sp hyx sw6
  replace hkx := hkx.sp sw6
  replace hX := hX.sp sw6
  replace h5 := h5.sp sw6
  replace Lw := sw6.low
  replace hB := sw6.z hB
  replace hI0 := hI0w6
  refine q2 (xS (cG ?_))
  refine lC (o_ai rfl rfl rfl (by omega) rfl rfl ?_)
  refine lP 1 tK rfl (lN ?_)
  exact xN (i + 1) (Mw6) (s4 rfl rfl rfl (gN rfl (by omega))) ⟨by omega, by rw [take_step hik]; simpa using hI0, hk, hT, Lw, hB⟩ (by omega)
 refine c_exit (xE (xE (x_blkE ?_)))
 refine x_ret0n rfl ?_
 obtain rfl : i = t.kids.length := by omega
 rw [List.take_of_length_le (lR _), ← partsL_eq] at hI0
 exact ⟨rfl, _, hI0, hT⟩
/-- Between two parts: the variables so far. -/
def VI (B b1 b2 bm : Nat) (M : Nat → Prop) (acc : List Ty) (w : World) : Prop := ∃ v m, MB B M w b1 128 [.map (some bm)] ∧ MB B M w b2 35 [v] ∧ OM (κ := Int) (fun x : Bool => Value.bool x) B M w bm m ∧ OwnSl 3 B M w v (varsTo [] acc) ∧ (∀ n, (getK m n).getD false = decide (n ∈ varsTo [] acc)) ∧
 b1 ≠ b2 ∧ b1 ≠ bm ∧ b2 ≠ bm ∧ (∀ x, (v : Value).ownBlock = some x → x ≠ b1) ∧ (∀ x, (v : Value).ownBlock = some x → x ≠ b2) ∧ (∀ x, (v : Value).ownBlock = some x → x ≠ bm) ∧ Low M w ∧ B ≤ w.heap.size
theorem VI.Y {B b1 b2 bm : Nat} {M : Nat → Prop} {acc : List Ty} {w w' : World} (h : VI B b1 b2 bm M acc w) (e : Ext w w') : VI B b1 b2 bm M acc w' := by
 obtain ⟨v, m, h1, h2, hm, ho, hg, r1, r2, r3, r4, r5, r6, Lw, hB⟩ := h
 exact ⟨v, m, h1.Y Lw hB e, h2.Y Lw hB e, hm.Y Lw hB e, ho.Y Lw hB e, hg, r1, r2, r3, r4, r5, r6, Lw.Y e, Nat.le_trans hB e.size⟩
theorem varsDo_spec (B b1 b2 bm : Nat) (M : Nat → Prop) (acc : List Ty) (w : World) (v : Value) (t : Ty) (hN : acc.length < 2000000) (hI : VI B b1 b2 bm M acc w) (ht : Rep.R M w v t) :
  Calls Tryz.prog 108 #[v, .pointer (some ⟨b1, 0, none⟩), .pointer (some ⟨b2, 0, none⟩)] w (Ret fun r w' => r = .tuple #[] ∧ ∃ M', VI B b1 b2 bm M' (acc ++ [t]) w' ∧ Stp B M M' w w') := by
 obtain ⟨lv, m, h1, h2, hm, ho, hg, ne_h1_h2, ne_h1_hm, ne_h2_hm, d_ho_h1, d_ho_h2, d_ho_hm, Lw, hB⟩ := hI
 have hT : Stp B M M w w := Stp.refl Lw
 have hvl := varsTo_len [] acc
 simp only [List.length_nil, Nat.zero_add] at hvl
 obtain ⟨kv, rfl, op, nm, n64, hk⟩ := tO ht
 refine cN (n := 27) Tryz.func108 rfl rfl rfl ?_
 refine q0 ?_
 refine lC (o_box rfl rfl rfl ?_)
 intro b3 w1 hb_b3 ew1 h3
 replace h3 : Box _ b3 29 [.int .u8 t.op, .string t.name, .int .i64 t.n, kv] := h3
 replace h3 := h3.at (nO Lw hb_b3)
 replace hT := hT.then (Stp.Y ew1 Lw hB)
 replace h1 := h1.Y Lw hB ew1
 replace h2 := h2.Y Lw hB ew1
 replace hm := hm.Y Lw hB ew1
 replace ho := ho.Y Lw hB ew1
 replace ht := Rep.Y ht ew1
 replace hk := hk.Y ew1
 replace Lw := Lw.Y ew1
 replace hB := ew1.z hB
 refine q1 (q0 (lP 1 tK rfl ?_))
 refine lC (oD tK (h3.cell 0 _ rfl) rfl rfl rfl rfl rfl ?_)
 refine lP 2 tK rfl ?_
 refine lS 7 _ rfl (fun c1 => ?_) (fun c1 => ?_)
 ·refine lP 5 tK rfl ?_
  refine lC (oD tK (h1.cell 0 _ rfl) rfl rfl rfl rfl rfl ?_)
  refine lP 1 tK rfl ?_
  refine lC (oD tK (h3.cell 2 _ rfl) rfl rfl rfl rfl rfl ?_)
  refine lC (o_look (z := false) tK hm.map (k := t.n) rfl rfl rfl rfl ⟨_, Tryz.underlying3, rfl⟩ rfl rfl rfl rfl ?_)
  refine lP 2 tK rfl (q1 ?_)
  refine c_ifB _ rfl (fun c2 => ?_) (fun c2 => ?_)
  ·refine q0 ?_
   refine lC (oD tK (h1.cell 0 _ rfl) rfl rfl rfl rfl rfl ?_)
   refine lP 1 tK rfl ?_
   refine lC (oD tK (h3.cell 2 _ rfl) rfl rfl rfl rfl rfl ?_)
   refine lC (o_mupd tK hm.map (k := t.n) (v := true) rfl rfl rfl rfl rfl ⟨_, Tryz.underlying3, rfl⟩ rfl ?_)
   intro w2 hw2 qw2 bew2
   have uw2 : UpdB _ _ _ := ⟨qw2, bew2⟩
   have sw2 := uw2.sp hm.inM Lw hm.ge
   have frw2 := qw2.2
   replace hT := hT.then sw2
   replace h1 := h1.sp sw2 (frw2 b1 h1.lt ne_h1_hm)
   replace h2 := h2.sp sw2 (frw2 b2 h2.lt ne_h2_hm)
   replace ho := ho.sp sw2 (fun x hx => frw2 x (ho.lt x hx).2 (d_ho_hm x hx))
   replace ht := Rep.sp ht sw2
   replace hk := hk.sp sw2
   replace h3 := h3.sp sw2
   replace Lw := sw2.low
   replace hB := sw2.z hB
   replace hm : OM _ _ _ w2 _ (putK m t.n true) := ⟨hw2, hm.inM, hm.ge⟩
   refine q1 (cG ?_)
   refine lC (oD tK (h2.cell 0 _ rfl) rfl rfl rfl rfl rfl ?_)
   refine lP 1 tK rfl ?_
   refine lC (oD tK (h3.cell 2 _ rfl) rfl rfl rfl rfl rfl ?_)
   refine lC (o_bs tK rfl rfl rfl rfl rfl rfl rfl (sz1 rfl) rfl rfl rfl ?_)
   intro bw3 w3 qbw3 ew3 hbw3
   have nbw3 := nO Lw qbw3
   replace hT := hT.then (Stp.Y ew3 Lw hB)
   replace h1 := h1.Y Lw hB ew3
   replace h2 := h2.Y Lw hB ew3
   replace hm := hm.Y Lw hB ew3
   replace ho := ho.Y Lw hB ew3
   replace ht := Rep.Y ht ew3
   replace hk := hk.Y ew3
   replace h3 := h3.Y ew3
   replace Lw := Lw.Y ew3
   replace hB := ew3.z hB
   refine lC (o_app1 tK ho hbw3 nbw3 ⟨rfl, n64⟩ Lw hB rfl rfl rfl rfl rfl rfl rfl (by omega) (by show (_ + _) * 8 ≤ _; omega) rfl rfl ?_)
   intro vw4 w4 Mw4 hw4 sw4 frw4 blw4
   have zd_ho_h1 := d_ho_h1
   replace d_ho_h1 : ∀ x, (vw4 : Value).ownBlock = some x → x ≠ b1 := fun x hx => (blw4 x hx).elim (d_ho_h1 x) (fun h e => by have := h1.lt; omega)
   have zd_ho_h2 := d_ho_h2
   replace d_ho_h2 : ∀ x, (vw4 : Value).ownBlock = some x → x ≠ b2 := fun x hx => (blw4 x hx).elim (d_ho_h2 x) (fun h e => by have := h2.lt; omega)
   have zd_ho_hm := d_ho_hm
   replace d_ho_hm : ∀ x, (vw4 : Value).ownBlock = some x → x ≠ bm := fun x hx => (blw4 x hx).elim (d_ho_hm x) (fun h e => by have := hm.lt; omega)
   replace hT := hT.then sw4
   replace h1 := h1.sp sw4 (frw4 b1 h1.lt (fun e => zd_ho_h1 _ e.symm rfl))
   replace h2 := h2.sp sw4 (frw4 b2 h2.lt (fun e => zd_ho_h2 _ e.symm rfl))
   replace hm := hm.sp sw4 (frw4 bm hm.lt (fun e => zd_ho_hm _ e.symm rfl))
   replace ht := Rep.sp ht sw4
   replace hk := hk.sp sw4
   replace h3 := h3.sp sw4
   replace Lw := sw4.low
   replace hB := sw4.z hB
   replace ho := hw4
   clear hw4
   obtain ⟨av6, cv6, rfl, _⟩ := ho.val
   refine lC (o_st tK h2.box rfl rfl rfl rfl (by simp [Value.cells, Value.oneCell']) rfl rfl ?_)
   intro w5 hw5 qw5 bew5
   have uw5 : UpdB _ _ _ := ⟨qw5, bew5⟩
   have sw5 := uw5.sp h2.inM Lw h2.ge
   have frw5 := qw5.2
   replace hT := hT.then sw5
   replace h1 := h1.sp sw5 (frw5 b1 h1.lt ne_h1_h2)
   replace hm := hm.sp sw5 (frw5 bm hm.lt ne_h2_hm.symm)
   replace ho := ho.sp sw5 (fun x hx => frw5 x (ho.lt x hx).2 (d_ho_h2 x hx))
   replace ht := Rep.sp ht sw5
   replace hk := hk.sp sw5
   replace h3 := h3.sp sw5
   replace Lw := sw5.low
   replace hB := sw5.z hB
   replace h2 : MB B _ w5 b2 _ [(.slice av6 (varsTo [] acc ++ [t.n]).length cv6)] := ⟨hw5, h2.inM, h2.ge⟩
   refine lN ?_
   refine x_ret0n rfl ?_
   have hnm : numB t.op = true := by simp [numB, *]
   have hni : t.n ∉ varsTo [] acc := by
    intro h
    have h2 := hg t.n
    rw [dT h] at h2
    simp_all
   refine ⟨rfl, _, ⟨_, _, h1, h2, hm, by rw [varsTo_yes hnm hni]; exact ho, fun n => ?_, ne_h1_h2, ne_h1_hm, ne_h2_hm, d_ho_h1, d_ho_h2, d_ho_hm, Lw, hB⟩, hT⟩
   rw [getK_put, varsTo_yes hnm hni]
   by_cases e : n = t.n
   ·subst e; simp
   ·rw [if_neg e, hg n]; simp [e]
  refine cK ?_
  refine x_ret0n rfl ?_
  have hvs : varsTo [] (acc ++ [t]) = varsTo [] acc := by
   cases hnm : numB t.op with
   | false => exact varsTo_no hnm
   | true =>
    refine varsTo_old ?_
    have h2 := hg t.n
    unfold numB at hnm
    simp_all
  refine ⟨rfl, _, ⟨_, _, h1, h2, hm, by rw [hvs]; exact ho, fun n => by rw [hvs]; exact hg n, ne_h1_h2, ne_h1_hm, ne_h2_hm, d_ho_h1, d_ho_h2, d_ho_hm, Lw, hB⟩, hT⟩
 refine lP 1 tK rfl ?_
 refine lC (oD tK (h3.cell 0 _ rfl) rfl rfl rfl rfl rfl ?_)
 refine lP 3 tK rfl ?_
 refine lS 12 _ rfl (fun c3 => ?_) (fun c3 => ?_)
 ·refine lC (oD tK (h1.cell 0 _ rfl) rfl rfl rfl rfl rfl ?_)
  refine lP 1 tK rfl ?_
  refine lC (oD tK (h3.cell 2 _ rfl) rfl rfl rfl rfl rfl ?_)
  refine lC (o_look (z := false) tK hm.map (k := t.n) rfl rfl rfl rfl ⟨_, Tryz.underlying3, rfl⟩ rfl rfl rfl rfl ?_)
  refine lP 2 tK rfl (q1 ?_)
  refine c_ifB _ rfl (fun c4 => ?_) (fun c4 => ?_)
  ·refine q0 ?_
   refine lC (oD tK (h1.cell 0 _ rfl) rfl rfl rfl rfl rfl ?_)
   refine lP 1 tK rfl ?_
   refine lC (oD tK (h3.cell 2 _ rfl) rfl rfl rfl rfl rfl ?_)
   refine lC (o_mupd tK hm.map (k := t.n) (v := true) rfl rfl rfl rfl rfl ⟨_, Tryz.underlying3, rfl⟩ rfl ?_)
   intro w6 hw6 qw6 bew6
   have uw6 : UpdB _ _ _ := ⟨qw6, bew6⟩
   have sw6 := uw6.sp hm.inM Lw hm.ge
   have frw6 := qw6.2
   replace hT := hT.then sw6
   replace h1 := h1.sp sw6 (frw6 b1 h1.lt ne_h1_hm)
   replace h2 := h2.sp sw6 (frw6 b2 h2.lt ne_h2_hm)
   replace ho := ho.sp sw6 (fun x hx => frw6 x (ho.lt x hx).2 (d_ho_hm x hx))
   replace ht := Rep.sp ht sw6
   replace hk := hk.sp sw6
   replace h3 := h3.sp sw6
   replace Lw := sw6.low
   replace hB := sw6.z hB
   replace hm : OM _ _ _ w6 _ (putK m t.n true) := ⟨hw6, hm.inM, hm.ge⟩
   refine q1 (cG ?_)
   refine lC (oD tK (h2.cell 0 _ rfl) rfl rfl rfl rfl rfl ?_)
   refine lP 1 tK rfl ?_
   refine lC (oD tK (h3.cell 2 _ rfl) rfl rfl rfl rfl rfl ?_)
   refine lC (o_bs tK rfl rfl rfl rfl rfl rfl rfl (sz1 rfl) rfl rfl rfl ?_)
   intro bw7 w7 qbw7 ew7 hbw7
   have nbw7 := nO Lw qbw7
   replace hT := hT.then (Stp.Y ew7 Lw hB)
   replace h1 := h1.Y Lw hB ew7
   replace h2 := h2.Y Lw hB ew7
   replace hm := hm.Y Lw hB ew7
   replace ho := ho.Y Lw hB ew7
   replace ht := Rep.Y ht ew7
   replace hk := hk.Y ew7
   replace h3 := h3.Y ew7
   replace Lw := Lw.Y ew7
   replace hB := ew7.z hB
   refine lC (o_app1 tK ho hbw7 nbw7 ⟨rfl, n64⟩ Lw hB rfl rfl rfl rfl rfl rfl rfl (by omega) (by show (_ + _) * 8 ≤ _; omega) rfl rfl ?_)
   intro vw8 w8 Mw8 hw8 sw8 frw8 blw8
   have zd_ho_h1 := d_ho_h1
   replace d_ho_h1 : ∀ x, (vw8 : Value).ownBlock = some x → x ≠ b1 := fun x hx => (blw8 x hx).elim (d_ho_h1 x) (fun h e => by have := h1.lt; omega)
   have zd_ho_h2 := d_ho_h2
   replace d_ho_h2 : ∀ x, (vw8 : Value).ownBlock = some x → x ≠ b2 := fun x hx => (blw8 x hx).elim (d_ho_h2 x) (fun h e => by have := h2.lt; omega)
   have zd_ho_hm := d_ho_hm
   replace d_ho_hm : ∀ x, (vw8 : Value).ownBlock = some x → x ≠ bm := fun x hx => (blw8 x hx).elim (d_ho_hm x) (fun h e => by have := hm.lt; omega)
   replace hT := hT.then sw8
   replace h1 := h1.sp sw8 (frw8 b1 h1.lt (fun e => zd_ho_h1 _ e.symm rfl))
   replace h2 := h2.sp sw8 (frw8 b2 h2.lt (fun e => zd_ho_h2 _ e.symm rfl))
   replace hm := hm.sp sw8 (frw8 bm hm.lt (fun e => zd_ho_hm _ e.symm rfl))
   replace ht := Rep.sp ht sw8
   replace hk := hk.sp sw8
   replace h3 := h3.sp sw8
   replace Lw := sw8.low
   replace hB := sw8.z hB
   replace ho := hw8
   clear hw8
   obtain ⟨av6, cv6, rfl, _⟩ := ho.val
   refine lC (o_st tK h2.box rfl rfl rfl rfl (by simp [Value.cells, Value.oneCell']) rfl rfl ?_)
   intro w9 hw9 qw9 bew9
   have uw9 : UpdB _ _ _ := ⟨qw9, bew9⟩
   have sw9 := uw9.sp h2.inM Lw h2.ge
   have frw9 := qw9.2
   replace hT := hT.then sw9
   replace h1 := h1.sp sw9 (frw9 b1 h1.lt ne_h1_h2)
   replace hm := hm.sp sw9 (frw9 bm hm.lt ne_h2_hm.symm)
   replace ho := ho.sp sw9 (fun x hx => frw9 x (ho.lt x hx).2 (d_ho_h2 x hx))
   replace ht := Rep.sp ht sw9
   replace hk := hk.sp sw9
   replace h3 := h3.sp sw9
   replace Lw := sw9.low
   replace hB := sw9.z hB
   replace h2 : MB B _ w9 b2 _ [(.slice av6 (varsTo [] acc ++ [t.n]).length cv6)] := ⟨hw9, h2.inM, h2.ge⟩
   refine lN ?_
   refine x_ret0n rfl ?_
   have hnm : numB t.op = true := by simp [numB, *]
   have hni : t.n ∉ varsTo [] acc := by
    intro h
    have h2 := hg t.n
    rw [dT h] at h2
    simp_all
   refine ⟨rfl, _, ⟨_, _, h1, h2, hm, by rw [varsTo_yes hnm hni]; exact ho, fun n => ?_, ne_h1_h2, ne_h1_hm, ne_h2_hm, d_ho_h1, d_ho_h2, d_ho_hm, Lw, hB⟩, hT⟩
   rw [getK_put, varsTo_yes hnm hni]
   by_cases e : n = t.n
   ·subst e; simp
   ·rw [if_neg e, hg n]; simp [e]
  refine cK ?_
  refine x_ret0n rfl ?_
  have hvs : varsTo [] (acc ++ [t]) = varsTo [] acc := by
   cases hnm : numB t.op with
   | false => exact varsTo_no hnm
   | true =>
    refine varsTo_old ?_
    have h2 := hg t.n
    unfold numB at hnm
    simp_all
  refine ⟨rfl, _, ⟨_, _, h1, h2, hm, by rw [hvs]; exact ho, fun n => by rw [hvs]; exact hg n, ne_h1_h2, ne_h1_hm, ne_h2_hm, d_ho_h1, d_ho_h2, d_ho_hm, Lw, hB⟩, hT⟩
 refine lP 6 tK rfl (q1 (c_ifF rfl (cK ?_)))
 refine x_ret0n rfl ?_
 have hvs : varsTo [] (acc ++ [t]) = varsTo [] acc := by
  cases hnm : numB t.op with
  | false => exact varsTo_no hnm
  | true =>
   refine varsTo_old ?_
   have h2 := hg t.n
   unfold numB at hnm
   simp_all
 refine ⟨rfl, _, ⟨_, _, h1, h2, hm, by rw [hvs]; exact ho, fun n => by rw [hvs]; exact hg n, ne_h1_h2, ne_h1_hm, ne_h2_hm, d_ho_h1, d_ho_h2, d_ho_hm, Lw, hB⟩, hT⟩
theorem kVars_spec (t : Ty) (M : Nat → Prop) (w : World) (v : Value) (ht : Rep.R M w v t) (hlow0 : Low M w) (hz : psz t ≤ 2000000) :
  Calls Tryz.prog 96 #[v] w (Ret fun r w' => Sl M w' r (bif rightB t || rowB t then varsF t else []) ∧ Ext w w') := by
 have Lw := hlow0
 have hB := lR w.heap.size
 have hE := Below.refl w.heap.size w
 have hsub : ∀ b, M b → M b := fun _ h => h
 obtain ⟨kv, rfl, op, nm, n64, hk⟩ := tO ht
 refine cN (n := 14) Tryz.func96 rfl rfl rfl ?_
 refine q0 ?_
 refine lC (o_box rfl rfl rfl ?_)
 intro b1 w1 hb_b1 ew1 h1
 replace h1 : Box _ b1 29 [.int .u8 t.op, .string t.name, .int .i64 t.n, kv] := h1
 replace h1 := h1.at (nO Lw hb_b1)
 replace hE := ew1.bl hE hB
 replace ht := Rep.Y ht ew1
 replace hk := hk.Y ew1
 replace Lw := Lw.Y ew1
 replace hB := ew1.z hB
 refine lP 1 tK rfl (q1 (cS (q0 ?_)))
 refine lC (oL tK (fun j v hv => h1.cell j v hv) rfl rfl rfl rfl rfl rfl ?_)
 refine lC (oK fo95 rfl rfl rfl (either_specB t _ _ _ ht Lw) ?_)
 rintro _ w2 ⟨rfl, ew2⟩
 replace hE := ew2.bl hE hB
 replace ht := Rep.Y ht ew2
 replace hk := hk.Y ew2
 replace h1 := h1.Y ew2
 replace Lw := Lw.Y ew2
 replace hB := ew2.z hB
 refine lP 1 tK rfl (q1 ?_)
 refine c_ifB _ rfl (fun hr => ?_) (fun hr => ?_)
 ·refine q0 (lP 1 tK rfl (q1 (cR (xR (x1_ rfl rfl ?_)))))
  exact ⟨by rw [show (rightB t || rowB t) = false from hr]; exact sl_nil, hE⟩
 refine cK (xS (q0 ?_))
 refine lC (o_new tK rfl rfl rfl ?_)
 intro b3 w3 qb3 ew3 hb3
 have sw3 := Stp.add ew3 Lw hB (lQ qb3.symm) hb3.lt
 have h3 : MB w.heap.size (Rw.Add M b3) w3 b3 35 [.slice none 0 0] := MB.mk' hb3 qb3 hB
 replace hE := hE.trans sw3.below
 replace ht := Rep.sp ht sw3
 replace hk := hk.sp sw3
 replace h1 := h1.sp sw3
 replace hsub := sw3.sb hsub
 replace Lw := sw3.low
 replace hB := sw3.z hB
 refine q1 (q0 ?_)
 refine lC (o_mkmap (κ := Int) (ν := Bool) (va := (fun x : Bool => Value.bool x)) rfl rfl ?_)
 intro bm w4 qbm ew4 ltbm hbm
 have ne_h3_hm : b3 ≠ bm := by have := h3.lt; omega
 have sw4 := Stp.add ew4 Lw hB (lQ qbm.symm) ltbm
 have hm : OM (κ := Int) (fun x : Bool => Value.bool x) w.heap.size (Rw.Add (Rw.Add M b3) bm) w4 bm [] := OM.mk' hbm qbm hB
 replace h3 := h3.sp sw4 (ew4.block b3 h3.lt)
 replace hE := hE.trans sw4.below
 replace ht := Rep.sp ht sw4
 replace hk := hk.sp sw4
 replace h1 := h1.sp sw4
 replace hsub := sw4.sb hsub
 replace Lw := sw4.low
 replace hB := sw4.z hB
 refine lC (o_new tK rfl rfl rfl ?_)
 intro b4 w5 qb4 ew5 hb4
 have ne_h3_h4 : b3 ≠ b4 := by have := h3.lt; omega
 have ne_hm_h4 : bm ≠ b4 := by have := hm.lt; omega
 have sw5 := Stp.add ew5 Lw hB (lQ qb4.symm) hb4.lt
 have h4 : MB w.heap.size (Rw.Add (Rw.Add (Rw.Add M b3) bm) b4) w5 b4 128 [.map none] := MB.mk' hb4 qb4 hB
 replace h3 := h3.sp sw5 (ew5.block b3 h3.lt)
 replace hm := hm.sp sw5 (ew5.block bm hm.lt)
 replace hE := hE.trans sw5.below
 replace ht := Rep.sp ht sw5
 replace hk := hk.sp sw5
 replace h1 := h1.sp sw5
 replace hsub := sw5.sb hsub
 replace Lw := sw5.low
 replace hB := sw5.z hB
 refine lC (o_st tK h4.box rfl rfl rfl rfl (by intro u hu; simp [Value.cells] at hu; subst hu; rfl) rfl rfl ?_)
 intro w6 hw6 qw6 bew6
 have uw6 : UpdB _ _ _ := ⟨qw6, bew6⟩
 have sw6 := uw6.sp h4.inM Lw h4.ge
 have frw6 := qw6.2
 replace h3 := h3.sp sw6 (frw6 b3 h3.lt ne_h3_h4)
 replace hm := hm.sp sw6 (frw6 bm hm.lt ne_hm_h4)
 replace hE := hE.trans sw6.below
 replace ht := Rep.sp ht sw6
 replace hk := hk.sp sw6
 replace h1 := h1.sp sw6
 replace hsub := sw6.sb hsub
 replace Lw := sw6.low
 replace hB := sw6.z hB
 replace h4 : MB w.heap.size _ w6 b4 _ [.map (some bm)] := ⟨hw6, h4.inM, h4.ge⟩
 refine q1 (q0 ?_)
 refine lC (oL tK (fun j v hv => h1.cell j v hv) rfl rfl rfl rfl rfl rfl ?_)
 refine lC (oK fo107 rfl rfl rfl (canon_all _ t _ _ _ _ (lR _) (Classical.choose_spec (shape_either hr)) ht Lw hz) ?_)
 rintro vc w7 ⟨hc, ew7⟩
 replace h3 := h3.Y Lw hB ew7
 replace hm := hm.Y Lw hB ew7
 replace h4 := h4.Y Lw hB ew7
 replace hE := ew7.bl hE hB
 replace ht := Rep.Y ht ew7
 replace hk := hk.Y ew7
 replace h1 := h1.Y ew7
 replace Lw := Lw.Y ew7
 replace hB := ew7.z hB
 refine lP 1 tK rfl ?_
 have hpc := psz_canon _ t (lR _)
 have hvl0 := varsTo_len [] (partsL (canonF t))
 have hvl1 : (partsL (canonF t)).length = psz (canonF t) := rfl
 simp only [List.length_nil, Nat.zero_add] at hvl0
 have hV : VI w.heap.size b4 b3 bm (Rw.Add (Rw.Add (Rw.Add M b3) bm) b4) [] w7 := ⟨_, _, h4, h3, hm, own_nil, fun n => by simp [getK, varsTo], ne_h3_h4.symm, ne_hm_h4.symm, ne_h3_hm, fun x hx => by simp [Value.ownBlock] at hx, fun x hx => by simp [Value.ownBlock] at hx, fun x hx => by simp [Value.ownBlock] at hx, Lw, hB⟩
 refine lC (oK fo106 rfl rfl rfl (each_spec 108 [.pointer (some ⟨b4, 0, none⟩), .pointer (some ⟨b3, 0, none⟩)] w.heap.size 2000000 (VI w.heap.size b4 b3 bm) fo108 (fun _ _ _ _ h e => h.Y e) (fun _ _ _ h => by obtain ⟨v, m, h1, h2, hm, ho, hg, r1, r2, r3, r4, r5, r6, Lw, hB⟩ := h; exact ⟨Lw, hB⟩) (fun M acc w u x hN hI hu => varsDo_spec _ _ _ _ M acc w u x hN hI hu) (canonF t) _ [] _ _ (by simp only [List.length_nil]; omega) hV hc) ?_)
 rintro _ w8 ⟨rfl, Mw8, hV2, sw8⟩
 replace hE := hE.trans sw8.below
 replace ht := Rep.sp ht sw8
 replace hk := hk.sp sw8
 replace h1 := h1.sp sw8
 replace hc := Rep.sp hc sw8
 replace hsub := sw8.sb hsub
 replace Lw := sw8.low
 replace hB := sw8.z hB
 obtain ⟨lv, m2, h4, h3, hm, ho, _, _, _, _, _, _, _, _, _⟩ := hV2
 rw [List.nil_append] at ho
 refine q1 (q0 ?_)
 refine lC (oD tK (h3.cell 0 _ rfl) rfl rfl rfl rfl rfl ?_)
 refine lP 1 tK rfl (q1 (cR (x1_ rfl rfl ?_)))
 refine ⟨?_, hE⟩
 rw [show (rightB t || rowB t) = true from hr]
 exact ho.sl (by omega) hlow0 hsub
theorem kClosed_spec (t : Ty) (M : Nat → Prop) (w : World) (v : Value) (ht : Rep.R M w v t) (Lw : Low M w) (hz : psz t ≤ 2000000) :
  Calls Tryz.prog 76 #[v] w (Ret fun r w' => r = .bool ((rightB t || rowB t) && decide (varsF t = [])) ∧ Ext w w') := by
 have hE := Below.refl w.heap.size w
 have hB := lR w.heap.size
 obtain ⟨kv, rfl, op, nm, n64, hk⟩ := tO ht
 refine cN (n := 11) Tryz.func76 rfl rfl rfl ?_
 refine q0 ?_
 refine lC (o_box rfl rfl rfl ?_)
 intro b1 w1 hb_b1 ew1 h1
 replace h1 : Box _ b1 29 [.int .u8 t.op, .string t.name, .int .i64 t.n, kv] := h1
 replace h1 := h1.at (nO Lw hb_b1)
 replace hE := ew1.bl hE hB
 replace ht := Rep.Y ht ew1
 replace hk := hk.Y ew1
 replace Lw := Lw.Y ew1
 replace hB := ew1.z hB
 refine lP 1 tK rfl (q1 (q0 ?_))
 refine lC (oL tK (fun j v hv => h1.cell j v hv) rfl rfl rfl rfl rfl rfl ?_)
 refine lC (oK fo95 rfl rfl rfl (either_specB t _ _ _ ht Lw) ?_)
 rintro _ w2 ⟨rfl, ew2⟩
 replace hE := ew2.bl hE hB
 replace ht := Rep.Y ht ew2
 replace hk := hk.Y ew2
 replace h1 := h1.Y ew2
 replace Lw := Lw.Y ew2
 replace hB := ew2.z hB
 refine lP 1 tK rfl ?_
 refine l_split 5 _ rfl (fun hr => ?_) (fun hr => ?_)
 ·refine lC (oL tK (fun j v hv => h1.cell j v hv) rfl rfl rfl rfl rfl rfl ?_)
  refine lC (oK fo96 rfl rfl rfl (kVars_spec t _ _ _ ht Lw hz) ?_)
  rintro vhv w3 ⟨hv, ew3⟩
  replace hE := ew3.bl hE hB
  replace ht := Rep.Y ht ew3
  replace hk := hk.Y ew3
  replace h1 := h1.Y ew3
  replace Lw := Lw.Y ew3
  replace hB := ew3.z hB
  refine lC (o_len tK hv rfl rfl rfl rfl rfl ?_)
  refine lP 3 tK rfl (q1 (cR (x1_ rfl rfl ?_)))
  refine ⟨?_, hE⟩
  rw [show (rightB t || rowB t) = true from hr]
  simp only [cond_true, Bool.true_and]
  congr 1
  cases varsF t <;> simp <;> omega
 refine lP 6 tK rfl (q1 (cR (x1_ rfl rfl ?_)))
 exact ⟨by rw [show (rightB t || rowB t) = false from hr]; rfl, hE⟩
end Go.Proofs.YtpoahmeacjggfaaGreat
namespace Rw
open Go Go.RowKit
theorem mid_get {cs sub : List Value} {k j : Nat} {v : Value} (hs : (cs.drop k).take sub.length = sub) (hv : sub[j]? = some v) : cs[k + j]? = some v := by
  have hj := (List.getElem?_eq_some_iff.1 hv).1
  rw [← hs, List.getElem?_take_of_lt hj, List.getElem?_drop] at hv
  exact hv
theorem At.mid {M : Nat → Prop} {w : World} {b off : Nat} {cs sub : List Value} (h : At M w b off cs) (k : Nat) (hs : (cs.drop k).take sub.length = sub) (j : Nat) (v : Value) (hv : sub[j]? = some v) : w.cell? ⟨b, off + k + j, none⟩ = some v := by
  have := h.cell (k + j) v (mid_get hs hv)
  rwa [← Nat.add_assoc] at this
/-- An expression: an op, a name, an argument's name, a number, whether it has an annotation, the annotation, kids. -/
inductive Tm where
  | mk (op : Int) (name arg : ByteArray) (n : Int) (has : Bool) (ann : Ty) (kids : List Tm)
namespace Tm
def op : Tm → Int | mk o _ _ _ _ _ _ => o
def name : Tm → ByteArray | mk _ s _ _ _ _ _ => s
def arg : Tm → ByteArray | mk _ _ s _ _ _ _ => s
def n : Tm → Int | mk _ _ _ n _ _ _ => n
def has : Tm → Bool | mk _ _ _ _ b _ _ => b
def ann : Tm → Ty | mk _ _ _ _ _ a _ => a
def kids : Tm → List Tm | mk _ _ _ _ _ _ l => l
end Tm
theorem Tm.ind {p : Tm → Prop} (h : ∀ t, (∀ k ∈ t.kids, p k) → p t) (t : Tm) : p t := by
  generalize e : sizeOf t = n
  induction n using Nat.strongRecOn generalizing t with
  | ind n ih =>
    refine h t fun k hk => ih (sizeOf k) ?_ k rfl
    cases t with
    | mk o s g m b a l =>
      have h1 : sizeOf k < sizeOf l := List.sizeOf_lt_of_mem hk
      rw [← e, Tm.mk.sizeOf_spec]
      omega
/-- The value reads as the expression. -/
inductive TmR (M : Nat → Prop) (w : World) : Tm → Value → Prop
  | mk {op n : Int} {name arg : ByteArray} {has : Bool} {ann : Ty} {kids : List Tm} {a : Option Addr} {cap : Nat} {akv : Value} (b off : Nat) (u : Nat → Value) (hop : 0 ≤ op ∧ op ≤ 255) (hs : name.size < 140737488355328) (hg : arg.size < 140737488355328) (hn : I64 n)
      (hann : TyR M w ann (.agg #[.int .u8 ann.op, .string ann.name, .int .i64 ann.n, akv])) (hl : kids.length < 140737488355328) (hc : kids.length ≤ cap)
      (ha : kids = [] ∨ a = some ⟨b, off, none⟩) (hu : ∀ (i : Nat) (x : Tm), kids[i]? = some x → TmR M w x (u i)) (hA : ∀ (i : Nat) (x : Tm), kids[i]? = some x → At M w b (off + i * 10) (u i).cells.toList) :
      TmR M w (.mk op name arg n has ann kids) (.agg #[.int .u8 op, .string name, .string arg, .int .i64 n, .bool has, .int .u8 ann.op, .string ann.name, .int .i64 ann.n, akv, .slice a kids.length cap])
theorem TmR.map {M M' : Nat → Prop} {w w' : World} (hat : ∀ {b off : Nat} {cs : List Value}, At M w b off cs → At M' w' b off cs) : ∀ (t : Tm) (v : Value), TmR M w t v → TmR M' w' t v := by
  intro t v h
  induction h with
  | mk b off u hop hs hg hn hann hl hc ha hu hA ih => exact .mk b off u hop hs hg hn (hann.map hat _ _) hl hc ha ih (fun i x hx => hat (hA i x hx))
instance : Rep Tm where
  sz := 10
  R := fun M w v t => TmR M w t v
  pos := by decide
  size := by
    intro M w v x h
    cases h; rfl
  one := by
    intro M w v x h u hu
    cases h with
    | mk b off u' hop hs hg hn hann =>
      have h4 : ∀ y ∈ (Value.agg #[.int .u8 _, .string _, .int .i64 _, _]).cells.toList, y.oneCell' = true := Rep.one (α := Ty) (M := M) (w := w) hann
      simp [Value.cells] at hu h4
      rcases hu with rfl | rfl | rfl | rfl | rfl | rfl | rfl | rfl | rfl | rfl <;> first | rfl | exact h4.2.2.2
  upd := fun h e => TmR.map (fun hA => hA.upd e) _ _ h
  wk := fun h e => TmR.map (fun hA => hA.wk e) _ _ h
theorem tm_open {M : Nat → Prop} {w : World} {v : Value} {t : Tm} (h : Rep.R M w v t) :
    ∃ akv kv, v = .agg #[.int .u8 t.op, .string t.name, .string t.arg, .int .i64 t.n, .bool t.has, .int .u8 t.ann.op, .string t.ann.name, .int .i64 t.ann.n, akv, kv] ∧ (0 ≤ t.op ∧ t.op ≤ 255) ∧ t.name.size < 140737488355328 ∧ t.arg.size < 140737488355328 ∧ I64 t.n ∧
      Rep.R M w (.agg #[.int .u8 t.ann.op, .string t.ann.name, .int .i64 t.ann.n, akv]) t.ann ∧ Sl M w kv t.kids := by
  have h' : TmR M w t v := h
  cases h' with
  | mk b off u hop hs hg hn hann hl hc ha hu hA =>
    refine ⟨_, _, rfl, hop, hs, hg, hn, hann, _, _, rfl, hl, hc, ?_⟩
    rcases ha with ha | ha
    · exact .inl ha
    · exact .inr ⟨b, off, ha, fun i x hx => ⟨u i, hu i x hx, hA i x hx⟩⟩
theorem tm_mk {M : Nat → Prop} {w : World} {akv kv : Value} {op n : Int} {name arg : ByteArray} {has : Bool} {ann : Ty} {kids : List Tm} (h1 : 0 ≤ op ∧ op ≤ 255) (h2 : name.size < 140737488355328) (h2g : arg.size < 140737488355328) (h3 : I64 n)
    (ha : Rep.R M w (.agg #[.int .u8 ann.op, .string ann.name, .int .i64 ann.n, akv]) ann) (hk : Sl M w kv kids) :
    Rep.R M w (.agg #[.int .u8 op, .string name, .string arg, .int .i64 n, .bool has, .int .u8 ann.op, .string ann.name, .int .i64 ann.n, akv, kv]) (Tm.mk op name arg n has ann kids) := by
  show TmR M w _ _
  obtain ⟨a, cap, rfl, h4, h5, h6⟩ := hk
  rcases h6 with h6 | ⟨b, off, haa, h6⟩
  · subst h6
    exact .mk 0 0 (fun _ => .nilFunc) h1 h2 h2g h3 ha h4 h5 (.inl rfl) (fun i x hx => by simp at hx) (fun i x hx => by simp at hx)
  · have h7 : ∀ i : Nat, ∃ u : Value, ∀ x : Tm, kids[i]? = some x → Rep.R M w u x ∧ At M w b (off + i * 10) u.cells.toList := by
      intro i
      cases hi : kids[i]? with
      | none => exact ⟨.nilFunc, fun x hx => by cases hx⟩
      | some y =>
        obtain ⟨u, hu, hA⟩ := h6 i y hi
        exact ⟨u, fun x hx => by cases hx; exact ⟨hu, hA⟩⟩
    obtain ⟨u, hu⟩ := Classical.axiomOfChoice h7
    exact .mk b off u h1 h2 h2g h3 ha h4 h5 (.inr haa) (fun i x hx => (hu i x hx).1) (fun i x hx => (hu i x hx).2)
/-! ## Nodes -/
def nodesL : Tm → List Tm
  | .mk o s g n b a l => .mk o s g n b a l :: l.flatMap nodesL
theorem nodesL_eq (t : Tm) : nodesL t = t :: t.kids.flatMap nodesL := by
  cases t; rw [nodesL]; rfl
def nsz (t : Tm) : Nat := (nodesL t).length
def nszs (l : List Tm) : Nat := (l.flatMap nodesL).length
theorem nsz_eq (t : Tm) : nsz t = nszs t.kids + 1 := by unfold nsz nszs; rw [nodesL_eq]; simp
theorem nszs_cons (t : Tm) (l : List Tm) : nszs (t :: l) = nsz t + nszs l := by simp [nszs, nsz]
theorem nszs_nil : nszs [] = 0 := rfl
theorem nszs_append (l r : List Tm) : nszs (l ++ r) = nszs l + nszs r := by simp [nszs]
theorem nsz_mem {t : Tm} : ∀ {l : List Tm}, t ∈ l → nsz t ≤ nszs l
  | x :: l, h => by
    rw [nszs_cons]
    rcases List.mem_cons.1 h with rfl | h
    · omega
    · have := nsz_mem h; omega
theorem nsz_get {l : List Tm} {i : Nat} (h : i < l.length) : nsz l[i] ≤ nszs l := nsz_mem (gM h)
theorem nsz_pos (t : Tm) : 0 < nsz t := by rw [nsz_eq]; omega
theorem len_nsz : ∀ l : List Tm, l.length ≤ nszs l
  | [] => Nat.zero_le _
  | t :: l => by have := len_nsz l; have := nsz_pos t; rw [nszs_cons, List.length_cons]; omega
theorem ntake_step {l : List Tm} {i : Nat} (h : i < l.length) : (l.take (i + 1)).flatMap nodesL = (l.take i).flatMap nodesL ++ nodesL l[i] := by
  rw [List.take_succ_eq_append_getElem h, List.flatMap_append]; simp
theorem take_nsz (l : List Tm) (i : Nat) : nszs (l.take i) ≤ nszs l := by
  have h := nszs_append (l.take i) (l.drop i)
  rw [List.take_append_drop] at h
  omega
theorem nszs_take {l : List Tm} {i : Nat} (hi : i < l.length) : nszs (l.take (i + 1)) = nszs (l.take i) + nsz l[i] := by
  rw [List.take_succ_eq_append_getElem hi, nszs_append, nszs_cons]; rfl
theorem kid_nsz {t k : Tm} (h : k ∈ t.kids) : nsz k < nsz t := by have := nsz_mem h; rw [nsz_eq t]; omega
/-- Its annotations are small. -/
def AnnS (t : Tm) : Prop := ∀ x ∈ nodesL t, psz x.ann ≤ 2000000
theorem AnnS.self {t : Tm} (h : AnnS t) : psz t.ann ≤ 2000000 := h t (by rw [nodesL_eq]; exact List.mem_cons_self)
theorem AnnS.kid {t k : Tm} (h : AnnS t) (hk : k ∈ t.kids) : AnnS k := fun x hx => h x (by rw [nodesL_eq]; exact List.mem_cons_of_mem _ (List.mem_flatMap.2 ⟨k, hk, hx⟩))
/-! ## Right, as the program has it -/
/-- Of an op: is there a name, an argument's name; how many kids (-1: a case's); an annotation (1 perhaps, 2 always); and whether there is such an op. -/
def shp (op : Int) : Bool × Bool × Int × Int × Bool :=
  if op = 32 then (true, false, 0, 0, true) else if op = 33 ∨ op = 34 ∨ op = 41 then (false, false, 0, 0, true) else if op = 35 then (false, true, 1, 1, true) else if op = 36 then (true, true, 1, 1, true)
  else if op = 37 then (false, false, 2, 0, true) else if op = 38 ∨ op = 42 ∨ op = 45 then (true, false, 2, 0, true) else if op = 39 then (false, false, 3, 0, true) else if op = 40 then (true, false, 2, 0, true)
  else if op = 43 ∨ op = 44 ∨ op = 46 ∨ op = 47 then (true, false, 1, 0, true) else if op = 48 then (false, false, -1, 0, true) else if op = 49 then (true, true, 1, 0, true) else if op = 50 then (false, true, 1, 0, true)
  else if op = 51 then (false, false, 1, 2, true) else (false, false, 0, 0, false)
def namedB (s : ByteArray) (should : Bool) : Bool := (decide (s = ⟨#[]⟩) && !should) || (should && isWordB s)
def blankB (t : Ty) : Bool := decide (t.op = 0) && (decide (t.name = ⟨#[]⟩) && (decide (t.n = 0) && decide (t.kids = [])))
def signB (s : ByteArray) : Bool := decide (s = ⟨#[43]⟩) || (decide (s = ⟨#[45]⟩) || (decide (s = ⟨#[42]⟩) || (decide (s = ⟨#[47]⟩) || (decide (s = ⟨#[37]⟩) || (decide (s = ⟨#[60]⟩) || decide (s = ⟨#[61, 61]⟩))))))
def numberB (op n : Int) : Bool := if op = 33 then decide (0 ≤ n) else if op = 34 then decide (n = 0) || decide (n = 1) else decide (n = 0)
def notedB (has : Bool) (a : Ty) (an : Int) : Bool := bif has then decide (0 < an) && (rightB a && decide (varsF a = [])) else decide (an < 2) && blankB a
def armB (op : Int) (last : Bool) : Bool := decide (op = 49) || (decide (op = 50) && last)
def armsB (op : Int) : Bool := decide (op = 49) || decide (op = 50)
def headT (t : Tm) (arms : Bool) : Bool := (shp t.op).2.2.2.2 && ((arms == armsB t.op) && (numberB t.op t.n && (notedB t.has t.ann (shp t.op).2.2.2.1 && (namedB t.arg (shp t.op).2.1 &&
  ((bif decide (t.op = 40) then signB t.name else namedB t.name (shp t.op).1) && (bif decide (0 ≤ (shp t.op).2.2.1) then decide ((t.kids.length : Int) = (shp t.op).2.2.1) else !decide (t.kids = [])))))))
def innerB (op : Int) (i : Nat) : Bool := decide (op = 48) && decide (0 < (i : Int))
def kidsT (op : Int) : Nat → List (Int × (Bool → Bool)) → Bool
  | _, [] => true
  | i, (o, g) :: r => (!innerB op i || armB o r.isEmpty) && (g (innerB op i) && kidsT op (i + 1) r)
/-- Is it an expression (or, where it may be, an arm)? -/
def rightT : Tm → Bool → Bool
  | .mk op name arg n has ann kids => fun arms => headT (.mk op name arg n has ann kids) arms && kidsT op 0 (kids.map fun k => (k.op, rightT k))
def kidL (l : List Tm) : List (Int × (Bool → Bool)) := l.map fun k => (k.op, rightT k)
theorem rightT_eq (t : Tm) (arms : Bool) : rightT t arms = (headT t arms && kidsT t.op 0 (kidL t.kids)) := by cases t; rw [rightT]; rfl
theorem kidsT_step {op : Int} {l : List Tm} {i : Nat} (hi : i < l.length) : kidsT op i (kidL (l.drop i)) = ((!innerB op i || armB l[i].op (decide (i + 1 = l.length))) && (rightT l[i] (innerB op i) && kidsT op (i + 1) (kidL (l.drop (i + 1))))) := by
  rw [List.drop_eq_getElem_cons hi]
  show kidsT op i ((l[i].op, rightT l[i]) :: kidL (l.drop (i + 1))) = _
  rw [kidsT]
  have e : (kidL (l.drop (i + 1))).isEmpty = decide (i + 1 = l.length) := by
    rw [Bool.eq_iff_iff, List.isEmpty_iff, decide_eq_true_eq]
    unfold kidL
    rw [List.map_eq_nil_iff, List.drop_eq_nil_iff]
    omega
  rw [e]
theorem kidsT_end {op : Int} {l : List Tm} {i : Nat} (hi : l.length ≤ i) : kidsT op i (kidL (l.drop i)) = true := by
  rw [List.drop_eq_nil_of_le hi]; rfl
/-! ## .. and as the document has it -/
def partsT : List ByteArray := [⟨#[110]⟩, ⟨#[105]⟩, ⟨#[98]⟩, ⟨#[97, 116, 101]⟩, ⟨#[110, 97, 116, 101]⟩, ⟨#[101, 101]⟩, ⟨#[110, 101, 101]⟩, ⟨#[101, 101, 101]⟩, ⟨#[111, 101, 101]⟩, ⟨#[46]⟩, ⟨#[110, 101, 101]⟩, ⟨#[110, 101]⟩, ⟨#[110, 101]⟩, ⟨#[110, 101, 101]⟩, ⟨#[110, 101]⟩, ⟨#[110, 101]⟩, ⟨#[99]⟩, ⟨#[110, 97, 101]⟩, ⟨#[97, 101]⟩, ⟨#[84, 101]⟩]
def partsS (op : Int) : ByteArray := if op < 32 ∨ 52 ≤ op then ⟨#[]⟩ else (partsT[(op - 32).toNat]?).getD ⟨#[]⟩
def hasB (s : ByteArray) (c : UInt8) : Bool := s.data.toList.any fun x => decide (x = c)
def countE (s : ByteArray) : Nat := (s.data.toList.filter fun x => decide (x = 101)).length
def partsB (t : Tm) (p : ByteArray) : Bool := (hasB p 111 == signB t.name) && ((hasB p 111 || ((hasB p 110 == isWordB t.name) && (hasB p 110 || decide (t.name = ⟨#[]⟩)))) && (((hasB p 97 == isWordB t.arg) && (hasB p 97 || decide (t.arg = ⟨#[]⟩))) &&
  ((decide (0 ≤ t.n) && (!decide (0 < t.n) || (hasB p 105 || (hasB p 98 && decide (t.n = 1))))) && (bif t.has then (hasB p 84 || hasB p 116) && (rightB t.ann && decide (varsF t.ann = [])) else !hasB p 84 && blankB t.ann))))
def armsL : List (Int × (Bool → Bool)) → Bool
  | [] => true
  | (o, g) :: r => g true && (!(decide (o = 50) && !r.isEmpty) && armsL r)
def caseL : List (Int × (Bool → Bool)) → Bool
  | [] => false
  | (_, g) :: r => g false && armsL r
def allL (l : List (Int × (Bool → Bool))) : Bool := l.all fun x => x.2 false
def refT : Tm → Bool → Bool
  | .mk op name arg n has ann kids => fun arm => !decide (partsS op = ⟨#[]⟩) && ((arm == armsB op) && (partsB (.mk op name arg n has ann kids) (partsS op) &&
    (bif decide (partsS op = ⟨#[99]⟩) then caseL (kids.map fun k => (k.op, refT k)) else decide (kids.length = countE (partsS op)) && allL (kids.map fun k => (k.op, refT k)))))
def refL (l : List Tm) : List (Int × (Bool → Bool)) := l.map fun k => (k.op, refT k)
theorem refT_eq (t : Tm) (arm : Bool) : refT t arm = (!decide (partsS t.op = ⟨#[]⟩) && ((arm == armsB t.op) && (partsB t (partsS t.op) &&
    (bif decide (partsS t.op = ⟨#[99]⟩) then caseL (refL t.kids) else decide (t.kids.length = countE (partsS t.op)) && allL (refL t.kids))))) := by cases t; rw [refT]; rfl
/-! ## They are one -/
theorem op_cases {op : Int} (h : ¬ (op < 32 ∨ 52 ≤ op)) : op = 32 ∨ op = 33 ∨ op = 34 ∨ op = 35 ∨ op = 36 ∨ op = 37 ∨ op = 38 ∨ op = 39 ∨ op = 40 ∨ op = 41 ∨ op = 42 ∨ op = 43 ∨ op = 44 ∨ op = 45 ∨ op = 46 ∨ op = 47 ∨ op = 48 ∨ op = 49 ∨ op = 50 ∨ op = 51 := by omega
theorem word_not_sign {s : ByteArray} (h : isWordB s = true) : signB s = false ∧ s ≠ ⟨#[]⟩ := by
  have key : ∀ x : ByteArray, isWordB x = false → s ≠ x := fun x hx e => by subst e; rw [h] at hx; cases hx
  have k1 := key ⟨#[43]⟩ (by decide)
  have k2 := key ⟨#[45]⟩ (by decide)
  have k3 := key ⟨#[42]⟩ (by decide)
  have k4 := key ⟨#[47]⟩ (by decide)
  have k5 := key ⟨#[37]⟩ (by decide)
  have k6 := key ⟨#[60]⟩ (by decide)
  have k7 := key ⟨#[61, 61]⟩ (by decide)
  exact ⟨by unfold signB; simp [k1, k2, k3, k4, k5, k6, k7], key ⟨#[]⟩ (by decide)⟩
/-- What the two say of a node of an op, but for its kids. -/
def nodeB (t : Tm) : Bool := numberB t.op t.n && (notedB t.has t.ann (shp t.op).2.2.2.1 && (namedB t.arg (shp t.op).2.1 && (bif decide (t.op = 40) then signB t.name else namedB t.name (shp t.op).1)))
theorem name_law (s : ByteArray) (nm : Bool) : ((false == signB s) && (false || ((nm == isWordB s) && (nm || decide (s = ⟨#[]⟩))))) = namedB s nm := by
  unfold namedB
  cases hw : isWordB s with
  | true =>
    obtain ⟨h1, h2⟩ := word_not_sign hw
    rw [h1, dF h2]
    cases nm <;> rfl
  | false =>
    by_cases he : s = ⟨#[]⟩
    · subst he; cases nm <;> decide
    · rw [dF he]; cases nm <;> simp
theorem arg_law (s : ByteArray) (ar : Bool) : ((ar == isWordB s) && (ar || decide (s = ⟨#[]⟩))) = namedB s ar := by
  unfold namedB
  cases hw : isWordB s with
  | true =>
    obtain ⟨h1, h2⟩ := word_not_sign hw
    rw [dF h2]
    cases ar <;> rfl
  | false =>
    by_cases he : s = ⟨#[]⟩
    · subst he; cases ar <;> rfl
    · rw [dF he]; cases ar <;> simp
theorem sign_law (s : ByteArray) : ((true == signB s) && (true || ((false == isWordB s) && (false || decide (s = ⟨#[]⟩))))) = signB s := by cases signB s <;> rfl
theorem num_law (n : Int) : (decide (0 ≤ n) && (!decide (0 < n) || (false || (false && decide (n = 1))))) = decide (n = 0) := by
  by_cases h : n = 0
  · subst h; rfl
  · rw [dF h]
    by_cases h0 : 0 ≤ n
    · rw [dT (show 0 < n by omega)]; simp
    · rw [dF h0]; rfl
theorem num_law_i (n : Int) : (decide (0 ≤ n) && (!decide (0 < n) || (true || (false && decide (n = 1))))) = decide (0 ≤ n) := by simp
theorem num_law_b (n : Int) : (decide (0 ≤ n) && (!decide (0 < n) || (false || (true && decide (n = 1))))) = (decide (n = 0) || decide (n = 1)) := by
  rw [Bool.false_or, Bool.true_and, Bool.eq_iff_iff]
  simp only [Bool.and_eq_true, Bool.or_eq_true, decide_eq_true_eq, Bool.not_eq_true', decide_eq_false_iff_not]
  omega
theorem partsB_of {t : Tm} {p : ByteArray} {o n a i b T u : Bool} (h1 : hasB p 111 = o) (h2 : hasB p 110 = n) (h3 : hasB p 97 = a) (h4 : hasB p 105 = i) (h5 : hasB p 98 = b) (h6 : hasB p 84 = T) (h7 : hasB p 116 = u) :
    partsB t p = ((o == signB t.name) && ((o || ((n == isWordB t.name) && (n || decide (t.name = ⟨#[]⟩)))) && (((a == isWordB t.arg) && (a || decide (t.arg = ⟨#[]⟩))) &&
      ((decide (0 ≤ t.n) && (!decide (0 < t.n) || (i || (b && decide (t.n = 1))))) && (bif t.has then (T || u) && (rightB t.ann && decide (varsF t.ann = [])) else !T && blankB t.ann))))) := by
  unfold partsB; rw [h1, h2, h3, h4, h5, h6, h7]
theorem node_asm {A B C D E N E' C' AB' : Bool} (h1 : (A && B) = AB') (h2 : C = C') (h3 : D = N) (h4 : E = E') : (A && (B && (C && (D && E)))) = (N && (E' && (C' && AB'))) := by
  subst h1; subst h2; subst h3; subst h4
  cases A <;> cases B <;> cases C <;> cases D <;> cases E <;> rfl
theorem parts_node {t : Tm} (h : ¬ (t.op < 32 ∨ 52 ≤ t.op)) : partsB t (partsS t.op) = nodeB t := by
  have key : ∀ (o : Int), t.op = o → partsB t (partsS o) = nodeB t → partsB t (partsS t.op) = nodeB t := fun o e h => by rw [e]; exact h
  have hann : ∀ (hT ht : Bool) (an : Int), (an = 0 ∧ hT = false ∧ ht = false) ∨ (an = 1 ∧ hT = false ∧ ht = true) ∨ (an = 2 ∧ hT = true ∧ ht = false) →
      (bif t.has then (hT || ht) && (rightB t.ann && decide (varsF t.ann = [])) else !hT && blankB t.ann) = notedB t.has t.ann an := by
    intro hT ht an h
    unfold notedB
    rcases h with ⟨rfl, rfl, rfl⟩ | ⟨rfl, rfl, rfl⟩ | ⟨rfl, rfl, rfl⟩ <;> cases t.has <;> simp
  rcases op_cases h with e | e | e | e | e | e | e | e | e | e | e | e | e | e | e | e | e | e | e | e <;> rw [e] <;> unfold nodeB <;> rw [e]
  · exact (partsB_of (p := partsS 32) (o := false) (n := true) (a := false) (i := false) (b := false) (T := false) (u := false) (by decide) (by decide) (by decide) (by decide) (by decide) (by decide) (by decide)).trans (node_asm (name_law _ true) (arg_law _ false) (num_law _) (hann false false 0 (.inl ⟨rfl, rfl, rfl⟩)))
  · exact (partsB_of (p := partsS 33) (o := false) (n := false) (a := false) (i := true) (b := false) (T := false) (u := false) (by decide) (by decide) (by decide) (by decide) (by decide) (by decide) (by decide)).trans (node_asm (name_law _ false) (arg_law _ false) (num_law_i _) (hann false false 0 (.inl ⟨rfl, rfl, rfl⟩)))
  · exact (partsB_of (p := partsS 34) (o := false) (n := false) (a := false) (i := false) (b := true) (T := false) (u := false) (by decide) (by decide) (by decide) (by decide) (by decide) (by decide) (by decide)).trans (node_asm (name_law _ false) (arg_law _ false) (num_law_b _) (hann false false 0 (.inl ⟨rfl, rfl, rfl⟩)))
  · exact (partsB_of (p := partsS 35) (o := false) (n := false) (a := true) (i := false) (b := false) (T := false) (u := true) (by decide) (by decide) (by decide) (by decide) (by decide) (by decide) (by decide)).trans (node_asm (name_law _ false) (arg_law _ true) (num_law _) (hann false true 1 (.inr (.inl ⟨rfl, rfl, rfl⟩))))
  · exact (partsB_of (p := partsS 36) (o := false) (n := true) (a := true) (i := false) (b := false) (T := false) (u := true) (by decide) (by decide) (by decide) (by decide) (by decide) (by decide) (by decide)).trans (node_asm (name_law _ true) (arg_law _ true) (num_law _) (hann false true 1 (.inr (.inl ⟨rfl, rfl, rfl⟩))))
  · exact (partsB_of (p := partsS 37) (o := false) (n := false) (a := false) (i := false) (b := false) (T := false) (u := false) (by decide) (by decide) (by decide) (by decide) (by decide) (by decide) (by decide)).trans (node_asm (name_law _ false) (arg_law _ false) (num_law _) (hann false false 0 (.inl ⟨rfl, rfl, rfl⟩)))
  · exact (partsB_of (p := partsS 38) (o := false) (n := true) (a := false) (i := false) (b := false) (T := false) (u := false) (by decide) (by decide) (by decide) (by decide) (by decide) (by decide) (by decide)).trans (node_asm (name_law _ true) (arg_law _ false) (num_law _) (hann false false 0 (.inl ⟨rfl, rfl, rfl⟩)))
  · exact (partsB_of (p := partsS 39) (o := false) (n := false) (a := false) (i := false) (b := false) (T := false) (u := false) (by decide) (by decide) (by decide) (by decide) (by decide) (by decide) (by decide)).trans (node_asm (name_law _ false) (arg_law _ false) (num_law _) (hann false false 0 (.inl ⟨rfl, rfl, rfl⟩)))
  · exact (partsB_of (p := partsS 40) (o := true) (n := false) (a := false) (i := false) (b := false) (T := false) (u := false) (by decide) (by decide) (by decide) (by decide) (by decide) (by decide) (by decide)).trans (node_asm (sign_law _) (arg_law _ false) (num_law _) (hann false false 0 (.inl ⟨rfl, rfl, rfl⟩)))
  · exact (partsB_of (p := partsS 41) (o := false) (n := false) (a := false) (i := false) (b := false) (T := false) (u := false) (by decide) (by decide) (by decide) (by decide) (by decide) (by decide) (by decide)).trans (node_asm (name_law _ false) (arg_law _ false) (num_law _) (hann false false 0 (.inl ⟨rfl, rfl, rfl⟩)))
  · exact (partsB_of (p := partsS 42) (o := false) (n := true) (a := false) (i := false) (b := false) (T := false) (u := false) (by decide) (by decide) (by decide) (by decide) (by decide) (by decide) (by decide)).trans (node_asm (name_law _ true) (arg_law _ false) (num_law _) (hann false false 0 (.inl ⟨rfl, rfl, rfl⟩)))
  · exact (partsB_of (p := partsS 43) (o := false) (n := true) (a := false) (i := false) (b := false) (T := false) (u := false) (by decide) (by decide) (by decide) (by decide) (by decide) (by decide) (by decide)).trans (node_asm (name_law _ true) (arg_law _ false) (num_law _) (hann false false 0 (.inl ⟨rfl, rfl, rfl⟩)))
  · exact (partsB_of (p := partsS 44) (o := false) (n := true) (a := false) (i := false) (b := false) (T := false) (u := false) (by decide) (by decide) (by decide) (by decide) (by decide) (by decide) (by decide)).trans (node_asm (name_law _ true) (arg_law _ false) (num_law _) (hann false false 0 (.inl ⟨rfl, rfl, rfl⟩)))
  · exact (partsB_of (p := partsS 45) (o := false) (n := true) (a := false) (i := false) (b := false) (T := false) (u := false) (by decide) (by decide) (by decide) (by decide) (by decide) (by decide) (by decide)).trans (node_asm (name_law _ true) (arg_law _ false) (num_law _) (hann false false 0 (.inl ⟨rfl, rfl, rfl⟩)))
  · exact (partsB_of (p := partsS 46) (o := false) (n := true) (a := false) (i := false) (b := false) (T := false) (u := false) (by decide) (by decide) (by decide) (by decide) (by decide) (by decide) (by decide)).trans (node_asm (name_law _ true) (arg_law _ false) (num_law _) (hann false false 0 (.inl ⟨rfl, rfl, rfl⟩)))
  · exact (partsB_of (p := partsS 47) (o := false) (n := true) (a := false) (i := false) (b := false) (T := false) (u := false) (by decide) (by decide) (by decide) (by decide) (by decide) (by decide) (by decide)).trans (node_asm (name_law _ true) (arg_law _ false) (num_law _) (hann false false 0 (.inl ⟨rfl, rfl, rfl⟩)))
  · exact (partsB_of (p := partsS 48) (o := false) (n := false) (a := false) (i := false) (b := false) (T := false) (u := false) (by decide) (by decide) (by decide) (by decide) (by decide) (by decide) (by decide)).trans (node_asm (name_law _ false) (arg_law _ false) (num_law _) (hann false false 0 (.inl ⟨rfl, rfl, rfl⟩)))
  · exact (partsB_of (p := partsS 49) (o := false) (n := true) (a := true) (i := false) (b := false) (T := false) (u := false) (by decide) (by decide) (by decide) (by decide) (by decide) (by decide) (by decide)).trans (node_asm (name_law _ true) (arg_law _ true) (num_law _) (hann false false 0 (.inl ⟨rfl, rfl, rfl⟩)))
  · exact (partsB_of (p := partsS 50) (o := false) (n := false) (a := true) (i := false) (b := false) (T := false) (u := false) (by decide) (by decide) (by decide) (by decide) (by decide) (by decide) (by decide)).trans (node_asm (name_law _ false) (arg_law _ true) (num_law _) (hann false false 0 (.inl ⟨rfl, rfl, rfl⟩)))
  · exact (partsB_of (p := partsS 51) (o := false) (n := false) (a := false) (i := false) (b := false) (T := true) (u := false) (by decide) (by decide) (by decide) (by decide) (by decide) (by decide) (by decide)).trans (node_asm (name_law _ false) (arg_law _ false) (num_law _) (hann true false 2 (.inr (.inr ⟨rfl, rfl, rfl⟩))))
end Rw
namespace Go.Proofs.YtpoahmeacjggfaaGreat
open Go Rw Go.RowKit
set_option maxRecDepth 100000
theorem shaped_spec (op : Int) (M : Nat → Prop) (w : World) (hlow0 : Low M w) :
  Calls Tryz.prog 53 #[.int .u8 op] w (Ret fun r w' => r = .tuple #[.agg #[.bool (shp op).1, .bool (shp op).2.1, .int .i64 (shp op).2.2.1, .int .i64 (shp op).2.2.2.1], .bool (shp op).2.2.2.2] ∧ Ext w w') := by
 have Lw := hlow0
 have hB := lR w.heap.size
 have hE := Below.refl w.heap.size w
 have hsub : ∀ b, M b → M b := fun _ h => h
 refine cN (n := 52) Tryz.func53 rfl rfl rfl ?_
 refine q0 ?_
 refine lC (o_new tK rfl rfl rfl ?_)
 intro b2 w1 qb2 ew1 hb2
 have sw1 := Stp.add ew1 Lw hB (lQ qb2.symm) hb2.lt
 have h2 : MB w.heap.size (Rw.Add M b2) w1 b2 88 [.bool false, .bool false, .int .i64 0, .int .i64 0] := MB.mk' hb2 qb2 hB
 replace hE := hE.trans sw1.below
 replace hsub := sw1.sb hsub
 replace Lw := sw1.low
 replace hB := sw1.z hB
 refine lP 1 tK rfl (q1 (cS (q0 (lP 1 tK rfl (q1 (cB (q0 (lP 2 tK rfl (q1 ?_)))))))))
 refine cP _ rfl (fun c1 => ?_) (fun c1 => ?_)
 ·refine q0 ?_
  refine lC (o_build (cells := [.bool true, .bool false, .int .i64 0, .int .i64 0]) bd88 rfl rfl rfl rfl rfl ?_)
  refine lC (o_st tK h2.box rfl rfl rfl rfl (by simp [Value.cells, Value.oneCell']) rfl rfl ?_)
  intro w2 hw2 qw2 bew2
  have uw2 : UpdB _ _ _ := ⟨qw2, bew2⟩
  have sw2 := uw2.sp h2.inM Lw h2.ge
  have frw2 := qw2.2
  replace hE := hE.trans sw2.below
  replace hsub := sw2.sb hsub
  replace Lw := sw2.low
  replace hB := sw2.z hB
  replace h2 : MB w.heap.size _ w2 b2 _ [.bool true, .bool false, .int .i64 0, .int .i64 0] := ⟨hw2, h2.inM, h2.ge⟩
  refine lP 1 tK rfl (q1 (cR (xB (xR ?_))))
  refine x_ret2st tK (fun j v hv => h2.cell j v hv) rfl rfl rfl rfl rfl rfl ?_
  subst c1
  exact ⟨rfl, hE⟩
 refine cS (q0 (lP 2 tK rfl (q1 ?_)))
 refine c_splitP 8 _ rfl (fun c2 => cI rfl ?_) (fun c2 => c_ifF rfl ?_)
 ·refine cK (xS (cI rfl (q0 ?_)))
  refine lC (o_build (cells := [.bool false, .bool false, .int .i64 0, .int .i64 0]) bd88 rfl rfl rfl rfl rfl ?_)
  refine lC (o_st tK h2.box rfl rfl rfl rfl (by simp [Value.cells, Value.oneCell']) rfl rfl ?_)
  intro w3 hw3 qw3 bew3
  have uw3 : UpdB _ _ _ := ⟨qw3, bew3⟩
  have sw3 := uw3.sp h2.inM Lw h2.ge
  have frw3 := qw3.2
  replace hE := hE.trans sw3.below
  replace hsub := sw3.sb hsub
  replace Lw := sw3.low
  replace hB := sw3.z hB
  replace h2 : MB w.heap.size _ w3 b2 _ [.bool false, .bool false, .int .i64 0, .int .i64 0] := ⟨hw3, h2.inM, h2.ge⟩
  refine lP 1 tK rfl (q1 (cR (xB (xR ?_))))
  refine x_ret2st tK (fun j v hv => h2.cell j v hv) rfl rfl rfl rfl rfl rfl ?_
  subst c2
  exact ⟨rfl, hE⟩
 refine q0 (lP 2 tK rfl (q1 ?_))
 refine c_splitP 8 _ rfl (fun c3 => cI rfl ?_) (fun c3 => c_ifF rfl ?_)
 ·refine cK (xS (cI rfl (q0 ?_)))
  refine lC (o_build (cells := [.bool false, .bool false, .int .i64 0, .int .i64 0]) bd88 rfl rfl rfl rfl rfl ?_)
  refine lC (o_st tK h2.box rfl rfl rfl rfl (by simp [Value.cells, Value.oneCell']) rfl rfl ?_)
  intro w4 hw4 qw4 bew4
  have uw4 : UpdB _ _ _ := ⟨qw4, bew4⟩
  have sw4 := uw4.sp h2.inM Lw h2.ge
  have frw4 := qw4.2
  replace hE := hE.trans sw4.below
  replace hsub := sw4.sb hsub
  replace Lw := sw4.low
  replace hB := sw4.z hB
  replace h2 : MB w.heap.size _ w4 b2 _ [.bool false, .bool false, .int .i64 0, .int .i64 0] := ⟨hw4, h2.inM, h2.ge⟩
  refine lP 1 tK rfl (q1 (cR (xB (xR ?_))))
  refine x_ret2st tK (fun j v hv => h2.cell j v hv) rfl rfl rfl rfl rfl rfl ?_
  subst c3
  exact ⟨rfl, hE⟩
 refine cG (lP 2 tK rfl (q1 ?_))
 refine c_splitP 8 _ rfl (fun c4 => cI rfl ?_) (fun c4 => c_ifF rfl ?_)
 ·refine q0 ?_
  refine lC (o_build (cells := [.bool false, .bool false, .int .i64 0, .int .i64 0]) bd88 rfl rfl rfl rfl rfl ?_)
  refine lC (o_st tK h2.box rfl rfl rfl rfl (by simp [Value.cells, Value.oneCell']) rfl rfl ?_)
  intro w5 hw5 qw5 bew5
  have uw5 : UpdB _ _ _ := ⟨qw5, bew5⟩
  have sw5 := uw5.sp h2.inM Lw h2.ge
  have frw5 := qw5.2
  replace hE := hE.trans sw5.below
  replace hsub := sw5.sb hsub
  replace Lw := sw5.low
  replace hB := sw5.z hB
  replace h2 : MB w.heap.size _ w5 b2 _ [.bool false, .bool false, .int .i64 0, .int .i64 0] := ⟨hw5, h2.inM, h2.ge⟩
  refine lP 1 tK rfl (q1 (cR (xB (xR ?_))))
  refine x_ret2st tK (fun j v hv => h2.cell j v hv) rfl rfl rfl rfl rfl rfl ?_
  subst c4
  exact ⟨rfl, hE⟩
 refine q0 (lP 2 tK rfl (q1 ?_))
 refine cP _ rfl (fun c5 => ?_) (fun c5 => ?_)
 ·refine q0 ?_
  refine lC (o_build (cells := [.bool false, .bool true, .int .i64 1, .int .i64 1]) bd88 rfl rfl rfl rfl rfl ?_)
  refine lC (o_st tK h2.box rfl rfl rfl rfl (by simp [Value.cells, Value.oneCell']) rfl rfl ?_)
  intro w6 hw6 qw6 bew6
  have uw6 : UpdB _ _ _ := ⟨qw6, bew6⟩
  have sw6 := uw6.sp h2.inM Lw h2.ge
  have frw6 := qw6.2
  replace hE := hE.trans sw6.below
  replace hsub := sw6.sb hsub
  replace Lw := sw6.low
  replace hB := sw6.z hB
  replace h2 : MB w.heap.size _ w6 b2 _ [.bool false, .bool true, .int .i64 1, .int .i64 1] := ⟨hw6, h2.inM, h2.ge⟩
  refine lP 1 tK rfl (q1 (cR (xB (xR ?_))))
  refine x_ret2st tK (fun j v hv => h2.cell j v hv) rfl rfl rfl rfl rfl rfl ?_
  subst c5
  exact ⟨rfl, hE⟩
 refine q0 (lP 2 tK rfl (q1 ?_))
 refine cP _ rfl (fun c6 => ?_) (fun c6 => ?_)
 ·refine q0 ?_
  refine lC (o_build (cells := [.bool true, .bool true, .int .i64 1, .int .i64 1]) bd88 rfl rfl rfl rfl rfl ?_)
  refine lC (o_st tK h2.box rfl rfl rfl rfl (by simp [Value.cells, Value.oneCell']) rfl rfl ?_)
  intro w7 hw7 qw7 bew7
  have uw7 : UpdB _ _ _ := ⟨qw7, bew7⟩
  have sw7 := uw7.sp h2.inM Lw h2.ge
  have frw7 := qw7.2
  replace hE := hE.trans sw7.below
  replace hsub := sw7.sb hsub
  replace Lw := sw7.low
  replace hB := sw7.z hB
  replace h2 : MB w.heap.size _ w7 b2 _ [.bool true, .bool true, .int .i64 1, .int .i64 1] := ⟨hw7, h2.inM, h2.ge⟩
  refine lP 1 tK rfl (q1 (cR (xB (xR ?_))))
  refine x_ret2st tK (fun j v hv => h2.cell j v hv) rfl rfl rfl rfl rfl rfl ?_
  subst c6
  exact ⟨rfl, hE⟩
 refine q0 (lP 2 tK rfl (q1 ?_))
 refine cP _ rfl (fun c7 => ?_) (fun c7 => ?_)
 ·refine q0 ?_
  refine lC (o_build (cells := [.bool false, .bool false, .int .i64 2, .int .i64 0]) bd88 rfl rfl rfl rfl rfl ?_)
  refine lC (o_st tK h2.box rfl rfl rfl rfl (by simp [Value.cells, Value.oneCell']) rfl rfl ?_)
  intro w8 hw8 qw8 bew8
  have uw8 : UpdB _ _ _ := ⟨qw8, bew8⟩
  have sw8 := uw8.sp h2.inM Lw h2.ge
  have frw8 := qw8.2
  replace hE := hE.trans sw8.below
  replace hsub := sw8.sb hsub
  replace Lw := sw8.low
  replace hB := sw8.z hB
  replace h2 : MB w.heap.size _ w8 b2 _ [.bool false, .bool false, .int .i64 2, .int .i64 0] := ⟨hw8, h2.inM, h2.ge⟩
  refine lP 1 tK rfl (q1 (cR (xB (xR ?_))))
  refine x_ret2st tK (fun j v hv => h2.cell j v hv) rfl rfl rfl rfl rfl rfl ?_
  subst c7
  exact ⟨rfl, hE⟩
 refine cS (q0 (lP 2 tK rfl (q1 ?_)))
 refine c_splitP 22 _ rfl (fun c8 => cI rfl ?_) (fun c8 => c_ifF rfl ?_)
 ·refine cK (xS (cI rfl (q0 ?_)))
  refine lC (o_build (cells := [.bool true, .bool false, .int .i64 2, .int .i64 0]) bd88 rfl rfl rfl rfl rfl ?_)
  refine lC (o_st tK h2.box rfl rfl rfl rfl (by simp [Value.cells, Value.oneCell']) rfl rfl ?_)
  intro w9 hw9 qw9 bew9
  have uw9 : UpdB _ _ _ := ⟨qw9, bew9⟩
  have sw9 := uw9.sp h2.inM Lw h2.ge
  have frw9 := qw9.2
  replace hE := hE.trans sw9.below
  replace hsub := sw9.sb hsub
  replace Lw := sw9.low
  replace hB := sw9.z hB
  replace h2 : MB w.heap.size _ w9 b2 _ [.bool true, .bool false, .int .i64 2, .int .i64 0] := ⟨hw9, h2.inM, h2.ge⟩
  refine lP 1 tK rfl (q1 (cR (xB (xR ?_))))
  refine x_ret2st tK (fun j v hv => h2.cell j v hv) rfl rfl rfl rfl rfl rfl ?_
  subst c8
  exact ⟨rfl, hE⟩
 refine q0 (lP 2 tK rfl (q1 ?_))
 refine c_splitP 22 _ rfl (fun c9 => cI rfl ?_) (fun c9 => c_ifF rfl ?_)
 ·refine cK (xS (cI rfl (q0 ?_)))
  refine lC (o_build (cells := [.bool true, .bool false, .int .i64 2, .int .i64 0]) bd88 rfl rfl rfl rfl rfl ?_)
  refine lC (o_st tK h2.box rfl rfl rfl rfl (by simp [Value.cells, Value.oneCell']) rfl rfl ?_)
  intro w10 hw10 qw10 bew10
  have uw10 : UpdB _ _ _ := ⟨qw10, bew10⟩
  have sw10 := uw10.sp h2.inM Lw h2.ge
  have frw10 := qw10.2
  replace hE := hE.trans sw10.below
  replace hsub := sw10.sb hsub
  replace Lw := sw10.low
  replace hB := sw10.z hB
  replace h2 : MB w.heap.size _ w10 b2 _ [.bool true, .bool false, .int .i64 2, .int .i64 0] := ⟨hw10, h2.inM, h2.ge⟩
  refine lP 1 tK rfl (q1 (cR (xB (xR ?_))))
  refine x_ret2st tK (fun j v hv => h2.cell j v hv) rfl rfl rfl rfl rfl rfl ?_
  subst c9
  exact ⟨rfl, hE⟩
 refine cG (lP 2 tK rfl (q1 ?_))
 refine c_splitP 22 _ rfl (fun c10 => cI rfl ?_) (fun c10 => c_ifF rfl ?_)
 ·refine q0 ?_
  refine lC (o_build (cells := [.bool true, .bool false, .int .i64 2, .int .i64 0]) bd88 rfl rfl rfl rfl rfl ?_)
  refine lC (o_st tK h2.box rfl rfl rfl rfl (by simp [Value.cells, Value.oneCell']) rfl rfl ?_)
  intro w11 hw11 qw11 bew11
  have uw11 : UpdB _ _ _ := ⟨qw11, bew11⟩
  have sw11 := uw11.sp h2.inM Lw h2.ge
  have frw11 := qw11.2
  replace hE := hE.trans sw11.below
  replace hsub := sw11.sb hsub
  replace Lw := sw11.low
  replace hB := sw11.z hB
  replace h2 : MB w.heap.size _ w11 b2 _ [.bool true, .bool false, .int .i64 2, .int .i64 0] := ⟨hw11, h2.inM, h2.ge⟩
  refine lP 1 tK rfl (q1 (cR (xB (xR ?_))))
  refine x_ret2st tK (fun j v hv => h2.cell j v hv) rfl rfl rfl rfl rfl rfl ?_
  subst c10
  exact ⟨rfl, hE⟩
 refine q0 (lP 2 tK rfl (q1 ?_))
 refine cP _ rfl (fun c11 => ?_) (fun c11 => ?_)
 ·refine q0 ?_
  refine lC (o_build (cells := [.bool false, .bool false, .int .i64 3, .int .i64 0]) bd88 rfl rfl rfl rfl rfl ?_)
  refine lC (o_st tK h2.box rfl rfl rfl rfl (by simp [Value.cells, Value.oneCell']) rfl rfl ?_)
  intro w12 hw12 qw12 bew12
  have uw12 : UpdB _ _ _ := ⟨qw12, bew12⟩
  have sw12 := uw12.sp h2.inM Lw h2.ge
  have frw12 := qw12.2
  replace hE := hE.trans sw12.below
  replace hsub := sw12.sb hsub
  replace Lw := sw12.low
  replace hB := sw12.z hB
  replace h2 : MB w.heap.size _ w12 b2 _ [.bool false, .bool false, .int .i64 3, .int .i64 0] := ⟨hw12, h2.inM, h2.ge⟩
  refine lP 1 tK rfl (q1 (cR (xB (xR ?_))))
  refine x_ret2st tK (fun j v hv => h2.cell j v hv) rfl rfl rfl rfl rfl rfl ?_
  subst c11
  exact ⟨rfl, hE⟩
 refine q0 (lP 2 tK rfl (q1 ?_))
 refine cP _ rfl (fun c12 => ?_) (fun c12 => ?_)
 ·refine q0 ?_
  refine lC (o_build (cells := [.bool true, .bool false, .int .i64 2, .int .i64 0]) bd88 rfl rfl rfl rfl rfl ?_)
  refine lC (o_st tK h2.box rfl rfl rfl rfl (by simp [Value.cells, Value.oneCell']) rfl rfl ?_)
  intro w13 hw13 qw13 bew13
  have uw13 : UpdB _ _ _ := ⟨qw13, bew13⟩
  have sw13 := uw13.sp h2.inM Lw h2.ge
  have frw13 := qw13.2
  replace hE := hE.trans sw13.below
  replace hsub := sw13.sb hsub
  replace Lw := sw13.low
  replace hB := sw13.z hB
  replace h2 : MB w.heap.size _ w13 b2 _ [.bool true, .bool false, .int .i64 2, .int .i64 0] := ⟨hw13, h2.inM, h2.ge⟩
  refine lP 1 tK rfl (q1 (cR (xB (xR ?_))))
  refine x_ret2st tK (fun j v hv => h2.cell j v hv) rfl rfl rfl rfl rfl rfl ?_
  subst c12
  exact ⟨rfl, hE⟩
 refine cS (q0 (lP 2 tK rfl (q1 ?_)))
 refine c_splitP 33 _ rfl (fun c13 => cI rfl ?_) (fun c13 => c_ifF rfl ?_)
 ·refine cK (xS (cI rfl (q0 ?_)))
  refine lC (o_build (cells := [.bool true, .bool false, .int .i64 1, .int .i64 0]) bd88 rfl rfl rfl rfl rfl ?_)
  refine lC (o_st tK h2.box rfl rfl rfl rfl (by simp [Value.cells, Value.oneCell']) rfl rfl ?_)
  intro w14 hw14 qw14 bew14
  have uw14 : UpdB _ _ _ := ⟨qw14, bew14⟩
  have sw14 := uw14.sp h2.inM Lw h2.ge
  have frw14 := qw14.2
  replace hE := hE.trans sw14.below
  replace hsub := sw14.sb hsub
  replace Lw := sw14.low
  replace hB := sw14.z hB
  replace h2 : MB w.heap.size _ w14 b2 _ [.bool true, .bool false, .int .i64 1, .int .i64 0] := ⟨hw14, h2.inM, h2.ge⟩
  refine lP 1 tK rfl (q1 (cR (xB (xR ?_))))
  refine x_ret2st tK (fun j v hv => h2.cell j v hv) rfl rfl rfl rfl rfl rfl ?_
  subst c13
  exact ⟨rfl, hE⟩
 refine q0 (lP 2 tK rfl (q1 ?_))
 refine c_splitP 33 _ rfl (fun c14 => cI rfl ?_) (fun c14 => c_ifF rfl ?_)
 ·refine cK (xS (cI rfl (q0 ?_)))
  refine lC (o_build (cells := [.bool true, .bool false, .int .i64 1, .int .i64 0]) bd88 rfl rfl rfl rfl rfl ?_)
  refine lC (o_st tK h2.box rfl rfl rfl rfl (by simp [Value.cells, Value.oneCell']) rfl rfl ?_)
  intro w15 hw15 qw15 bew15
  have uw15 : UpdB _ _ _ := ⟨qw15, bew15⟩
  have sw15 := uw15.sp h2.inM Lw h2.ge
  have frw15 := qw15.2
  replace hE := hE.trans sw15.below
  replace hsub := sw15.sb hsub
  replace Lw := sw15.low
  replace hB := sw15.z hB
  replace h2 : MB w.heap.size _ w15 b2 _ [.bool true, .bool false, .int .i64 1, .int .i64 0] := ⟨hw15, h2.inM, h2.ge⟩
  refine lP 1 tK rfl (q1 (cR (xB (xR ?_))))
  refine x_ret2st tK (fun j v hv => h2.cell j v hv) rfl rfl rfl rfl rfl rfl ?_
  subst c14
  exact ⟨rfl, hE⟩
 refine q0 (lP 2 tK rfl (q1 ?_))
 refine c_splitP 33 _ rfl (fun c15 => cI rfl ?_) (fun c15 => c_ifF rfl ?_)
 ·refine cK (xS (cI rfl (q0 ?_)))
  refine lC (o_build (cells := [.bool true, .bool false, .int .i64 1, .int .i64 0]) bd88 rfl rfl rfl rfl rfl ?_)
  refine lC (o_st tK h2.box rfl rfl rfl rfl (by simp [Value.cells, Value.oneCell']) rfl rfl ?_)
  intro w16 hw16 qw16 bew16
  have uw16 : UpdB _ _ _ := ⟨qw16, bew16⟩
  have sw16 := uw16.sp h2.inM Lw h2.ge
  have frw16 := qw16.2
  replace hE := hE.trans sw16.below
  replace hsub := sw16.sb hsub
  replace Lw := sw16.low
  replace hB := sw16.z hB
  replace h2 : MB w.heap.size _ w16 b2 _ [.bool true, .bool false, .int .i64 1, .int .i64 0] := ⟨hw16, h2.inM, h2.ge⟩
  refine lP 1 tK rfl (q1 (cR (xB (xR ?_))))
  refine x_ret2st tK (fun j v hv => h2.cell j v hv) rfl rfl rfl rfl rfl rfl ?_
  subst c15
  exact ⟨rfl, hE⟩
 refine cG (lP 2 tK rfl (q1 ?_))
 refine c_splitP 33 _ rfl (fun c16 => cI rfl ?_) (fun c16 => c_ifF rfl ?_)
 ·refine q0 ?_
  refine lC (o_build (cells := [.bool true, .bool false, .int .i64 1, .int .i64 0]) bd88 rfl rfl rfl rfl rfl ?_)
  refine lC (o_st tK h2.box rfl rfl rfl rfl (by simp [Value.cells, Value.oneCell']) rfl rfl ?_)
  intro w17 hw17 qw17 bew17
  have uw17 : UpdB _ _ _ := ⟨qw17, bew17⟩
  have sw17 := uw17.sp h2.inM Lw h2.ge
  have frw17 := qw17.2
  replace hE := hE.trans sw17.below
  replace hsub := sw17.sb hsub
  replace Lw := sw17.low
  replace hB := sw17.z hB
  replace h2 : MB w.heap.size _ w17 b2 _ [.bool true, .bool false, .int .i64 1, .int .i64 0] := ⟨hw17, h2.inM, h2.ge⟩
  refine lP 1 tK rfl (q1 (cR (xB (xR ?_))))
  refine x_ret2st tK (fun j v hv => h2.cell j v hv) rfl rfl rfl rfl rfl rfl ?_
  subst c16
  exact ⟨rfl, hE⟩
 refine q0 (lP 2 tK rfl (q1 ?_))
 refine cP _ rfl (fun c17 => ?_) (fun c17 => ?_)
 ·refine q0 ?_
  refine lC (o_build (cells := [.bool false, .bool false, .int .i64 (-1), .int .i64 0]) bd88 rfl rfl rfl rfl rfl ?_)
  refine lC (o_st tK h2.box rfl rfl rfl rfl (by simp [Value.cells, Value.oneCell']) rfl rfl ?_)
  intro w18 hw18 qw18 bew18
  have uw18 : UpdB _ _ _ := ⟨qw18, bew18⟩
  have sw18 := uw18.sp h2.inM Lw h2.ge
  have frw18 := qw18.2
  replace hE := hE.trans sw18.below
  replace hsub := sw18.sb hsub
  replace Lw := sw18.low
  replace hB := sw18.z hB
  replace h2 : MB w.heap.size _ w18 b2 _ [.bool false, .bool false, .int .i64 (-1), .int .i64 0] := ⟨hw18, h2.inM, h2.ge⟩
  refine lP 1 tK rfl (q1 (cR (xB (xR ?_))))
  refine x_ret2st tK (fun j v hv => h2.cell j v hv) rfl rfl rfl rfl rfl rfl ?_
  subst c17
  exact ⟨rfl, hE⟩
 refine q0 (lP 2 tK rfl (q1 ?_))
 refine cP _ rfl (fun c18 => ?_) (fun c18 => ?_)
 ·refine q0 ?_
  refine lC (o_build (cells := [.bool true, .bool true, .int .i64 1, .int .i64 0]) bd88 rfl rfl rfl rfl rfl ?_)
  refine lC (o_st tK h2.box rfl rfl rfl rfl (by simp [Value.cells, Value.oneCell']) rfl rfl ?_)
  intro w19 hw19 qw19 bew19
  have uw19 : UpdB _ _ _ := ⟨qw19, bew19⟩
  have sw19 := uw19.sp h2.inM Lw h2.ge
  have frw19 := qw19.2
  replace hE := hE.trans sw19.below
  replace hsub := sw19.sb hsub
  replace Lw := sw19.low
  replace hB := sw19.z hB
  replace h2 : MB w.heap.size _ w19 b2 _ [.bool true, .bool true, .int .i64 1, .int .i64 0] := ⟨hw19, h2.inM, h2.ge⟩
  refine lP 1 tK rfl (q1 (cR (xB (xR ?_))))
  refine x_ret2st tK (fun j v hv => h2.cell j v hv) rfl rfl rfl rfl rfl rfl ?_
  subst c18
  exact ⟨rfl, hE⟩
 refine q0 (lP 2 tK rfl (q1 ?_))
 refine cP _ rfl (fun c19 => ?_) (fun c19 => ?_)
 ·refine q0 ?_
  refine lC (o_build (cells := [.bool false, .bool true, .int .i64 1, .int .i64 0]) bd88 rfl rfl rfl rfl rfl ?_)
  refine lC (o_st tK h2.box rfl rfl rfl rfl (by simp [Value.cells, Value.oneCell']) rfl rfl ?_)
  intro w20 hw20 qw20 bew20
  have uw20 : UpdB _ _ _ := ⟨qw20, bew20⟩
  have sw20 := uw20.sp h2.inM Lw h2.ge
  have frw20 := qw20.2
  replace hE := hE.trans sw20.below
  replace hsub := sw20.sb hsub
  replace Lw := sw20.low
  replace hB := sw20.z hB
  replace h2 : MB w.heap.size _ w20 b2 _ [.bool false, .bool true, .int .i64 1, .int .i64 0] := ⟨hw20, h2.inM, h2.ge⟩
  refine lP 1 tK rfl (q1 (cR (xB (xR ?_))))
  refine x_ret2st tK (fun j v hv => h2.cell j v hv) rfl rfl rfl rfl rfl rfl ?_
  subst c19
  exact ⟨rfl, hE⟩
 refine q0 (lP 2 tK rfl (q1 ?_))
 refine cP _ rfl (fun c20 => ?_) (fun c20 => ?_)
 ·refine q0 ?_
  refine lC (o_build (cells := [.bool false, .bool false, .int .i64 1, .int .i64 2]) bd88 rfl rfl rfl rfl rfl ?_)
  refine lC (o_st tK h2.box rfl rfl rfl rfl (by simp [Value.cells, Value.oneCell']) rfl rfl ?_)
  intro w21 hw21 qw21 bew21
  have uw21 : UpdB _ _ _ := ⟨qw21, bew21⟩
  have sw21 := uw21.sp h2.inM Lw h2.ge
  have frw21 := qw21.2
  replace hE := hE.trans sw21.below
  replace hsub := sw21.sb hsub
  replace Lw := sw21.low
  replace hB := sw21.z hB
  replace h2 : MB w.heap.size _ w21 b2 _ [.bool false, .bool false, .int .i64 1, .int .i64 2] := ⟨hw21, h2.inM, h2.ge⟩
  refine lP 1 tK rfl (q1 (cR (xB (xR ?_))))
  refine x_ret2st tK (fun j v hv => h2.cell j v hv) rfl rfl rfl rfl rfl rfl ?_
  subst c20
  exact ⟨rfl, hE⟩
 refine cK (x_blk (xS (q0 ?_)))
 refine lC (o_build (cells := [.bool false, .bool false, .int .i64 0, .int .i64 0]) bd88 rfl rfl rfl rfl rfl ?_)
 refine lC (o_st tK h2.box rfl rfl rfl rfl (by simp [Value.cells, Value.oneCell']) rfl rfl ?_)
 intro w22 hw22 qw22 bew22
 have uw22 : UpdB _ _ _ := ⟨qw22, bew22⟩
 have sw22 := uw22.sp h2.inM Lw h2.ge
 have frw22 := qw22.2
 replace hE := hE.trans sw22.below
 replace hsub := sw22.sb hsub
 replace Lw := sw22.low
 replace hB := sw22.z hB
 replace h2 : MB w.heap.size _ w22 b2 _ [.bool false, .bool false, .int .i64 0, .int .i64 0] := ⟨hw22, h2.inM, h2.ge⟩
 refine lP 1 tK rfl (q1 (cR ?_))
 refine x_ret2st tK (fun j v hv => h2.cell j v hv) rfl rfl rfl rfl rfl rfl ?_
 exact ⟨by unfold shp; simp [*], hE⟩
theorem named_spec (s : ByteArray) (b : Bool) (w : World) (hs : s.size < 140737488355328) :
  Calls Tryz.prog 56 #[.string s, .bool b] w (Ret fun r w' => r = .bool (namedB s b) ∧ Ext w w') := by
 have hE := Below.refl w.heap.size w
 have hB := lR w.heap.size
 refine cN (n := 18) Tryz.func56 rfl rfl rfl ?_
 refine q0 (lP 1 tK rfl (q1 (q0 (lP 3 tK rfl ?_))))
 refine lS 7 _ rfl (fun c1 => ?_) (fun c1 => ?_)
 ·refine lP 4 tK rfl ?_
  refine l_splitB 11 _ rfl (fun c2 => ?_) (fun c2 => ?_)
  ·refine lP 7 tK rfl (q1 (cR (x1_ rfl rfl ?_)))
   exact ⟨by congr 1; unfold namedB; simp_all, hE⟩
  refine lP 2 tK rfl ?_
  refine l_split 13 _ rfl (fun c3 => ?_) (fun c3 => ?_)
  ·refine lP 1 tK rfl ?_
   refine lC (oK fo78 rfl rfl rfl (isWord_spec _ s hs) ?_)
   rintro _ _ ⟨rfl, rfl⟩
   refine lP 3 tK rfl (q1 (cR (x1_ rfl rfl ?_)))
   exact ⟨by congr 1; unfold namedB; simp_all, hE⟩
  refine lP 5 tK rfl (q1 (cR (x1_ rfl rfl ?_)))
  exact ⟨by congr 1; unfold namedB; simp_all, hE⟩
 refine lP 6 tK rfl ?_
 refine l_split 13 _ rfl (fun c4 => ?_) (fun c4 => ?_)
 ·refine lP 1 tK rfl ?_
  refine lC (oK fo78 rfl rfl rfl (isWord_spec _ s hs) ?_)
  rintro _ _ ⟨rfl, rfl⟩
  refine lP 3 tK rfl (q1 (cR (x1_ rfl rfl ?_)))
  exact ⟨by congr 1; unfold namedB; simp_all, hE⟩
 refine lP 5 tK rfl (q1 (cR (x1_ rfl rfl ?_)))
 exact ⟨by congr 1; unfold namedB; simp_all, hE⟩
theorem blank_spec (t : Ty) (M : Nat → Prop) (w : World) (v : Value) (ht : Rep.R M w v t) (Lw : Low M w) :
  Calls Tryz.prog 77 #[v] w (Ret fun r w' => r = .bool (blankB t) ∧ Ext w w') := by
 have hE := Below.refl w.heap.size w
 have hB := lR w.heap.size
 obtain ⟨kv, rfl, op, nm, n64, hk⟩ := tO ht
 refine cN (n := 22) Tryz.func77 rfl rfl rfl ?_
 refine q0 ?_
 refine lC (o_box rfl rfl rfl ?_)
 intro b1 w1 hb_b1 ew1 h1
 replace h1 : Box _ b1 29 [.int .u8 t.op, .string t.name, .int .i64 t.n, kv] := h1
 replace h1 := h1.at (nO Lw hb_b1)
 replace hE := ew1.bl hE hB
 replace ht := Rep.Y ht ew1
 replace hk := hk.Y ew1
 replace Lw := Lw.Y ew1
 replace hB := ew1.z hB
 refine lP 1 tK rfl (q1 (q0 (lP 1 tK rfl ?_)))
 refine lC (oD tK (h1.cell 0 _ rfl) rfl rfl rfl rfl rfl ?_)
 refine lP 2 tK rfl ?_
 refine lS 6 _ rfl (fun c1 => ?_) (fun c1 => ?_)
 ·refine lP 1 tK rfl ?_
  refine lC (oD tK (h1.cell 1 _ rfl) rfl rfl rfl rfl rfl ?_)
  refine lP 3 tK rfl ?_
  refine lS 11 _ rfl (fun c2 => ?_) (fun c2 => ?_)
  ·refine lP 1 tK rfl ?_
   refine lC (oD tK (h1.cell 2 _ rfl) rfl rfl rfl rfl rfl ?_)
   refine lP 3 tK rfl ?_
   refine lS 16 _ rfl (fun c3 => ?_) (fun c3 => ?_)
   ·refine lP 1 tK rfl ?_
    refine lC (oD tK (h1.cell 3 _ rfl) rfl rfl rfl rfl rfl ?_)
    refine lC (o_len tK hk rfl rfl rfl rfl rfl ?_)
    refine lP 3 tK rfl (q1 (cR (x1_ rfl rfl ?_)))
    exact ⟨by congr 1; unfold blankB; simp_all, hE⟩
   refine lP 6 tK rfl (q1 (cR (x1_ rfl rfl ?_)))
   exact ⟨by congr 1; unfold blankB; simp_all, hE⟩
  refine lP 11 tK rfl (q1 (cR (x1_ rfl rfl ?_)))
  exact ⟨by congr 1; unfold blankB; simp_all, hE⟩
 refine lP 16 tK rfl (q1 (cR (x1_ rfl rfl ?_)))
 exact ⟨by congr 1; unfold blankB; simp_all, hE⟩
theorem sign_spec (s : ByteArray) (w : World) :
  Calls Tryz.prog 57 #[.string s] w (Ret fun r w' => r = .bool (signB s) ∧ w = w') := by
 refine cN (n := 12) Tryz.func57 rfl rfl rfl ?_
 refine q0 (lP 1 tK rfl (q1 (cS (q0 (lP 1 tK rfl (q1 (cB (cS (q0 (lP 2 tK rfl (q1 ?_)))))))))))
 refine c_splitP 4 _ rfl (fun c1 => cI rfl ?_) (fun c1 => c_ifF rfl ?_)
 ·refine cK (xS (cI rfl (q0 (lP 1 tK rfl (q1 (cR (xB (xR (x1_ rfl rfl ?_)))))))))
  exact ⟨by congr 1; unfold signB; simp_all, rfl⟩
 refine q0 (lP 2 tK rfl (q1 ?_))
 refine c_splitP 4 _ rfl (fun c2 => cI rfl ?_) (fun c2 => c_ifF rfl ?_)
 ·refine cK (xS (cI rfl (q0 (lP 1 tK rfl (q1 (cR (xB (xR (x1_ rfl rfl ?_)))))))))
  exact ⟨by congr 1; unfold signB; simp_all, rfl⟩
 refine q0 (lP 2 tK rfl (q1 ?_))
 refine c_splitP 4 _ rfl (fun c3 => cI rfl ?_) (fun c3 => c_ifF rfl ?_)
 ·refine cK (xS (cI rfl (q0 (lP 1 tK rfl (q1 (cR (xB (xR (x1_ rfl rfl ?_)))))))))
  exact ⟨by congr 1; unfold signB; simp_all, rfl⟩
 refine q0 (lP 2 tK rfl (q1 ?_))
 refine c_splitP 4 _ rfl (fun c4 => cI rfl ?_) (fun c4 => c_ifF rfl ?_)
 ·refine cK (xS (cI rfl (q0 (lP 1 tK rfl (q1 (cR (xB (xR (x1_ rfl rfl ?_)))))))))
  exact ⟨by congr 1; unfold signB; simp_all, rfl⟩
 refine q0 (lP 2 tK rfl (q1 ?_))
 refine c_splitP 4 _ rfl (fun c5 => cI rfl ?_) (fun c5 => c_ifF rfl ?_)
 ·refine cK (xS (cI rfl (q0 (lP 1 tK rfl (q1 (cR (xB (xR (x1_ rfl rfl ?_)))))))))
  exact ⟨by congr 1; unfold signB; simp_all, rfl⟩
 refine q0 (lP 2 tK rfl (q1 ?_))
 refine c_splitP 4 _ rfl (fun c6 => cI rfl ?_) (fun c6 => c_ifF rfl ?_)
 ·refine cK (xS (cI rfl (q0 (lP 1 tK rfl (q1 (cR (xB (xR (x1_ rfl rfl ?_)))))))))
  exact ⟨by congr 1; unfold signB; simp_all, rfl⟩
 refine cG (lP 2 tK rfl (q1 ?_))
 refine c_splitP 4 _ rfl (fun c7 => cI rfl ?_) (fun c7 => c_ifF rfl ?_)
 ·refine q0 (lP 1 tK rfl (q1 (cR (xB (xR (x1_ rfl rfl ?_))))))
  exact ⟨by congr 1; unfold signB; simp_all, rfl⟩
 refine cK (x_blk (xS (q0 (lP 1 tK rfl (q1 (cR (x1_ rfl rfl ?_)))))))
 exact ⟨by congr 1; unfold signB; simp_all, rfl⟩
theorem arm_spec (op : Int) (b : Bool) (w : World) :
  Calls Tryz.prog 58 #[.int .u8 op, .bool b] w (Ret fun r w' => r = .bool (armB op b) ∧ w = w') := by
 refine cN (n := 14) Tryz.func58 rfl rfl rfl ?_
 refine q0 (lP 1 tK rfl (q1 (q0 (lP 3 tK rfl ?_))))
 refine lS 7 _ rfl (fun c1 => ?_) (fun c1 => ?_)
 ·refine lP 7 tK rfl (q1 (cR (x1_ rfl rfl ?_)))
  exact ⟨by congr 1; unfold armB; simp_all, rfl⟩
 refine lP 3 tK rfl ?_
 refine lS 10 _ rfl (fun c2 => ?_) (fun c2 => ?_)
 ·refine lP 4 tK rfl (q1 (cR (x1_ rfl rfl ?_)))
  exact ⟨by congr 1; unfold armB; simp_all, rfl⟩
 refine lP 4 tK rfl (q1 (cR (x1_ rfl rfl ?_)))
 exact ⟨by congr 1; unfold armB; simp_all, rfl⟩
theorem number_spec (t : Tm) (M : Nat → Prop) (w : World) (v : Value) (ht : Rep.R M w v t) (Lw : Low M w) :
  Calls Tryz.prog 54 #[v] w (Ret fun r w' => r = .bool (numberB t.op t.n) ∧ Ext w w') := by
 have hE := Below.refl w.heap.size w
 have hB := lR w.heap.size
 obtain ⟨akv, kv, rfl, op, nm, ag, n64, ha, hk⟩ := tm_open ht
 refine cN (n := 23) Tryz.func54 rfl rfl rfl ?_
 refine q0 ?_
 refine lC (o_box rfl rfl rfl ?_)
 intro b1 w1 hb_b1 ew1 h1
 replace h1 : Box _ b1 31 [.int .u8 t.op, .string t.name, .string t.arg, .int .i64 t.n, .bool t.has, .int .u8 t.ann.op, .string t.ann.name, .int .i64 t.ann.n, akv, kv] := h1
 replace h1 := h1.at (nO Lw hb_b1)
 replace hE := ew1.bl hE hB
 replace ht := Rep.Y ht ew1
 replace ha := Rep.Y ha ew1
 replace hk := hk.Y ew1
 replace Lw := Lw.Y ew1
 replace hB := ew1.z hB
 refine lP 1 tK rfl (q1 (cS (q0 (lP 1 tK rfl ?_))))
 refine lC (oD tK (h1.cell 0 _ rfl) rfl rfl rfl rfl rfl ?_)
 refine q1 (cB (q0 (lP 2 tK rfl (q1 ?_))))
 refine cP _ rfl (fun c1 => ?_) (fun c1 => ?_)
 ·refine q0 (lP 1 tK rfl ?_)
  refine lC (oD tK (h1.cell 3 _ rfl) rfl rfl rfl rfl rfl ?_)
  refine lP 2 tK rfl (q1 (cR (xB (xR (x1_ rfl rfl ?_)))))
  exact ⟨by congr 1; unfold numberB; simp_all, hE⟩
 refine q0 (lP 2 tK rfl (q1 ?_))
 refine cP _ rfl (fun c2 => ?_) (fun c2 => ?_)
 ·refine q0 (lP 1 tK rfl ?_)
  refine lC (oD tK (h1.cell 3 _ rfl) rfl rfl rfl rfl rfl ?_)
  refine lP 2 tK rfl ?_
  refine lS 15 _ rfl (fun c3 => ?_) (fun c3 => ?_)
  ·refine lP 5 tK rfl (q1 (cR (xB (xR (x1_ rfl rfl ?_)))))
   exact ⟨by congr 1; unfold numberB; simp_all, hE⟩
  refine lP 1 tK rfl ?_
  refine lC (oD tK (h1.cell 3 _ rfl) rfl rfl rfl rfl rfl ?_)
  refine lP 3 tK rfl (q1 (cR (xB (xR (x1_ rfl rfl ?_)))))
  exact ⟨by congr 1; unfold numberB; simp_all, hE⟩
 refine cK (x_blk (xS (q0 (lP 1 tK rfl ?_))))
 refine lC (oD tK (h1.cell 3 _ rfl) rfl rfl rfl rfl rfl ?_)
 refine lP 2 tK rfl (q1 (cR (x1_ rfl rfl ?_)))
 exact ⟨by congr 1; unfold numberB; simp_all, hE⟩
theorem noted_spec (t : Tm) (a : Int) (M : Nat → Prop) (w : World) (v : Value) (ht : Rep.R M w v t) (Lw : Low M w) (hz : psz t.ann ≤ 2000000) :
  Calls Tryz.prog 55 #[v, .int .i64 a] w (Ret fun r w' => r = .bool (notedB t.has t.ann a) ∧ Ext w w') := by
 have hE := Below.refl w.heap.size w
 have hB := lR w.heap.size
 obtain ⟨akv, kv, rfl, op, nm, ag, n64, ha, hk⟩ := tm_open ht
 refine cN (n := 26) Tryz.func55 rfl rfl rfl ?_
 refine q0 ?_
 refine lC (o_box rfl rfl rfl ?_)
 intro b2 w1 hb_b2 ew1 h2
 replace h2 : Box _ b2 31 [.int .u8 t.op, .string t.name, .string t.arg, .int .i64 t.n, .bool t.has, .int .u8 t.ann.op, .string t.ann.name, .int .i64 t.ann.n, akv, kv] := h2
 replace h2 := h2.at (nO Lw hb_b2)
 replace hE := ew1.bl hE hB
 replace ht := Rep.Y ht ew1
 replace ha := Rep.Y ha ew1
 replace hk := hk.Y ew1
 replace Lw := Lw.Y ew1
 replace hB := ew1.z hB
 refine lP 1 tK rfl (q1 (cS (q0 (lP 1 tK rfl ?_))))
 refine lC (oD tK (h2.cell 4 _ rfl) rfl rfl rfl rfl rfl ?_)
 refine q1 ?_
 refine c_if _ rfl (fun c1 => ?_) (fun c1 => ?_)
 ·refine q0 (lP 3 tK rfl ?_)
  refine lS 9 _ rfl (fun c2 => ?_) (fun c2 => ?_)
  ·refine lP 1 tK rfl ?_
   refine lC (oL tK (fun j v hv => (h2).mid 5 (sub := [.int .u8 t.ann.op, .string t.ann.name, .int .i64 t.ann.n, akv]) rfl j v hv) rfl rfl rfl rfl rfl rfl ?_)
   refine lC (oK fo75 rfl rfl rfl (kRight_specB _ _ _ _ ha Lw) ?_)
   rintro _ w2 ⟨rfl, ew2⟩
   replace hE := ew2.bl hE hB
   replace ht := Rep.Y ht ew2
   replace ha := Rep.Y ha ew2
   replace hk := hk.Y ew2
   replace h2 := h2.Y ew2
   replace Lw := Lw.Y ew2
   replace hB := ew2.z hB
   refine lP 2 tK rfl ?_
   refine l_split 14 _ rfl (fun c3 => ?_) (fun c3 => ?_)
   ·refine lP 1 tK rfl ?_
    refine lC (oL tK (fun j v hv => (h2).mid 5 (sub := [.int .u8 t.ann.op, .string t.ann.name, .int .i64 t.ann.n, akv]) rfl j v hv) rfl rfl rfl rfl rfl rfl ?_)
    refine lC (oK fo76 rfl rfl rfl (kClosed_spec _ _ _ _ ha Lw hz) ?_)
    rintro _ w3 ⟨rfl, ew3⟩
    replace hE := ew3.bl hE hB
    replace ht := Rep.Y ht ew3
    replace ha := Rep.Y ha ew3
    replace hk := hk.Y ew3
    replace h2 := h2.Y ew3
    replace Lw := Lw.Y ew3
    replace hB := ew3.z hB
    refine lP 2 tK rfl (q1 (cR (xR (x1_ rfl rfl ?_))))
    exact ⟨by congr 1; unfold notedB; simp_all <;> intros <;> omega, hE⟩
   refine lP 5 tK rfl (q1 (cR (xR (x1_ rfl rfl ?_))))
   exact ⟨by congr 1; unfold notedB; simp_all <;> intros <;> omega, hE⟩
  refine lP 10 tK rfl (q1 (cR (xR (x1_ rfl rfl ?_))))
  exact ⟨by congr 1; unfold notedB; simp_all <;> intros <;> omega, hE⟩
 refine cK (xS (q0 (lP 3 tK rfl ?_)))
 refine lS 21 _ rfl (fun c4 => ?_) (fun c4 => ?_)
 ·refine lP 1 tK rfl ?_
  refine lC (oL tK (fun j v hv => (h2).mid 5 (sub := [.int .u8 t.ann.op, .string t.ann.name, .int .i64 t.ann.n, akv]) rfl j v hv) rfl rfl rfl rfl rfl rfl ?_)
  refine lC (oK fo77 rfl rfl rfl (blank_spec _ _ _ _ ha Lw) ?_)
  rintro _ w4 ⟨rfl, ew4⟩
  replace hE := ew4.bl hE hB
  replace ht := Rep.Y ht ew4
  replace ha := Rep.Y ha ew4
  replace hk := hk.Y ew4
  replace h2 := h2.Y ew4
  replace Lw := Lw.Y ew4
  replace hB := ew4.z hB
  refine lP 2 tK rfl (q1 (cR (x1_ rfl rfl ?_)))
  exact ⟨by congr 1; unfold notedB; simp_all <;> intros <;> omega, hE⟩
 refine lP 5 tK rfl (q1 (cR (x1_ rfl rfl ?_)))
 exact ⟨by congr 1; unfold notedB; simp_all <;> intros <;> omega, hE⟩
theorem tright_spec : ∀ (t : Tm) (arms : Bool) (M : Nat → Prop) (w : World) (v : Value), Rep.R M w v t → Low M w → AnnS t → Calls Tryz.prog 32 #[v, .bool arms] w (Ret fun r w' => r = .bool (rightT t arms) ∧ Ext w w') := by
 refine Tm.ind fun t ih => ?_
 intro arms M w v ht Lw hz
 have hE := Below.refl w.heap.size w
 have hB := lR w.heap.size
 obtain ⟨akv, kv, rfl, op, nm, ag, n64, ha, hk⟩ := tm_open ht
 have hlt := hk.lt
 refine cN (n := 120) Tryz.func32 rfl rfl rfl ?_
 refine q0 ?_
 refine lC (o_box rfl rfl rfl ?_)
 intro b2 w1 hb_b2 ew1 h2
 replace h2 : Box _ b2 31 [.int .u8 t.op, .string t.name, .string t.arg, .int .i64 t.n, .bool t.has, .int .u8 t.ann.op, .string t.ann.name, .int .i64 t.ann.n, akv, kv] := h2
 replace h2 := h2.at (nO Lw hb_b2)
 replace hE := ew1.bl hE hB
 replace ht := Rep.Y ht ew1
 replace ha := Rep.Y ha ew1
 replace hk := hk.Y ew1
 replace Lw := Lw.Y ew1
 replace hB := ew1.z hB
 refine lP 1 tK rfl (q1 (q0 (lP 1 tK rfl ?_)))
 refine lC (oD tK (h2.cell 0 _ rfl) rfl rfl rfl rfl rfl ?_)
 refine lC (oK fo53 rfl rfl rfl (shaped_spec t.op M _ Lw) ?_)
 rintro _ w2 ⟨rfl, ew2⟩
 replace hE := ew2.bl hE hB
 replace ht := Rep.Y ht ew2
 replace ha := Rep.Y ha ew2
 replace hk := hk.Y ew2
 replace h2 := h2.Y ew2
 replace Lw := Lw.Y ew2
 replace hB := ew2.z hB
 refine lP 3 tK rfl ?_
 refine lC (o_new tK rfl rfl rfl ?_)
 intro b5 w3 qb5 ew3 hb5
 have nb5 := nO Lw qb5
 refine lC (o_st tK hb5 rfl rfl rfl rfl (by simp [Value.cells, Value.oneCell']) rfl rfl ?_)
 intro w4 h5 uw4 bew4
 have ew4 : Ext w2 w4 := ew3.trans (bew4 _ (lQ qb5.symm))
 replace hE := ew4.bl hE hB
 replace ht := Rep.Y ht ew4
 replace ha := Rep.Y ha ew4
 replace hk := hk.Y ew4
 replace h2 := h2.Y ew4
 replace Lw := Lw.Y ew4
 replace hB := ew4.z hB
 replace h5 : Box _ b5 88 [.bool (shp t.op).1, .bool (shp t.op).2.1, .int .i64 (shp t.op).2.2.1, .int .i64 (shp t.op).2.2.2.1] := h5
 replace h5 := h5.at nb5
 refine lP 1 tK rfl (q1 ?_)
 refine c_cut (X := Nat) (fun b5 => [(1, .bool arms), (2, .pointer (some ⟨b2, 0, none⟩)), (5, .pointer (some ⟨b5, 0, none⟩))]) (fun b5 w' => ((shp t.op).2.2.2.2 = true ∧ (arms == armsB t.op) = true ∧ numberB t.op t.n = true ∧ notedB t.has t.ann (shp t.op).2.2.2.1 = true ∧ namedB t.arg (shp t.op).2.1 = true) ∧ At M w' b2 0 [.int .u8 t.op, .string t.name, .string t.arg, .int .i64 t.n, .bool t.has, .int .u8 t.ann.op, .string t.ann.name, .int .i64 t.ann.n, akv, kv] ∧ At M w' b5 0 [.bool (shp t.op).1, .bool (shp t.op).2.1, .int .i64 (shp t.op).2.2.1, .int .i64 (shp t.op).2.2.2.1] ∧ Sl M w' kv t.kids ∧ Low M w' ∧ Below w.heap.size w w' ∧ w.heap.size ≤ w'.heap.size) ?_ ?_
 ·refine q0 (lP 3 tK rfl ?_)
  refine l_splitB 18 _ rfl (fun c1 => ?_) (fun c1 => ?_)
  ·refine lP 31 tK rfl (q1 (cI rfl (q0 (lP 1 tK rfl (q1 (cR (xR (x1_ rfl rfl ?_))))))))
   exact ⟨by rw [rightT_eq]; clear ih; unfold headT armsB; simp_all <;> intros <;> omega, hE⟩
  refine lP 2 tK rfl ?_
  refine lC (oD tK (h2.cell 0 _ rfl) rfl rfl rfl rfl rfl ?_)
  refine lP 2 tK rfl ?_
  refine lS 23 _ rfl (fun c2 => ?_) (fun c2 => ?_)
  ·refine lP 4 tK rfl ?_
   refine lC (o_bne tK rfl rfl rfl rfl rfl rfl ?_)
   refine lP 2 tK rfl ?_
   refine l_split 30 _ rfl (fun c3 => ?_) (fun c3 => ?_)
   ·refine lP 19 tK rfl (q1 (cI rfl (q0 (lP 1 tK rfl (q1 (cR (xR (x1_ rfl rfl ?_))))))))
    exact ⟨by rw [rightT_eq]; clear ih; unfold headT armsB; simp_all <;> intros <;> omega, hE⟩
   refine lC (oL tK (fun j v hv => h2.cell j v hv) rfl rfl rfl rfl rfl rfl ?_)
   refine lC (oK fo54 rfl rfl rfl (number_spec _ _ _ _ ht Lw) ?_)
   rintro _ w5 ⟨rfl, ew5⟩
   replace hE := ew5.bl hE hB
   replace ht := Rep.Y ht ew5
   replace ha := Rep.Y ha ew5
   replace hk := hk.Y ew5
   replace h2 := h2.Y ew5
   replace h5 := h5.Y ew5
   replace Lw := Lw.Y ew5
   replace hB := ew5.z hB
   refine lP 3 tK rfl ?_
   refine l_splitB 35 _ rfl (fun c4 => ?_) (fun c4 => ?_)
   ·refine lP 14 tK rfl (q1 (cI rfl (q0 (lP 1 tK rfl (q1 (cR (xR (x1_ rfl rfl ?_))))))))
    exact ⟨by rw [rightT_eq]; clear ih; unfold headT armsB; simp_all <;> intros <;> omega, hE⟩
   refine lC (oL tK (fun j v hv => h2.cell j v hv) rfl rfl rfl rfl rfl rfl ?_)
   refine lP 1 tK rfl ?_
   refine lC (oD tK (h5.cell 3 _ rfl) rfl rfl rfl rfl rfl ?_)
   refine lC (oK fo55 rfl rfl rfl (noted_spec _ _ _ _ _ ht Lw hz.self) ?_)
   rintro _ w6 ⟨rfl, ew6⟩
   replace hE := ew6.bl hE hB
   replace ht := Rep.Y ht ew6
   replace ha := Rep.Y ha ew6
   replace hk := hk.Y ew6
   replace h2 := h2.Y ew6
   replace h5 := h5.Y ew6
   replace Lw := Lw.Y ew6
   replace hB := ew6.z hB
   refine lP 3 tK rfl ?_
   refine l_splitB 42 _ rfl (fun c5 => ?_) (fun c5 => ?_)
   ·refine lP 7 tK rfl (q1 (cI rfl (q0 (lP 1 tK rfl (q1 (cR (xR (x1_ rfl rfl ?_))))))))
    exact ⟨by rw [rightT_eq]; clear ih; unfold headT armsB; simp_all <;> intros <;> omega, hE⟩
   refine lP 1 tK rfl ?_
   refine lC (oD tK (h2.cell 2 _ rfl) rfl rfl rfl rfl rfl ?_)
   refine lP 1 tK rfl ?_
   refine lC (oD tK (h5.cell 1 _ rfl) rfl rfl rfl rfl rfl ?_)
   refine lC (oK fo56 rfl rfl rfl (named_spec _ _ _ (by first | exact nm | exact ag)) ?_)
   rintro _ w7 ⟨rfl, ew7⟩
   replace hE := ew7.bl hE hB
   replace ht := Rep.Y ht ew7
   replace ha := Rep.Y ha ew7
   replace hk := hk.Y ew7
   replace h2 := h2.Y ew7
   replace h5 := h5.Y ew7
   replace Lw := Lw.Y ew7
   replace hB := ew7.z hB
   refine lP 2 tK rfl (q1 ?_)
   refine c_ifB _ rfl (fun c6 => ?_) (fun c6 => ?_)
   ·refine q0 (lP 1 tK rfl (q1 (cR (xR (x1_ rfl rfl ?_)))))
    exact ⟨by rw [rightT_eq]; clear ih; unfold headT armsB; simp_all <;> intros <;> omega, hE⟩
   refine cK ?_
   exact x_cut (b5) (s3 rfl rfl rfl) ⟨by clear ih; simp_all [armsB], h2, h5, hk, Lw, hE, hB⟩
  refine lP 1 tK rfl ?_
  refine lC (oD tK (h2.cell 0 _ rfl) rfl rfl rfl rfl rfl ?_)
  refine lP 2 tK rfl ?_
  refine lC (o_bne tK rfl rfl rfl rfl rfl rfl ?_)
  refine lP 2 tK rfl ?_
  refine l_split 30 _ rfl (fun c7 => ?_) (fun c7 => ?_)
  ·refine lP 19 tK rfl (q1 (cI rfl (q0 (lP 1 tK rfl (q1 (cR (xR (x1_ rfl rfl ?_))))))))
   exact ⟨by rw [rightT_eq]; clear ih; unfold headT armsB; simp_all <;> intros <;> omega, hE⟩
  refine lC (oL tK (fun j v hv => h2.cell j v hv) rfl rfl rfl rfl rfl rfl ?_)
  refine lC (oK fo54 rfl rfl rfl (number_spec _ _ _ _ ht Lw) ?_)
  rintro _ w8 ⟨rfl, ew8⟩
  replace hE := ew8.bl hE hB
  replace ht := Rep.Y ht ew8
  replace ha := Rep.Y ha ew8
  replace hk := hk.Y ew8
  replace h2 := h2.Y ew8
  replace h5 := h5.Y ew8
  replace Lw := Lw.Y ew8
  replace hB := ew8.z hB
  refine lP 3 tK rfl ?_
  refine l_splitB 35 _ rfl (fun c8 => ?_) (fun c8 => ?_)
  ·refine lP 14 tK rfl (q1 (cI rfl (q0 (lP 1 tK rfl (q1 (cR (xR (x1_ rfl rfl ?_))))))))
   exact ⟨by rw [rightT_eq]; clear ih; unfold headT armsB; simp_all <;> intros <;> omega, hE⟩
  refine lC (oL tK (fun j v hv => h2.cell j v hv) rfl rfl rfl rfl rfl rfl ?_)
  refine lP 1 tK rfl ?_
  refine lC (oD tK (h5.cell 3 _ rfl) rfl rfl rfl rfl rfl ?_)
  refine lC (oK fo55 rfl rfl rfl (noted_spec _ _ _ _ _ ht Lw hz.self) ?_)
  rintro _ w9 ⟨rfl, ew9⟩
  replace hE := ew9.bl hE hB
  replace ht := Rep.Y ht ew9
  replace ha := Rep.Y ha ew9
  replace hk := hk.Y ew9
  replace h2 := h2.Y ew9
  replace h5 := h5.Y ew9
  replace Lw := Lw.Y ew9
  replace hB := ew9.z hB
  refine lP 3 tK rfl ?_
  refine l_splitB 42 _ rfl (fun c9 => ?_) (fun c9 => ?_)
  ·refine lP 7 tK rfl (q1 (cI rfl (q0 (lP 1 tK rfl (q1 (cR (xR (x1_ rfl rfl ?_))))))))
   exact ⟨by rw [rightT_eq]; clear ih; unfold headT armsB; simp_all <;> intros <;> omega, hE⟩
  refine lP 1 tK rfl ?_
  refine lC (oD tK (h2.cell 2 _ rfl) rfl rfl rfl rfl rfl ?_)
  refine lP 1 tK rfl ?_
  refine lC (oD tK (h5.cell 1 _ rfl) rfl rfl rfl rfl rfl ?_)
  refine lC (oK fo56 rfl rfl rfl (named_spec _ _ _ (by first | exact nm | exact ag)) ?_)
  rintro _ w10 ⟨rfl, ew10⟩
  replace hE := ew10.bl hE hB
  replace ht := Rep.Y ht ew10
  replace ha := Rep.Y ha ew10
  replace hk := hk.Y ew10
  replace h2 := h2.Y ew10
  replace h5 := h5.Y ew10
  replace Lw := Lw.Y ew10
  replace hB := ew10.z hB
  refine lP 2 tK rfl (q1 ?_)
  refine c_ifB _ rfl (fun c10 => ?_) (fun c10 => ?_)
  ·refine q0 (lP 1 tK rfl (q1 (cR (xR (x1_ rfl rfl ?_)))))
   exact ⟨by rw [rightT_eq]; clear ih; unfold headT armsB; simp_all <;> intros <;> omega, hE⟩
  refine cK ?_
  exact x_cut (b5) (s3 rfl rfl rfl) ⟨by clear ih; simp_all [armsB], h2, h5, hk, Lw, hE, hB⟩
 clear ht ha h2 hk Lw hE hB
 rintro b5 w40 ⟨⟨H1, H2, H3, H4, H5⟩, h2, h5, hk, Lw, hE, hB⟩
 refine c_cut (X := Nat) (fun b5 => [(1, .bool arms), (2, .pointer (some ⟨b2, 0, none⟩)), (5, .pointer (some ⟨b5, 0, none⟩))]) (fun b5 w' => ((shp t.op).2.2.2.2 = true ∧ (arms == armsB t.op) = true ∧ numberB t.op t.n = true ∧ notedB t.has t.ann (shp t.op).2.2.2.1 = true ∧ namedB t.arg (shp t.op).2.1 = true ∧ (bif decide (t.op = 40) then signB t.name else namedB t.name (shp t.op).1) = true) ∧ At M w' b2 0 [.int .u8 t.op, .string t.name, .string t.arg, .int .i64 t.n, .bool t.has, .int .u8 t.ann.op, .string t.ann.name, .int .i64 t.ann.n, akv, kv] ∧ At M w' b5 0 [.bool (shp t.op).1, .bool (shp t.op).2.1, .int .i64 (shp t.op).2.2.1, .int .i64 (shp t.op).2.2.2.1] ∧ Sl M w' kv t.kids ∧ Low M w' ∧ Below w.heap.size w w' ∧ w.heap.size ≤ w'.heap.size) ?_ ?_
 ·refine q0 (lP 1 tK rfl ?_)
  refine lC (oD tK (h2.cell 0 _ rfl) rfl rfl rfl rfl rfl ?_)
  refine lP 1 tK rfl (q1 ?_)
  refine cP _ rfl (fun c11 => ?_) (fun c11 => ?_)
  ·refine q0 (lP 1 tK rfl ?_)
   refine lC (oD tK (h2.cell 1 _ rfl) rfl rfl rfl rfl rfl ?_)
   refine lC (oK fo57 rfl rfl rfl (sign_spec _ _) ?_)
   rintro _ _ ⟨rfl, rfl⟩
   refine lP 1 tK rfl (q1 ?_)
   refine c_ifB _ rfl (fun c12 => ?_) (fun c12 => ?_)
   ·refine q0 (lP 1 tK rfl (q1 (cR (xR (x1_ rfl rfl ?_)))))
    exact ⟨by rw [rightT_eq]; clear ih; unfold headT armsB; simp_all <;> intros <;> omega, hE⟩
   refine cK ?_
   exact x_cut (b5) (s3 rfl rfl rfl) ⟨by clear ih; simp_all, h2, h5, hk, Lw, hE, hB⟩
  refine q0 (lP 1 tK rfl ?_)
  refine lC (oD tK (h2.cell 1 _ rfl) rfl rfl rfl rfl rfl ?_)
  refine lP 1 tK rfl ?_
  refine lC (oD tK (h5.cell 0 _ rfl) rfl rfl rfl rfl rfl ?_)
  refine lC (oK fo56 rfl rfl rfl (named_spec _ _ _ (by first | exact nm | exact ag)) ?_)
  rintro _ w11 ⟨rfl, ew11⟩
  replace hE := ew11.bl hE hB
  replace h2 := h2.Y ew11
  replace h5 := h5.Y ew11
  replace hk := hk.Y ew11
  replace Lw := Lw.Y ew11
  replace hB := ew11.z hB
  refine lP 1 tK rfl (q1 ?_)
  refine c_ifB _ rfl (fun c13 => ?_) (fun c13 => ?_)
  ·refine q0 (lP 1 tK rfl (q1 (cR (xR (x1_ rfl rfl ?_)))))
   exact ⟨by rw [rightT_eq]; clear ih; unfold headT armsB; simp_all <;> intros <;> omega, hE⟩
  refine cK ?_
  exact x_cut (b5) (s3 rfl rfl rfl) ⟨by clear ih; simp_all, h2, h5, hk, Lw, hE, hB⟩
 clear h2 h5 hk Lw hE hB
 rintro b5 w90 ⟨⟨H1, H2, H3, H4, H5, H6⟩, h2, h5, hk, Lw, hE, hB⟩
 refine c_cut (X := Nat) (fun b5 => [(1, .bool arms), (2, .pointer (some ⟨b2, 0, none⟩)), (5, .pointer (some ⟨b5, 0, none⟩))]) (fun b5 w' => headT t arms = true ∧ At M w' b2 0 [.int .u8 t.op, .string t.name, .string t.arg, .int .i64 t.n, .bool t.has, .int .u8 t.ann.op, .string t.ann.name, .int .i64 t.ann.n, akv, kv] ∧ At M w' b5 0 [.bool (shp t.op).1, .bool (shp t.op).2.1, .int .i64 (shp t.op).2.2.1, .int .i64 (shp t.op).2.2.2.1] ∧ Sl M w' kv t.kids ∧ Low M w' ∧ Below w.heap.size w w' ∧ w.heap.size ≤ w'.heap.size) ?_ ?_
 ·refine q0 (lP 1 tK rfl ?_)
  refine lC (oD tK (h5.cell 2 _ rfl) rfl rfl rfl rfl rfl ?_)
  refine lP 2 tK rfl ?_
  refine lS 66 _ rfl (fun c14 => ?_) (fun c14 => ?_)
  ·refine lP 1 tK rfl ?_
   refine lC (oD tK (h2.cell 9 _ rfl) rfl rfl rfl rfl rfl ?_)
   refine lC (o_len tK hk rfl rfl rfl rfl rfl ?_)
   refine lP 1 tK rfl ?_
   refine lC (oD tK (h5.cell 2 _ rfl) rfl rfl rfl rfl rfl ?_)
   refine lP 3 tK rfl ?_
   refine l_splitN 74 _ rfl (fun c15 => ?_) (fun c15 => ?_)
   ·refine lP 10 tK rfl (q1 (cI rfl (q0 (lP 1 tK rfl (q1 (cR (xR (x1_ rfl rfl ?_))))))))
    exact ⟨by rw [rightT_eq]; clear ih; unfold headT armsB; simp_all <;> intros <;> omega, hE⟩
   refine lP 1 tK rfl ?_
   refine lC (oD tK (h5.cell 2 _ rfl) rfl rfl rfl rfl rfl ?_)
   refine lP 2 tK rfl ?_
   refine lS 78 _ rfl (fun c16 => ?_) (fun c16 => ?_)
   ·refine lP 1 tK rfl ?_
    refine lC (oD tK (h2.cell 9 _ rfl) rfl rfl rfl rfl rfl ?_)
    refine lC (o_len tK hk rfl rfl rfl rfl rfl ?_)
    refine lP 3 tK rfl (q1 ?_)
    refine cP _ rfl (fun c17 => ?_) (fun c17 => ?_)
    ·refine q0 (lP 1 tK rfl (q1 (cR (xR (x1_ rfl rfl ?_)))))
     exact ⟨by rw [rightT_eq]; clear ih; unfold headT armsB; simp_all <;> intros <;> omega, hE⟩
    refine cK ?_
    exact x_cut (b5) (s3 rfl rfl rfl) ⟨by clear ih; simp_all [headT], h2, h5, hk, Lw, hE, hB⟩
   refine lP 6 tK rfl (q1 (c_ifF rfl (cK ?_)))
   exact x_cut (b5) (s3 rfl rfl rfl) ⟨by clear ih; simp_all [headT], h2, h5, hk, Lw, hE, hB⟩
  refine lP 9 tK rfl ?_
  refine lC (oD tK (h5.cell 2 _ rfl) rfl rfl rfl rfl rfl ?_)
  refine lP 2 tK rfl ?_
  refine lS 78 _ rfl (fun c18 => ?_) (fun c18 => ?_)
  ·refine lP 1 tK rfl ?_
   refine lC (oD tK (h2.cell 9 _ rfl) rfl rfl rfl rfl rfl ?_)
   refine lC (o_len tK hk rfl rfl rfl rfl rfl ?_)
   refine lP 3 tK rfl (q1 ?_)
   refine cP _ rfl (fun c19 => ?_) (fun c19 => ?_)
   ·refine q0 (lP 1 tK rfl (q1 (cR (xR (x1_ rfl rfl ?_)))))
    exact ⟨by rw [rightT_eq]; clear ih; unfold headT armsB; simp_all <;> intros <;> omega, hE⟩
   refine cK ?_
   exact x_cut (b5) (s3 rfl rfl rfl) ⟨by clear ih; simp_all [headT], h2, h5, hk, Lw, hE, hB⟩
  refine lP 6 tK rfl (q1 (c_ifF rfl (cK ?_)))
  exact x_cut (b5) (s3 rfl rfl rfl) ⟨by clear ih; simp_all [headT], h2, h5, hk, Lw, hE, hB⟩
 clear h2 h5 hk Lw hE hB
 rintro b5 w110 ⟨HH, h2, h5, hk, Lw, hE, hB⟩
 refine cS (q0 (lP 1 tK rfl ?_))
 refine lC (oD tK (h2.cell 9 _ rfl) rfl rfl rfl rfl rfl ?_)
 refine lC (o_len tK hk rfl rfl rfl rfl rfl ?_)
 refine lP 1 tK rfl (q1 (cB ?_))
 refine c_loop (X := Nat) (fun i => [(1, .bool arms), (2, .pointer (some ⟨b2, 0, none⟩)), (86, kv), (87, .int .i64 (t.kids.length : Int)), (88, .int .i64 (i : Nat))]) (fun i w' => i ≤ t.kids.length ∧ rightT t arms = kidsT t.op i (kidL (t.kids.drop i)) ∧ At M w' b2 0 [.int .u8 t.op, .string t.name, .string t.arg, .int .i64 t.n, .bool t.has, .int .u8 t.ann.op, .string t.ann.name, .int .i64 t.ann.n, akv, kv] ∧ Sl M w' kv t.kids ∧ Low M w' ∧ Below w.heap.size w w' ∧ w.heap.size ≤ w'.heap.size) (fun i => t.kids.length - i) (0) (s5 rfl rfl rfl rfl rfl) ?_ ?_
 ·exact ⟨Nat.zero_le _, by rw [rightT_eq, HH]; rfl, h2, hk, Lw, hE, hB⟩
 rintro i w12 ⟨hi, hinv, h2, hk, Lw, hE, hB⟩
 refine q0 (lP 1 tK rfl (q1 (cS ?_)))
 refine cP _ rfl (fun c20 => ?_) (fun c20 => ?_)
 ·refine cK (xS (cS (cB (q0 (lP 1 tK rfl ?_)))))
  have hik : i < t.kids.length := by omega
  have hlast : decide ((i : Int) = (t.kids.length : Int) - 1) = decide (i + 1 = t.kids.length) := by rw [decide_eq_decide]; omega
  refine lC (o_ixS tK hk (gE hik) rfl rfl rfl rfl rfl rfl rfl rfl rfl ?_)
  intro ebx eox eux hyx hX
  obtain ⟨akvx, kvx, rfl, opx, nmx, agx, n64x, hax, hkx⟩ := tm_open hyx
  replace hX : At M w12 ebx eox [.int .u8 t.kids[i].op, .string t.kids[i].name, .string t.kids[i].arg, .int .i64 t.kids[i].n, .bool t.kids[i].has, .int .u8 t.kids[i].ann.op, .string t.kids[i].ann.name, .int .i64 t.kids[i].ann.n, akvx, kvx] := hX
  refine lC (oL tK (fun j v hv => hX.cell j v hv) rfl rfl rfl rfl rfl rfl ?_)
  refine lC (o_new tK rfl rfl rfl ?_)
  intro b8 w13 qb8 ew13 hb8
  have nb8 := nO Lw qb8
  refine lP 1 tK rfl ?_
  refine lC (o_st tK hb8 rfl rfl rfl rfl (Rep.one hyx) rfl rfl ?_)
  intro w14 h8 uw14 bew14
  have ew14 : Ext w12 w14 := ew13.trans (bew14 _ (lQ qb8.symm))
  replace hE := ew14.bl hE hB
  replace h2 := h2.Y ew14
  replace hk := hk.Y ew14
  replace hyx := Rep.Y hyx ew14
  replace hax := Rep.Y hax ew14
  replace hkx := hkx.Y ew14
  replace hX := hX.Y ew14
  replace Lw := Lw.Y ew14
  replace hB := ew14.z hB
  replace h8 : Box w14 b8 31 [.int .u8 t.kids[i].op, .string t.kids[i].name, .string t.kids[i].arg, .int .i64 t.kids[i].n, .bool t.kids[i].has, .int .u8 t.kids[i].ann.op, .string t.kids[i].ann.name, .int .i64 t.kids[i].ann.n, akvx, kvx] := h8
  replace h8 := h8.at nb8
  refine q1 (q0 (lP 1 tK rfl ?_))
  refine lC (oD tK (h2.cell 0 _ rfl) rfl rfl rfl rfl rfl ?_)
  refine lP 2 tK rfl ?_
  refine lS 96 _ rfl (fun c21 => ?_) (fun c21 => ?_)
  ·refine lP 4 tK rfl (q1 (q0 (lP 2 tK rfl ?_)))
   refine lS 101 _ rfl (fun c22 => ?_) (fun c22 => ?_)
   ·refine lP 1 tK rfl ?_
    refine lC (oD tK (h8.cell 0 _ rfl) rfl rfl rfl rfl rfl ?_)
    refine lP 2 tK rfl ?_
    refine lC (oD tK (h2.cell 9 _ rfl) rfl rfl rfl rfl rfl ?_)
    refine lC (o_len tK hk rfl rfl rfl rfl rfl ?_)
    refine lC (o_ai rfl rfl rfl (by omega) rfl rfl ?_)
    refine lP 1 tK rfl ?_
    refine lC (oK fo58 rfl rfl rfl (arm_spec _ _ _) ?_)
    rintro _ _ ⟨rfl, rfl⟩
    rw [hlast]
    refine lP 3 tK rfl ?_
    refine l_splitB 113 _ rfl (fun c23 => ?_) (fun c23 => ?_)
    ·refine lP 5 tK rfl (q1 (cI rfl (q0 (lP 1 tK rfl (q1 (cR (xB (xR (xR (xB (xR (x1_ rfl rfl ?_))))))))))))
     exact ⟨by rw [hinv, kidsT_step hik]; clear ih; unfold innerB; simp_all, hE⟩
    refine lC (oL tK (fun j v hv => h8.cell j v hv) rfl rfl rfl rfl rfl rfl ?_)
    refine lP 1 tK rfl ?_
    refine lC (oK fo32 rfl rfl rfl (ih _ (gM hik) _ M _ _ hyx Lw (hz.kid (gM hik))) ?_)
    rintro _ w15 ⟨rfl, ew15⟩
    replace hE := ew15.bl hE hB
    replace h2 := h2.Y ew15
    replace hk := hk.Y ew15
    replace hyx := Rep.Y hyx ew15
    replace hax := Rep.Y hax ew15
    replace hkx := hkx.Y ew15
    replace hX := hX.Y ew15
    replace h8 := h8.Y ew15
    replace Lw := Lw.Y ew15
    replace hB := ew15.z hB
    refine lP 2 tK rfl (q1 ?_)
    refine c_ifB _ rfl (fun c24 => ?_) (fun c24 => ?_)
    ·refine q0 (lP 1 tK rfl (q1 (cR (xB (xR (xR (xB (xR (x1_ rfl rfl ?_)))))))))
     exact ⟨by rw [hinv, kidsT_step hik]; clear ih; unfold innerB; simp_all, hE⟩
    refine cK (x_blk (xS (cG ?_)))
    refine lC (o_ai rfl rfl rfl (by omega) rfl rfl ?_)
    refine lP 1 tK rfl (lN ?_)
    exact x_round (i + 1) (s5 rfl rfl rfl rfl (gN rfl (by omega))) ⟨by omega, by rw [hinv, kidsT_step hik]; clear ih; unfold innerB; simp_all, h2, hk, Lw, hE, hB⟩ (by omega)
   refine lP 12 tK rfl ?_
   refine lC (oL tK (fun j v hv => h8.cell j v hv) rfl rfl rfl rfl rfl rfl ?_)
   refine lP 1 tK rfl ?_
   refine lC (oK fo32 rfl rfl rfl (ih _ (gM hik) _ M _ _ hyx Lw (hz.kid (gM hik))) ?_)
   rintro _ w16 ⟨rfl, ew16⟩
   replace hE := ew16.bl hE hB
   replace h2 := h2.Y ew16
   replace hk := hk.Y ew16
   replace hyx := Rep.Y hyx ew16
   replace hax := Rep.Y hax ew16
   replace hkx := hkx.Y ew16
   replace hX := hX.Y ew16
   replace h8 := h8.Y ew16
   replace Lw := Lw.Y ew16
   replace hB := ew16.z hB
   refine lP 2 tK rfl (q1 ?_)
   refine c_ifB _ rfl (fun c25 => ?_) (fun c25 => ?_)
   ·refine q0 (lP 1 tK rfl (q1 (cR (xB (xR (xR (xB (xR (x1_ rfl rfl ?_)))))))))
    exact ⟨by rw [hinv, kidsT_step hik]; clear ih; unfold innerB; simp_all, hE⟩
   refine cK (x_blk (xS (cG ?_)))
   refine lC (o_ai rfl rfl rfl (by omega) rfl rfl ?_)
   refine lP 1 tK rfl (lN ?_)
   exact x_round (i + 1) (s5 rfl rfl rfl rfl (gN rfl (by omega))) ⟨by omega, by rw [hinv, kidsT_step hik]; clear ih; unfold innerB; simp_all, h2, hk, Lw, hE, hB⟩ (by omega)
  refine lP 4 tK rfl (q1 (q0 (lP 14 tK rfl ?_)))
  refine lC (oL tK (fun j v hv => h8.cell j v hv) rfl rfl rfl rfl rfl rfl ?_)
  refine lP 1 tK rfl ?_
  refine lC (oK fo32 rfl rfl rfl (ih _ (gM hik) _ M _ _ hyx Lw (hz.kid (gM hik))) ?_)
  rintro _ w17 ⟨rfl, ew17⟩
  replace hE := ew17.bl hE hB
  replace h2 := h2.Y ew17
  replace hk := hk.Y ew17
  replace hyx := Rep.Y hyx ew17
  replace hax := Rep.Y hax ew17
  replace hkx := hkx.Y ew17
  replace hX := hX.Y ew17
  replace h8 := h8.Y ew17
  replace Lw := Lw.Y ew17
  replace hB := ew17.z hB
  refine lP 2 tK rfl (q1 ?_)
  refine c_ifB _ rfl (fun c26 => ?_) (fun c26 => ?_)
  ·refine q0 (lP 1 tK rfl (q1 (cR (xB (xR (xR (xB (xR (x1_ rfl rfl ?_)))))))))
   exact ⟨by rw [hinv, kidsT_step hik]; clear ih; unfold innerB; simp_all, hE⟩
  refine cK (x_blk (xS (cG ?_)))
  refine lC (o_ai rfl rfl rfl (by omega) rfl rfl ?_)
  refine lP 1 tK rfl (lN ?_)
  exact x_round (i + 1) (s5 rfl rfl rfl rfl (gN rfl (by omega))) ⟨by omega, by rw [hinv, kidsT_step hik]; clear ih; unfold innerB; simp_all, h2, hk, Lw, hE, hB⟩ (by omega)
 refine c_exit (xE (xE (x_blkE (xS (q0 (lP 1 tK rfl (q1 (cR (x1_ rfl rfl ?_)))))))))
 exact ⟨by rw [hinv, kidsT_end (by omega)], hE⟩
theorem tRight_spec (t : Tm) (M : Nat → Prop) (w : World) (v : Value) (ht : Rep.R M w v t) (Lw : Low M w) (hz : AnnS t) :
  Calls Tryz.prog 21 #[v] w (Ret fun r w' => r = .bool (rightT t false) ∧ Ext w w') := by
 have hE := Below.refl w.heap.size w
 have hB := lR w.heap.size
 obtain ⟨akv, kv, rfl, op, nm, ag, n64, ha, hk⟩ := tm_open ht
 refine cN (n := 5) Tryz.func21 rfl rfl rfl ?_
 refine q0 ?_
 refine lC (o_box rfl rfl rfl ?_)
 intro b1 w1 hb_b1 ew1 h1
 replace h1 : Box _ b1 31 [.int .u8 t.op, .string t.name, .string t.arg, .int .i64 t.n, .bool t.has, .int .u8 t.ann.op, .string t.ann.name, .int .i64 t.ann.n, akv, kv] := h1
 replace h1 := h1.at (nO Lw hb_b1)
 replace hE := ew1.bl hE hB
 replace ht := Rep.Y ht ew1
 replace ha := Rep.Y ha ew1
 replace hk := hk.Y ew1
 replace Lw := Lw.Y ew1
 replace hB := ew1.z hB
 refine lP 1 tK rfl (q1 (q0 ?_))
 refine lC (oL tK (fun j v hv => h1.cell j v hv) rfl rfl rfl rfl rfl rfl ?_)
 refine lC (oK fo32 rfl rfl rfl (tright_spec _ _ _ _ _ ht Lw hz) ?_)
 rintro _ w2 ⟨rfl, ew2⟩
 replace hE := ew2.bl hE hB
 replace ht := Rep.Y ht ew2
 replace ha := Rep.Y ha ew2
 replace hk := hk.Y ew2
 replace h1 := h1.Y ew2
 replace Lw := Lw.Y ew2
 replace hB := ew2.z hB
 refine lP 1 tK rfl (q1 (cR (x1_ rfl rfl ?_)))
 exact ⟨rfl, hE⟩
end Go.Proofs.YtpoahmeacjggfaaGreat
namespace Rw
/-! ## Letters -/
theorem hasB_yes {s : ByteArray} {c : UInt8} {j : Nat} (h : s.data[j]? = some c) : hasB s c = true := by
  unfold hasB
  rw [List.any_eq_true]
  exact ⟨c, by rw [Array.mem_toList_iff]; exact Array.mem_of_getElem? h, by simp⟩
theorem hasB_no {s : ByteArray} {c : UInt8} (h : ∀ j, j < s.size → s.data[j]? ≠ some c) : hasB s c = false := by
  unfold hasB
  rw [List.any_eq_false]
  intro x hx
  simp only [decide_eq_true_eq]
  rintro rfl
  rw [Array.mem_toList_iff] at hx
  obtain ⟨j, hj, e⟩ := Array.getElem_of_mem hx
  exact h j hj (by rw [Array.getElem?_eq_getElem hj, e])
def countTo (s : ByteArray) (i : Nat) : Nat := ((s.data.toList.take i).filter fun x => decide (x = 101)).length
theorem countTo_all {s : ByteArray} {i : Nat} (h : s.size ≤ i) : countTo s i = countE s := by
  unfold countTo countE
  rw [List.take_of_length_le (by simpa using h)]
theorem countTo_step {s : ByteArray} {i : Nat} {c : UInt8} (h : s.data[i]? = some c) : countTo s (i + 1) = countTo s i + if c = 101 then 1 else 0 := by
  have hi : i < s.data.toList.length := by simpa using (Array.getElem?_eq_some_iff.1 h).1
  have e : s.data.toList[i] = c := by
    have := (Array.getElem?_eq_some_iff.1 h).2
    simpa using this
  unfold countTo
  rw [List.take_succ_eq_append_getElem hi, List.filter_append, List.length_append, e]
  by_cases hc : c = 101
  · subst hc; simp
  · simp [hc]
theorem countTo_le (s : ByteArray) (i : Nat) : countTo s i ≤ i := by
  unfold countTo
  have h1 := List.length_filter_le (fun x => decide (x = 101)) (s.data.toList.take i)
  rw [List.length_take] at h1
  omega
/-! ## Right, twice -/
theorem shp_parts {op : Int} (h : ¬ (op < 32 ∨ 52 ≤ op)) : (shp op).2.2.2.2 = true ∧ partsS op ≠ ⟨#[]⟩ ∧ (op ≠ 48 → (shp op).2.2.1 = (countE (partsS op) : Int) ∧ partsS op ≠ ⟨#[99]⟩) := by
  rcases op_cases h with e | e | e | e | e | e | e | e | e | e | e | e | e | e | e | e | e | e | e | e <;> subst e <;> exact ⟨by decide, by decide, by decide⟩
theorem shp_no {op : Int} (h : op < 32 ∨ 52 ≤ op) : (shp op).2.2.2.2 = false := by
  unfold shp
  repeat rw [if_neg (by omega)]
theorem arms_of {k : Tm} (h : rightT k true = true) : k.op = 49 ∨ k.op = 50 := by
  rw [rightT_eq, headT] at h
  simp only [Bool.and_eq_true, beq_iff_eq] at h
  have h1 := h.1.2.1
  unfold armsB at h1
  simpa using h1.symm
theorem kids_arms : ∀ (l : List Tm) (i : Nat), kidsT 48 (i + 1) (kidL l) = armsL (kidL l)
  | [], _ => rfl
  | k :: l, i => by
    show kidsT 48 (i + 1) ((k.op, rightT k) :: kidL l) = armsL ((k.op, rightT k) :: kidL l)
    have hi : innerB 48 (i + 1) = true := by unfold innerB; simp
    rw [kidsT, armsL, hi, kids_arms l (i + 1)]
    cases hg : rightT k true with
    | false => simp
    | true =>
      rcases arms_of hg with e | e
      · rw [e, show armB 49 (kidL l).isEmpty = true from rfl]; simp
      · rw [e, show armB 50 (kidL l).isEmpty = (kidL l).isEmpty by unfold armB; simp]; simp
theorem kids_all {op : Int} (h : op ≠ 48) : ∀ (l : List Tm) (i : Nat), kidsT op i (kidL l) = allL (kidL l)
  | [], _ => rfl
  | k :: l, i => by
    show kidsT op i ((k.op, rightT k) :: kidL l) = allL ((k.op, rightT k) :: kidL l)
    have hi : innerB op i = false := by unfold innerB; simp [h]
    rw [kidsT, hi, kids_all h l (i + 1)]
    simp [allL]
theorem ref_right (t : Tm) : ∀ arm, refT t arm = rightT t arm := by
  refine Tm.ind (p := fun t => ∀ arm, refT t arm = rightT t arm) (fun t ih => ?_) t
  intro arm
  have hk : refL t.kids = kidL t.kids := by
    unfold refL kidL
    apply List.map_congr_left
    intro k hk
    rw [show refT k = rightT k from funext (ih k hk)]
  rw [refT_eq, rightT_eq, hk, headT]
  by_cases ho : t.op < 32 ∨ 52 ≤ t.op
  · rw [shp_no ho, show partsS t.op = ⟨#[]⟩ by unfold partsS; rw [if_pos ho]]; simp
  · obtain ⟨h1, h2, h3⟩ := shp_parts ho
    rw [h1, dF h2, parts_node ho, nodeB]
    have hkids : (bif decide (partsS t.op = ⟨#[99]⟩) then caseL (kidL t.kids) else decide (t.kids.length = countE (partsS t.op)) && allL (kidL t.kids)) =
        ((bif decide (0 ≤ (shp t.op).2.2.1) then decide ((t.kids.length : Int) = (shp t.op).2.2.1) else !decide (t.kids = [])) && kidsT t.op 0 (kidL t.kids)) := by
      by_cases h48 : t.op = 48
      · rw [h48, show decide (partsS 48 = ⟨#[99]⟩) = true by decide, show decide (0 ≤ (shp 48).2.2.1) = false by decide]
        simp only [cond_true, cond_false]
        cases hl : t.kids with
        | nil => rfl
        | cons k l =>
          show caseL ((k.op, rightT k) :: kidL l) = (_ && kidsT 48 0 ((k.op, rightT k) :: kidL l))
          rw [caseL, kidsT, show innerB 48 0 = false from rfl, kids_arms l 0]
          simp
      · obtain ⟨h4, h5⟩ := h3 h48
        rw [dF h5, h4, dT (show (0 : Int) ≤ (countE (partsS t.op) : Int) by omega), kids_all h48]
        simp only [cond_true, cond_false]
        congr 1
        rw [decide_eq_decide]
        omega
    rw [hkids]
    simp only [Bool.not_false, Bool.true_and, Bool.and_assoc]
theorem allL_step {l : List Tm} {i : Nat} (hi : i < l.length) : allL (refL (l.drop i)) = (refT l[i] false && allL (refL (l.drop (i + 1)))) := by
  rw [List.drop_eq_getElem_cons hi]; rfl
theorem allL_end {l : List Tm} {i : Nat} (hi : l.length ≤ i) : allL (refL (l.drop i)) = true := by rw [List.drop_eq_nil_of_le hi]; rfl
theorem armsL_step {l : List Tm} {i : Nat} (hi : i < l.length) : armsL (refL (l.drop i)) = (refT l[i] true && (!(decide (l[i].op = 50) && decide (i + 1 < l.length)) && armsL (refL (l.drop (i + 1))))) := by
  rw [List.drop_eq_getElem_cons hi]
  show armsL ((l[i].op, refT l[i]) :: refL (l.drop (i + 1))) = _
  rw [armsL]
  have e : (!(refL (l.drop (i + 1))).isEmpty) = decide (i + 1 < l.length) := by
    rw [Bool.eq_iff_iff, Bool.not_eq_true', decide_eq_true_eq, ← Bool.not_eq_true, List.isEmpty_iff]
    unfold refL
    rw [List.map_eq_nil_iff, List.drop_eq_nil_iff]
    omega
  rw [e]
theorem armsL_end {l : List Tm} {i : Nat} (hi : l.length ≤ i) : armsL (refL (l.drop i)) = true := by rw [List.drop_eq_nil_of_le hi]; rfl
theorem caseL_step {l : List Tm} (hi : 0 < l.length) : caseL (refL l) = (refT l[0] false && armsL (refL (l.drop 1))) := by
  cases l with
  | nil => cases hi
  | cons k l => rfl
abbrev BF := List (ByteArray × Int) × List (ByteArray × Bool)
def bnd (l : List (ByteArray × Int)) (s : ByteArray) : Int := (getK l s).getD 0
def incK (l : List (ByteArray × Int)) (s : ByteArray) (d : Int) : List (ByteArray × Int) := putK l s (bnd l s + d)
def incs (l : List (ByteArray × Int)) (ss : List ByteArray) (d : Int) : List (ByteArray × Int) := ss.foldl (fun l s => incK l s d) l
def withF (g : BF → BF) (ss : List ByteArray) (x : BF) : BF := (incs (g (incs x.1 ss 1, x.2)).1 ss (-1), (g (incs x.1 ss 1, x.2)).2)
def downK (op : Int) (name arg : ByteArray) (gs : List (BF → BF)) (x : BF) : BF :=
  if op = 32 then (if bnd x.1 name = 0 then (x.1, putK x.2 name true) else x) else if op = 35 ∨ op = 49 ∨ op = 50 then withF (gs.headD id) [arg] x else if op = 36 then withF (gs.headD id) [name, arg] x
  else if op = 38 then withF ((gs[1]?).getD id) [name] (gs.headD id x) else gs.foldl (fun x g => g x) x
/-- Down an expression. -/
def downF : Tm → BF → BF
  | .mk op name arg n has ann kids => downK op name arg (kids.map downF)
theorem downF_eq (t : Tm) : downF t = downK t.op t.name t.arg (t.kids.map downF) := by cases t; rw [downF]; rfl
theorem incs_snoc (l : List (ByteArray × Int)) (ss : List ByteArray) (s : ByteArray) (d : Int) : incs l (ss ++ [s]) d = incK (incs l ss d) s d := by simp [incs]
theorem incs_step {l : List (ByteArray × Int)} {ss : List ByteArray} {d : Int} {i : Nat} (h : i < ss.length) : incs l (ss.take (i + 1)) d = putK (incs l (ss.take i) d) ss[i] (bnd (incs l (ss.take i) d) ss[i] + d) := by
  rw [List.take_succ_eq_append_getElem h, incs_snoc]; rfl
theorem bnd_inc (l : List (ByteArray × Int)) (s : ByteArray) (d : Int) (x : ByteArray) : bnd (incK l s d) x = bnd l x + if x = s then d else 0 := by
  unfold incK
  by_cases h : x = s
  · subst h; rw [if_pos rfl]; unfold bnd; rw [getK_put, if_pos rfl]; rfl
  · rw [if_neg h]; unfold bnd; rw [getK_put, if_neg h]; omega
def times (ss : List ByteArray) (x : ByteArray) : Int := ((ss.filter fun s => decide (x = s)).length : Int)
theorem bnd_incs (d : Int) (x : ByteArray) : ∀ (ss : List ByteArray) (l : List (ByteArray × Int)), bnd (incs l ss d) x = bnd l x + times ss x * d
  | [], l => by simp [incs, times]
  | s :: ss, l => by
    show bnd (incs (incK l s d) ss d) x = _
    rw [bnd_incs d x ss, bnd_inc]
    unfold times
    by_cases h : x = s
    · subst h; simp [Int.add_mul]; omega
    · simp [h]
theorem times_le (ss : List ByteArray) (x : ByteArray) : 0 ≤ times ss x ∧ times ss x ≤ ss.length := by
  unfold times
  have := List.length_filter_le (fun s => decide (x = s)) ss
  omega
theorem down_same (t : Tm) : ∀ (x : BF) (s : ByteArray), bnd (downF t x).1 s = bnd x.1 s := by
  refine Tm.ind (p := fun t => ∀ (x : BF) (s : ByteArray), bnd (downF t x).1 s = bnd x.1 s) (fun t ih => ?_) t
  intro x s
  have hw : ∀ (g : BF → BF) (ss : List ByteArray) (x : BF), (∀ x, bnd (g x).1 s = bnd x.1 s) → bnd (withF g ss x).1 s = bnd x.1 s := by
    intro g ss x hg
    show bnd (incs (g (incs x.1 ss 1, x.2)).1 ss (-1)) s = _
    rw [bnd_incs, hg, bnd_incs]
    omega
  have hhead : ∀ x, bnd ((t.kids.map downF).headD id x).1 s = bnd x.1 s := by
    intro x
    cases h : t.kids with
    | nil => rfl
    | cons k l => exact ih k (by rw [h]; exact List.mem_cons_self) x s
  have hone : ∀ x, bnd ((((t.kids.map downF)[1]?).getD id) x).1 s = bnd x.1 s := by
    intro x
    cases h : (t.kids.map downF)[1]? with
    | none => rfl
    | some g =>
      rw [List.getElem?_map] at h
      cases hk : t.kids[1]? with
      | none => rw [hk] at h; cases h
      | some k =>
        rw [hk] at h
        cases h
        exact ih k (List.mem_of_getElem? hk) x s
  have hfold : ∀ (l : List Tm) (x : BF), (∀ k ∈ l, k ∈ t.kids) → bnd ((l.map downF).foldl (fun x g => g x) x).1 s = bnd x.1 s := by
    intro l
    induction l with
    | nil => intro x _; rfl
    | cons k l ihl =>
      intro x hk
      rw [List.map_cons, List.foldl_cons, ihl _ (fun y hy => hk y (List.mem_cons_of_mem _ hy))]
      exact ih k (hk k List.mem_cons_self) x s
  rw [downF_eq]
  unfold downK
  split
  · split <;> rfl
  · split
    · exact hw _ _ _ hhead
    · split
      · exact hw _ _ _ hhead
      · split
        · rw [hw _ _ _ hone, hhead]
        · exact hfold _ _ (fun k h => h)
def foldD (l : List Tm) (x : BF) : BF := (l.map downF).foldl (fun x g => g x) x
theorem foldD_step {l : List Tm} {i : Nat} (h : i < l.length) (x : BF) : foldD (l.take (i + 1)) x = downF l[i] (foldD (l.take i) x) := by
  unfold foldD
  rw [List.take_succ_eq_append_getElem h, List.map_append, List.foldl_append]; rfl
theorem foldD_same (s : ByteArray) : ∀ (l : List Tm) (x : BF), bnd (foldD l x).1 s = bnd x.1 s
  | [], _ => rfl
  | k :: l, x => by
    show bnd (foldD l (downF k x)).1 s = _
    rw [foldD_same s l, down_same]
theorem down_var {t : Tm} (h : t.op = 32) (x : BF) : downF t x = if bnd x.1 t.name = 0 then (x.1, putK x.2 t.name true) else x := by rw [downF_eq, downK, if_pos h]
theorem headD_map {l : List Tm} (h : 0 < l.length) : (l.map downF).headD id = downF l[0] := by
  cases l with
  | nil => cases h
  | cons k l => rfl
theorem oneD_map {l : List Tm} (h : 1 < l.length) : ((l.map downF)[1]?).getD id = downF l[1] := by
  rw [List.getElem?_map, gE h]; rfl
theorem down_one {t : Tm} (h : t.op = 35 ∨ t.op = 49 ∨ t.op = 50) (h1 : 0 < t.kids.length) (x : BF) : downF t x = withF (downF t.kids[0]) [t.arg] x := by
  rw [downF_eq, downK, if_neg (by omega), if_pos h, headD_map h1]
theorem down_rec {t : Tm} (h : t.op = 36) (h1 : 0 < t.kids.length) (x : BF) : downF t x = withF (downF t.kids[0]) [t.name, t.arg] x := by
  rw [downF_eq, downK, if_neg (by omega), if_neg (by omega), if_pos h, headD_map h1]
theorem down_let {t : Tm} (h : t.op = 38) (h1 : 1 < t.kids.length) (x : BF) : downF t x = withF (downF t.kids[1]) [t.name] (downF t.kids[0] x) := by
  rw [downF_eq, downK, if_neg (by omega), if_neg (by omega), if_neg (by omega), if_pos h, headD_map (by omega), oneD_map h1]
theorem down_else {t : Tm} (h : t.op ≠ 32 ∧ t.op ≠ 35 ∧ t.op ≠ 49 ∧ t.op ≠ 50 ∧ t.op ≠ 36 ∧ t.op ≠ 38) (x : BF) : downF t x = foldD t.kids x := by
  rw [downF_eq, downK, if_neg (by omega), if_neg (by omega), if_neg (by omega), if_neg (by omega)]; rfl
theorem kidsT_each {op : Int} : ∀ (l : List Tm) (i : Nat), kidsT op i (kidL l) = true → ∀ k ∈ l, ∃ b, rightT k b = true
  | [], _, _, k, hk => by cases hk
  | y :: l, i, h, k, hk => by
    have h' : kidsT op i ((y.op, rightT y) :: kidL l) = true := h
    rw [kidsT] at h'
    simp only [Bool.and_eq_true] at h'
    rcases List.mem_cons.1 hk with rfl | hk
    · exact ⟨_, h'.2.1⟩
    · exact kidsT_each l _ h'.2.2 k hk
theorem right_kids {t : Tm} {b : Bool} (h : rightT t b = true) : (t.op ≠ 48 → (t.kids.length : Int) = (shp t.op).2.2.1) ∧ (∀ k ∈ t.kids, ∃ b', rightT k b' = true) ∧ (32 ≤ t.op ∧ t.op < 52) ∧ (t.op = 48 → 0 < t.kids.length) := by
  rw [rightT_eq] at h
  simp only [Bool.and_eq_true] at h
  obtain ⟨hh, hk⟩ := h
  unfold headT at hh
  simp only [Bool.and_eq_true] at hh
  have hv : ¬ (t.op < 32 ∨ 52 ≤ t.op) := fun e => by rw [shp_no e] at hh; exact absurd hh.1 (by simp)
  have hl := hh.2.2.2.2.2.2
  refine ⟨fun e => ?_, kidsT_each _ _ hk, by omega, fun e => ?_⟩
  · have h1 := ((shp_parts hv).2.2 e).1
    rw [h1, dT (show (0 : Int) ≤ _ by omega)] at hl
    rw [h1]
    simpa using hl
  · rw [e] at hl
    simp [shp] at hl
    exact List.length_pos_iff.2 hl
theorem shp_one {op : Int} (h : op = 35 ∨ op = 36 ∨ op = 49 ∨ op = 50 ∨ op = 46) : (shp op).2.2.1 = 1 ∧ op ≠ 48 := by
  rcases h with h | h | h | h | h <;> subst h <;> exact ⟨by decide, by decide⟩
theorem shp_two {op : Int} (h : op = 38 ∨ op = 42) : (shp op).2.2.1 = 2 ∧ op ≠ 48 := by
  rcases h with h | h <;> subst h <;> exact ⟨by decide, by decide⟩
end Rw
namespace Go.Proofs.YtpoahmeacjggfaaGreat
open Go Rw Go.RowKit
set_option maxRecDepth 100000
/-- What down does of an expression. -/
def DownC (t : Tm) : Prop := ∀ (K : Nat) (x : BF) (M : Nat → Prop) (w : World) (B : Nat) (v : Value) (np bm fm : Nat) (b : Bool), rightT t b = true → Rep.R M w v t → At M w np 0 [.map (some bm), .map (some fm)] → OM (κ := ByteArray) (fun x : Int => Value.int .i64 x) B M w bm x.1 → OM (κ := ByteArray) (fun x : Bool => Value.bool x) B M w fm x.2 → bm ≠ fm → Low M w → B ≤ w.heap.size → (∀ s, 0 ≤ bnd x.1 s ∧ bnd x.1 s ≤ K) → K + 2 * nsz t ≤ 1000000000 →
  Calls Tryz.prog 22 #[.pointer (some ⟨np, 0, none⟩), v] w (Ret fun r w' => r = .tuple #[] ∧ OM (κ := ByteArray) (fun x : Int => Value.int .i64 x) B M w' bm (downF t x).1 ∧ OM (κ := ByteArray) (fun x : Bool => Value.bool x) B M w' fm (downF t x).2 ∧ Stp B M M w w' ∧ Kept w w' (Out (fun z => z = bm ∨ z = fm) w))
theorem within_of (t : Tm) (hd : DownC t) (l : List ByteArray) (K : Nat) (x : BF) (M : Nat → Prop) (w : World) (B : Nat) (v vl : Value) (np bm fm : Nat) (b : Bool) (hr : rightT t b = true) (ht : Rep.R M w v t) (hs : Sl M w vl l) : At M w np 0 [.map (some bm), .map (some fm)] → OM (κ := ByteArray) (fun x : Int => Value.int .i64 x) B M w bm x.1 → OM (κ := ByteArray) (fun x : Bool => Value.bool x) B M w fm x.2 → bm ≠ fm → Low M w → B ≤ w.heap.size → (∀ s, 0 ≤ bnd x.1 s ∧ bnd x.1 s ≤ K) → l.length ≤ 2 → K + 2 + 2 * nsz t ≤ 1000000000 →
  Calls Tryz.prog 33 #[.pointer (some ⟨np, 0, none⟩), v, vl] w (Ret fun r w' => r = .tuple #[] ∧ OM (κ := ByteArray) (fun x : Int => Value.int .i64 x) B M w' bm (withF (downF t) l x).1 ∧ OM (κ := ByteArray) (fun x : Bool => Value.bool x) B M w' fm (withF (downF t) l x).2 ∧ Stp B M M w w' ∧ Kept w w' (Out (fun z => z = bm ∨ z = fm) w)) := by
 intro hn hm hf hne Lw hB hbx hll hK
 have hT : Stp B M M w w := Stp.refl Lw
 have hfr : Kept w w (Out (fun z => z = bm ∨ z = fm) w) := Kept.refl (fun x hx => hx.1)
 have d_hfr_hm : ∀ x, (Out (fun z => z = bm ∨ z = fm) w) x → x ≠ bm := fun x hx e => hx.2 (.inl e)
 have d_hfr_hf : ∀ x, (Out (fun z => z = bm ∨ z = fm) w) x → x ≠ fm := fun x hx e => hx.2 (.inr e)
 have ne_hm_hf := hne
 obtain ⟨akv, kv, rfl, op, nm, ag, n64, ha, hk⟩ := tm_open ht
 refine cN (n := 41) Tryz.func33 rfl rfl rfl ?_
 refine q0 ?_
 refine lC (o_box rfl rfl rfl ?_)
 intro b4 w1 hb_b4 ew1 h4
 replace h4 : Box _ b4 31 [.int .u8 t.op, .string t.name, .string t.arg, .int .i64 t.n, .bool t.has, .int .u8 t.ann.op, .string t.ann.name, .int .i64 t.ann.n, akv, kv] := h4
 replace h4 := h4.at (nO Lw hb_b4)
 replace hT := hT.then (Stp.Y ew1 Lw hB)
 replace hfr := hfr.Y Lw hB ew1
 replace hm := hm.Y Lw hB ew1
 replace hf := hf.Y Lw hB ew1
 replace hn := hn.Y ew1
 replace ht := Rep.Y ht ew1
 replace ha := Rep.Y ha ew1
 replace hk := hk.Y ew1
 replace hs := hs.Y ew1
 replace Lw := Lw.Y ew1
 replace hB := ew1.z hB
 refine q1 (cS (q0 (lP 1 tK rfl ?_)))
 refine lC (o_len tK hs rfl rfl rfl rfl rfl ?_)
 refine lP 1 tK rfl (q1 (cB ?_))
 refine c_loop (X := Nat) (fun i => [(0, .pointer (some ⟨np, 0, none⟩)), (2, vl), (10, vl), (11, .int .i64 (l.length : Int)), (12, .int .i64 (i : Nat)), (4, .pointer (some ⟨b4, 0, none⟩))]) (fun i w' => i ≤ l.length ∧ OM (κ := ByteArray) (fun x : Int => Value.int .i64 x) B M w' bm (incs x.1 (l.take i) (1)) ∧ OM (κ := ByteArray) (fun x : Bool => Value.bool x) B M w' fm (x.2) ∧ At M w' np 0 [.map (some bm), .map (some fm)] ∧ Stp B M M w w' ∧ Kept w w' (Out (fun z => z = bm ∨ z = fm) w) ∧ Low M w' ∧ B ≤ w'.heap.size ∧ At M w' b4 0 [.int .u8 t.op, .string t.name, .string t.arg, .int .i64 t.n, .bool t.has, .int .u8 t.ann.op, .string t.ann.name, .int .i64 t.ann.n, akv, kv] ∧ Rep.R M w' (.agg #[.int .u8 t.op, .string t.name, .string t.arg, .int .i64 t.n, .bool t.has, .int .u8 t.ann.op, .string t.ann.name, .int .i64 t.ann.n, akv, kv]) t ∧ Rep.R M w' (.agg #[.int .u8 t.ann.op, .string t.ann.name, .int .i64 t.ann.n, akv]) t.ann ∧ Sl M w' kv t.kids ∧ Sl M w' vl l) (fun i => l.length - i) (0) (s6 rfl rfl rfl rfl rfl rfl) ?_ ?_
 ·exact ⟨Nat.zero_le _, hm, hf, hn, hT, hfr, Lw, hB, h4, ht, ha, hk, hs⟩
 clear hm hf hn hT hfr Lw hB h4 ht ha hk hs
 rintro i w2 ⟨hi, hm, hf, hn, hT, hfr, Lw, hB, h4, ht, ha, hk, hs⟩
 refine q0 (lP 1 tK rfl (q1 (cS ?_)))
 refine cP _ rfl (fun c1 => ?_) (fun c1 => ?_)
 ·refine cK (xS (cS (cB (q0 ?_))))
  have hil : i < l.length := by omega
  refine lC (o_ixS tK hs (gE hil) rfl rfl rfl rfl rfl rfl rfl rfl rfl ?_)
  intro eb eo eu hr2 hat
  obtain ⟨rfl, _⟩ := hr2
  refine lC (oD tK (hat.cell 0 _ rfl) rfl rfl rfl rfl rfl ?_)
  refine lP 1 tK rfl (q1 (cG (lP 3 tK rfl ?_)))
  refine lC (oD tK (hn.cell 0 _ rfl) rfl rfl rfl rfl rfl ?_)
  refine lP 1 tK rfl ?_
  have hti := times_le (l.take i) l[i]
  have hbi := bnd_incs (1) l[i] (l.take i) (x.1)
  have hbx2 := hbx l[i]
  rw [List.length_take] at hti
  have hg : (getK (incs x.1 (l.take i) (1)) l[i]).getD 0 = bnd (incs x.1 (l.take i) (1)) l[i] := rfl
  refine lC (o_look (z := 0) tK hm.map (k := l[i]) rfl rfl rfl rfl ⟨_, Tryz.underlying9, rfl⟩ rfl rfl rfl rfl ?_)
  refine lC (o_ar rfl rfl rfl (z := bnd (incs x.1 (l.take i) (1)) l[i] + (1)) (by rw [hg]; exact IntWalk.i64_in _ (by omega)) rfl rfl ?_)
  refine lC (o_mupd tK hm.map (k := l[i]) (v := bnd (incs x.1 (l.take i) (1)) l[i] + (1)) rfl rfl rfl rfl rfl ⟨_, Tryz.underlying9, rfl⟩ rfl ?_)
  intro w3 hw3 qw3 bew3
  have uw3 : UpdB _ _ _ := ⟨qw3, bew3⟩
  have sw3 := uw3.sp hm.inM Lw hm.ge
  have frw3 := qw3.2
  replace hT := hT.then sw3
  replace hfr := hfr.sp sw3 (fun x hx => frw3 x (hfr.lt x hx).2 (d_hfr_hm x hx))
  replace hf := hf.sp sw3 (frw3 fm hf.lt ne_hm_hf.symm)
  replace hn := hn.sp sw3
  replace h4 := h4.sp sw3
  replace ht := Rep.sp ht sw3
  replace ha := Rep.sp ha sw3
  replace hk := hk.sp sw3
  replace hs := hs.sp sw3
  replace Lw := sw3.low
  replace hB := sw3.z hB
  replace hm : OM _ _ _ w3 _ (putK (incs x.1 (l.take i) (1)) l[i] (bnd (incs x.1 (l.take i) (1)) l[i] + (1))) := ⟨hw3, hm.inM, hm.ge⟩
  refine q2 (xS (cG ?_))
  refine lC (o_ai rfl rfl rfl (by omega) rfl rfl ?_)
  refine lP 1 tK rfl (lN ?_)
  exact x_round (i + 1) (s6 rfl rfl rfl rfl (gN rfl (by omega)) rfl) ⟨by omega, by rw [incs_step hil]; exact hm, hf, hn, hT, hfr, Lw, hB, h4, ht, ha, hk, hs⟩ (by omega)
 refine c_exit (xE (xE (x_blkE (xS (q0 (lP 1 tK rfl ?_))))))
 refine lC (oL tK (fun j v hv => h4.cell j v hv) rfl rfl rfl rfl rfl rfl ?_)
 obtain rfl : i = l.length := by omega
 rw [List.take_of_length_le (lR _)] at hm
 have hbk : ∀ s, 0 ≤ bnd (incs x.1 l 1) s ∧ bnd (incs x.1 l 1) s ≤ ((K + 2 : Nat) : Int) := fun s => by
  have h1 := times_le l s
  have h2 := hbx s
  rw [bnd_incs]; omega
 refine lC (oK fo22 rfl rfl rfl (hd (K + 2) (incs x.1 l 1, x.2) M _ B _ np bm fm b hr ht hn hm hf hne Lw hB hbk (by omega)) ?_)
 rintro _ w4 ⟨rfl, hmw4, hfw4, sw4, kw4⟩
 have frw4 : ∀ x, x < w2.heap.size → ¬ (x = bm ∨ x = fm) → w4.heap[x]? = w2.heap[x]? := fun x hx hn => kw4.blk x ⟨hx, hn⟩
 replace hT := hT.then sw4
 replace hfr := hfr.sp sw4 (fun x hx => frw4 x (hfr.lt x hx).2 hx.2)
 replace hn := hn.sp sw4
 replace h4 := h4.sp sw4
 replace ht := Rep.sp ht sw4
 replace ha := Rep.sp ha sw4
 replace hk := hk.sp sw4
 replace hs := hs.sp sw4
 replace Lw := sw4.low
 replace hB := sw4.z hB
 replace hm := hmw4
 replace hf := hfw4
 clear hmw4 hfw4
 refine q1 (q0 (lP 1 tK rfl ?_))
 refine lC (o_len tK hs rfl rfl rfl rfl rfl ?_)
 refine lP 1 tK rfl (q1 (cB ?_))
 refine c_loop (X := Nat) (fun i => [(0, .pointer (some ⟨np, 0, none⟩)), (2, vl), (27, vl), (28, .int .i64 (l.length : Int)), (29, .int .i64 (i : Nat))]) (fun i w' => i ≤ l.length ∧ OM (κ := ByteArray) (fun x : Int => Value.int .i64 x) B M w' bm (incs (downF t (incs x.1 l 1, x.2)).1 (l.take i) (-1)) ∧ OM (κ := ByteArray) (fun x : Bool => Value.bool x) B M w' fm ((downF t (incs x.1 l 1, x.2)).2) ∧ At M w' np 0 [.map (some bm), .map (some fm)] ∧ Stp B M M w w' ∧ Kept w w' (Out (fun z => z = bm ∨ z = fm) w) ∧ Low M w' ∧ B ≤ w'.heap.size ∧ Sl M w' vl l) (fun i => l.length - i) (0) (s5 rfl rfl rfl rfl rfl) ?_ ?_
 ·exact ⟨Nat.zero_le _, hm, hf, hn, hT, hfr, Lw, hB, hs⟩
 clear hm hf hn hT hfr Lw hB hs
 rintro i w5 ⟨hi, hm, hf, hn, hT, hfr, Lw, hB, hs⟩
 refine q0 (lP 1 tK rfl (q1 (cS ?_)))
 refine cP _ rfl (fun c2 => ?_) (fun c2 => ?_)
 ·refine cK (xS (cS (cB (q0 ?_))))
  have hil : i < l.length := by omega
  refine lC (o_ixS tK hs (gE hil) rfl rfl rfl rfl rfl rfl rfl rfl rfl ?_)
  intro eb eo eu hr2 hat
  obtain ⟨rfl, _⟩ := hr2
  refine lC (oD tK (hat.cell 0 _ rfl) rfl rfl rfl rfl rfl ?_)
  refine lP 1 tK rfl (q1 (cG (lP 3 tK rfl ?_)))
  refine lC (oD tK (hn.cell 0 _ rfl) rfl rfl rfl rfl rfl ?_)
  refine lP 1 tK rfl ?_
  have hti := times_le (l.take i) l[i]
  have hbi := bnd_incs (-1) l[i] (l.take i) ((downF t (incs x.1 l 1, x.2)).1)
  have hbx2 := hbx l[i]
  rw [List.length_take] at hti
  have hg : (getK (incs (downF t (incs x.1 l 1, x.2)).1 (l.take i) (-1)) l[i]).getD 0 = bnd (incs (downF t (incs x.1 l 1, x.2)).1 (l.take i) (-1)) l[i] := rfl
  have htl := times_le l l[i]
  have hbd : bnd (downF t (incs x.1 l 1, x.2)).1 l[i] = bnd x.1 l[i] + times l l[i] * 1 := by rw [down_same, bnd_incs]
  refine lC (o_look (z := 0) tK hm.map (k := l[i]) rfl rfl rfl rfl ⟨_, Tryz.underlying9, rfl⟩ rfl rfl rfl rfl ?_)
  refine lC (o_ar rfl rfl rfl (z := bnd (incs (downF t (incs x.1 l 1, x.2)).1 (l.take i) (-1)) l[i] + (-1)) (by rw [hg, show bnd (incs (downF t (incs x.1 l 1, x.2)).1 (l.take i) (-1)) l[i] - 1 = bnd (incs (downF t (incs x.1 l 1, x.2)).1 (l.take i) (-1)) l[i] + (-1) by omega]; exact IntWalk.i64_in _ (by omega)) rfl rfl ?_)
  refine lC (o_mupd tK hm.map (k := l[i]) (v := bnd (incs (downF t (incs x.1 l 1, x.2)).1 (l.take i) (-1)) l[i] + (-1)) rfl rfl rfl rfl rfl ⟨_, Tryz.underlying9, rfl⟩ rfl ?_)
  intro w6 hw6 qw6 bew6
  have uw6 : UpdB _ _ _ := ⟨qw6, bew6⟩
  have sw6 := uw6.sp hm.inM Lw hm.ge
  have frw6 := qw6.2
  replace hT := hT.then sw6
  replace hfr := hfr.sp sw6 (fun x hx => frw6 x (hfr.lt x hx).2 (d_hfr_hm x hx))
  replace hf := hf.sp sw6 (frw6 fm hf.lt ne_hm_hf.symm)
  replace hn := hn.sp sw6
  replace hs := hs.sp sw6
  replace Lw := sw6.low
  replace hB := sw6.z hB
  replace hm : OM _ _ _ w6 _ (putK (incs (downF t (incs x.1 l 1, x.2)).1 (l.take i) (-1)) l[i] (bnd (incs (downF t (incs x.1 l 1, x.2)).1 (l.take i) (-1)) l[i] + (-1))) := ⟨hw6, hm.inM, hm.ge⟩
  refine q2 (xS (cG ?_))
  refine lC (o_ai rfl rfl rfl (by omega) rfl rfl ?_)
  refine lP 1 tK rfl (lN ?_)
  exact x_round (i + 1) (s5 rfl rfl rfl rfl (gN rfl (by omega))) ⟨by omega, by rw [incs_step hil]; exact hm, hf, hn, hT, hfr, Lw, hB, hs⟩ (by omega)
 refine c_exit (xE (xE (x_blkE ?_)))
 refine x_ret0n rfl ?_
 obtain rfl : i = l.length := by omega
 rw [List.take_of_length_le (lR _)] at hm
 exact ⟨rfl, hm, hf, hT, hfr⟩
theorem down_spec : ∀ (t : Tm), DownC t := by
 refine Tm.ind fun t ih => ?_
 intro K x M w B v np bm fm b hr ht hn hm hf hne Lw hB hbx hK
 obtain ⟨hrl, hrk, hro, _⟩ := right_kids hr
 have hkz := fun k (hk : k ∈ t.kids) => kid_nsz hk
 have hT : Stp B M M w w := Stp.refl Lw
 have hfr : Kept w w (Out (fun z => z = bm ∨ z = fm) w) := Kept.refl (fun x hx => hx.1)
 have d_hfr_hm : ∀ x, (Out (fun z => z = bm ∨ z = fm) w) x → x ≠ bm := fun x hx e => hx.2 (.inl e)
 have d_hfr_hf : ∀ x, (Out (fun z => z = bm ∨ z = fm) w) x → x ≠ fm := fun x hx e => hx.2 (.inr e)
 have ne_hm_hf := hne
 obtain ⟨akv, kv, rfl, op, nm, ag, n64, ha, hk⟩ := tm_open ht
 have hlt := hk.lt
 refine cN (n := 78) Tryz.func22 rfl rfl rfl ?_
 refine q0 ?_
 refine lC (o_box rfl rfl rfl ?_)
 intro b3 w1 hb_b3 ew1 h3
 replace h3 : Box _ b3 31 [.int .u8 t.op, .string t.name, .string t.arg, .int .i64 t.n, .bool t.has, .int .u8 t.ann.op, .string t.ann.name, .int .i64 t.ann.n, akv, kv] := h3
 replace h3 := h3.at (nO Lw hb_b3)
 replace hT := hT.then (Stp.Y ew1 Lw hB)
 replace hfr := hfr.Y Lw hB ew1
 replace hm := hm.Y Lw hB ew1
 replace hf := hf.Y Lw hB ew1
 replace hn := hn.Y ew1
 replace ht := Rep.Y ht ew1
 replace ha := Rep.Y ha ew1
 replace hk := hk.Y ew1
 replace Lw := Lw.Y ew1
 replace hB := ew1.z hB
 refine q1 (q0 (lP 1 tK rfl ?_))
 refine lC (oD tK (h3.cell 0 _ rfl) rfl rfl rfl rfl rfl ?_)
 refine q1 (cB (q0 (lP 2 tK rfl (q1 ?_))))
 refine cP _ rfl (fun c1 => ?_) (fun c1 => ?_)
 ·refine cS ?_
  refine a_beg Ext rfl ?_
  intro w2 ew2
  replace hT := hT.then (Stp.Y ew2 Lw hB)
  replace hfr := hfr.Y Lw hB ew2
  replace hm := hm.Y Lw hB ew2
  replace hf := hf.Y Lw hB ew2
  replace hn := hn.Y ew2
  replace ht := Rep.Y ht ew2
  replace ha := Rep.Y ha ew2
  replace hk := hk.Y ew2
  replace h3 := h3.Y ew2
  replace Lw := Lw.Y ew2
  replace hB := ew2.z hB
  have hS : Ext w2 w2 := ext_refl _
  have D_hn := hn
  have D_hk := hk
  have D_h3 := h3
  refine a_p 0 tK rfl rfl rfl rfl (by kernel_rfl) i3 hS ?_
  refine a_p 1 tK rfl rfl rfl rfl (by kernel_rfl) i3 hS ?_
  refine a_p 2 tK rfl rfl rfl rfl (by kernel_rfl) i3 hS ?_
  refine a_ld 3 tK (fun _ hs => (D_hn.Y hs).cell 0 _ rfl) rfl rfl rfl rfl rfl rfl (by kernel_rfl) i3 hS ?_
  refine a_p 4 tK rfl rfl rfl rfl (by kernel_rfl) i3 hS ?_
  refine a_ld 5 tK (fun _ hs => (D_h3.Y hs).cell 1 _ rfl) rfl rfl rfl rfl rfl rfl (by kernel_rfl) i3 hS ?_
  refine a_bar 6 rfl (by kernel_rfl) (by kernel_rfl) (o_look (z := 0) tK hm.map (k := t.name) rfl rfl rfl rfl ⟨_, Tryz.underlying9, rfl⟩ rfl rfl rfl rfl ?_)
  refine a_p 7 tK rfl rfl rfl rfl (by kernel_rfl) i3 hS ?_
  refine a_end (by kernel_rfl) ?_
  refine xS ?_
  refine cP _ rfl (fun c2 => ?_) (fun c2 => ?_)
  ·refine a_beg Ext rfl ?_
   intro w3 ew3
   replace hT := hT.then (Stp.Y ew3 Lw hB)
   replace hfr := hfr.Y Lw hB ew3
   replace hm := hm.Y Lw hB ew3
   replace hf := hf.Y Lw hB ew3
   replace hn := hn.Y ew3
   replace ht := Rep.Y ht ew3
   replace ha := Rep.Y ha ew3
   replace hk := hk.Y ew3
   replace h3 := h3.Y ew3
   replace Lw := Lw.Y ew3
   replace hB := ew3.z hB
   have hS : Ext w3 w3 := ext_refl _
   have D_hn := hn
   have D_hk := hk
   have D_h3 := h3
   refine a_p 0 tK rfl rfl rfl rfl (by kernel_rfl) i3 hS ?_
   refine a_p 1 tK rfl rfl rfl rfl (by kernel_rfl) i3 hS ?_
   refine a_p 2 tK rfl rfl rfl rfl (by kernel_rfl) i3 hS ?_
   refine a_ld 3 tK (fun _ hs => (D_hn.Y hs).cell 1 _ rfl) rfl rfl rfl rfl rfl rfl (by kernel_rfl) i3 hS ?_
   refine a_p 4 tK rfl rfl rfl rfl (by kernel_rfl) i3 hS ?_
   refine a_ld 5 tK (fun _ hs => (D_h3.Y hs).cell 1 _ rfl) rfl rfl rfl rfl rfl rfl (by kernel_rfl) i3 hS ?_
   refine a_barS Ext 6 rfl (by kernel_rfl) (by kernel_rfl) (o_mupd tK hf.map (k := t.name) (v := true) rfl rfl rfl rfl rfl ⟨_, Tryz.underlying9, rfl⟩ rfl ?_)
   intro w4 hw4 qw4 bew4
   have uw4 : UpdB _ _ _ := ⟨qw4, bew4⟩
   have sw4 := uw4.sp hf.inM Lw hf.ge
   have frw4 := qw4.2
   replace hT := hT.then sw4
   replace hfr := hfr.sp sw4 (fun x hx => frw4 x (hfr.lt x hx).2 (d_hfr_hf x hx))
   replace hm := hm.sp sw4 (frw4 bm hm.lt ne_hm_hf)
   replace hn := hn.sp sw4
   replace ht := Rep.sp ht sw4
   replace ha := Rep.sp ha sw4
   replace hk := hk.sp sw4
   replace h3 := h3.sp sw4
   replace Lw := sw4.low
   replace hB := sw4.z hB
   replace hS : Ext w4 w4 := ext_refl _
   replace hf : OM _ _ _ w4 _ (putK x.2 t.name true) := ⟨hw4, hf.inM, hf.ge⟩
   have D_hn := hn
   have D_hk := hk
   have D_h3 := h3
   refine a_end (by kernel_rfl) ?_
   refine x_blk ?_
   refine x_ret0n rfl ?_
   have hz0 : bnd x.1 t.name = 0 := by assumption
   rw [down_var (by omega), if_pos hz0]
   exact ⟨rfl, hm, hf, hT, hfr⟩
  refine cK (x_blk ?_)
  refine x_ret0n rfl ?_
  have hz0 : ¬ bnd x.1 t.name = 0 := by assumption
  rw [down_var (by omega), if_neg hz0]
  exact ⟨rfl, hm, hf, hT, hfr⟩
 refine cS (q0 (lP 2 tK rfl (q1 ?_)))
 refine c_splitP 35 _ rfl (fun c3 => cI rfl ?_) (fun c3 => c_ifF rfl ?_)
 ·refine cK (xS (cI rfl ?_))
  refine a_beg Ext rfl ?_
  intro w5 ew5
  replace hT := hT.then (Stp.Y ew5 Lw hB)
  replace hfr := hfr.Y Lw hB ew5
  replace hm := hm.Y Lw hB ew5
  replace hf := hf.Y Lw hB ew5
  replace hn := hn.Y ew5
  replace ht := Rep.Y ht ew5
  replace ha := Rep.Y ha ew5
  replace hk := hk.Y ew5
  replace h3 := h3.Y ew5
  replace Lw := Lw.Y ew5
  replace hB := ew5.z hB
  have hS : Ext w5 w5 := ext_refl _
  have D_hn := hn
  have D_hk := hk
  have D_h3 := h3
  refine a_p 0 tK rfl rfl rfl rfl (by kernel_rfl) i3 hS ?_
  refine a_p 1 tK rfl rfl rfl rfl (by kernel_rfl) i3 hS ?_
  refine a_ld 2 tK (fun _ hs => (D_h3.Y hs).cell 9 _ rfl) rfl rfl rfl rfl rfl rfl (by kernel_rfl) i3 hS ?_
  have hl1 : (t.kids.length : Int) = 1 := by
   have h8 := shp_one (op := t.op) (by omega)
   rw [hrl h8.2, h8.1]
  have h0k : 0 < t.kids.length := by omega
  refine a_ixS 3 tK D_hk (gE h0k) rfl rfl rfl rfl rfl rfl rfl rfl rfl rfl (by kernel_rfl) i4 hS ?_
  intro ebx0 eox0 eux0 hyx0 hatx0
  obtain ⟨akvx0, kvx0, rfl, opx0, nmx0, agx0, n64x0, hax0, hkx0⟩ := tm_open hyx0
  replace hatx0 : At M w5 ebx0 eox0 [.int .u8 t.kids[0].op, .string t.kids[0].name, .string t.kids[0].arg, .int .i64 t.kids[0].n, .bool t.kids[0].has, .int .u8 t.kids[0].ann.op, .string t.kids[0].ann.name, .int .i64 t.kids[0].ann.n, akvx0, kvx0] := hatx0
  refine a_lds 4 tK (fun _ hs j v hv => (hatx0.Y hs).cell j v hv) rfl rfl rfl rfl rfl rfl rfl (by kernel_rfl) i3 hS ?_
  refine a_p 5 tK rfl rfl rfl rfl (by kernel_rfl) i3 hS ?_
  refine a_ld 6 tK (fun _ hs => (D_h3.Y hs).cell 2 _ rfl) rfl rfl rfl rfl rfl rfl (by kernel_rfl) i3 hS ?_
  refine a_one 7 rfl (by kernel_rfl) (o_bs tK rfl rfl rfl rfl rfl rfl rfl (sz1 rfl) rfl rfl rfl ?_)
  intro bw6 w6 qbw6 ew6 hbw6
  have nbw6 := nO Lw qbw6
  replace hS := hS.then ew6
  replace hT := hT.then (Stp.Y ew6 Lw hB)
  replace hfr := hfr.Y Lw hB ew6
  replace hm := hm.Y Lw hB ew6
  replace hf := hf.Y Lw hB ew6
  replace hn := hn.Y ew6
  replace ht := Rep.Y ht ew6
  replace ha := Rep.Y ha ew6
  replace hk := hk.Y ew6
  replace h3 := h3.Y ew6
  replace hyx0 := Rep.Y hyx0 ew6
  replace hax0 := Rep.Y hax0 ew6
  replace hkx0 := hkx0.Y ew6
  replace hatx0 := hatx0.Y ew6
  replace Lw := Lw.Y ew6
  replace hB := ew6.z hB
  refine ⟨hS, ?_⟩
  have hs : Sl M w6 (.slice (some ⟨bw6, 0, none⟩) 1 1) [t.arg] := lit_sl hbw6 nbw6 (show Rs _ _ [_] [t.arg] from ⟨⟨rfl, ag⟩, trivial⟩) (by simp)
  obtain ⟨bk, hbk⟩ := hrk _ (gM h0k)
  have hz9 := hkz _ (gM h0k)
  refine a_barS Ext 8 rfl (by kernel_rfl) (by kernel_rfl) (oK fo33 rfl rfl rfl (within_of t.kids[0] (ih _ (gM h0k)) [t.arg] K x M _ B _ _ np bm fm bk hbk hyx0 hs hn hm hf hne Lw hB hbx (by simp) (by omega)) ?_)
  rintro _ w7 ⟨rfl, hmw7, hfw7, sw7, kw7⟩
  have frw7 : ∀ x, x < w6.heap.size → ¬ (x = bm ∨ x = fm) → w7.heap[x]? = w6.heap[x]? := fun x hx hn => kw7.blk x ⟨hx, hn⟩
  replace hT := hT.then sw7
  replace hfr := hfr.sp sw7 (fun x hx => frw7 x (hfr.lt x hx).2 hx.2)
  replace hn := hn.sp sw7
  replace ht := Rep.sp ht sw7
  replace ha := Rep.sp ha sw7
  replace hk := hk.sp sw7
  replace h3 := h3.sp sw7
  replace hyx0 := Rep.sp hyx0 sw7
  replace hax0 := Rep.sp hax0 sw7
  replace hkx0 := hkx0.sp sw7
  replace hatx0 := hatx0.sp sw7
  replace hs := hs.sp sw7
  replace Lw := sw7.low
  replace hB := sw7.z hB
  replace hS : Ext w7 w7 := ext_refl _
  replace hm := hmw7
  replace hf := hfw7
  clear hmw7 hfw7
  have D_hn := hn
  have D_hk := hk
  have D_h3 := h3
  have D_hkx0 := hkx0
  have D_hatx0 := hatx0
  have D_hs := hs
  refine a_end (by kernel_rfl) ?_
  refine x_blk ?_
  refine x_ret0n rfl ?_
  rw [down_one (by omega) h0k]
  exact ⟨rfl, hm, hf, hT, hfr⟩
 refine q0 (lP 2 tK rfl (q1 ?_))
 refine c_splitP 35 _ rfl (fun c4 => cI rfl ?_) (fun c4 => c_ifF rfl ?_)
 ·refine cK (xS (cI rfl ?_))
  refine a_beg Ext rfl ?_
  intro w8 ew8
  replace hT := hT.then (Stp.Y ew8 Lw hB)
  replace hfr := hfr.Y Lw hB ew8
  replace hm := hm.Y Lw hB ew8
  replace hf := hf.Y Lw hB ew8
  replace hn := hn.Y ew8
  replace ht := Rep.Y ht ew8
  replace ha := Rep.Y ha ew8
  replace hk := hk.Y ew8
  replace h3 := h3.Y ew8
  replace Lw := Lw.Y ew8
  replace hB := ew8.z hB
  have hS : Ext w8 w8 := ext_refl _
  have D_hn := hn
  have D_hk := hk
  have D_h3 := h3
  refine a_p 0 tK rfl rfl rfl rfl (by kernel_rfl) i3 hS ?_
  refine a_p 1 tK rfl rfl rfl rfl (by kernel_rfl) i3 hS ?_
  refine a_ld 2 tK (fun _ hs => (D_h3.Y hs).cell 9 _ rfl) rfl rfl rfl rfl rfl rfl (by kernel_rfl) i3 hS ?_
  have hl1 : (t.kids.length : Int) = 1 := by
   have h8 := shp_one (op := t.op) (by omega)
   rw [hrl h8.2, h8.1]
  have h0k : 0 < t.kids.length := by omega
  refine a_ixS 3 tK D_hk (gE h0k) rfl rfl rfl rfl rfl rfl rfl rfl rfl rfl (by kernel_rfl) i4 hS ?_
  intro ebx0 eox0 eux0 hyx0 hatx0
  obtain ⟨akvx0, kvx0, rfl, opx0, nmx0, agx0, n64x0, hax0, hkx0⟩ := tm_open hyx0
  replace hatx0 : At M w8 ebx0 eox0 [.int .u8 t.kids[0].op, .string t.kids[0].name, .string t.kids[0].arg, .int .i64 t.kids[0].n, .bool t.kids[0].has, .int .u8 t.kids[0].ann.op, .string t.kids[0].ann.name, .int .i64 t.kids[0].ann.n, akvx0, kvx0] := hatx0
  refine a_lds 4 tK (fun _ hs j v hv => (hatx0.Y hs).cell j v hv) rfl rfl rfl rfl rfl rfl rfl (by kernel_rfl) i3 hS ?_
  refine a_p 5 tK rfl rfl rfl rfl (by kernel_rfl) i3 hS ?_
  refine a_ld 6 tK (fun _ hs => (D_h3.Y hs).cell 2 _ rfl) rfl rfl rfl rfl rfl rfl (by kernel_rfl) i3 hS ?_
  refine a_one 7 rfl (by kernel_rfl) (o_bs tK rfl rfl rfl rfl rfl rfl rfl (sz1 rfl) rfl rfl rfl ?_)
  intro bw9 w9 qbw9 ew9 hbw9
  have nbw9 := nO Lw qbw9
  replace hS := hS.then ew9
  replace hT := hT.then (Stp.Y ew9 Lw hB)
  replace hfr := hfr.Y Lw hB ew9
  replace hm := hm.Y Lw hB ew9
  replace hf := hf.Y Lw hB ew9
  replace hn := hn.Y ew9
  replace ht := Rep.Y ht ew9
  replace ha := Rep.Y ha ew9
  replace hk := hk.Y ew9
  replace h3 := h3.Y ew9
  replace hyx0 := Rep.Y hyx0 ew9
  replace hax0 := Rep.Y hax0 ew9
  replace hkx0 := hkx0.Y ew9
  replace hatx0 := hatx0.Y ew9
  replace Lw := Lw.Y ew9
  replace hB := ew9.z hB
  refine ⟨hS, ?_⟩
  have hs : Sl M w9 (.slice (some ⟨bw9, 0, none⟩) 1 1) [t.arg] := lit_sl hbw9 nbw9 (show Rs _ _ [_] [t.arg] from ⟨⟨rfl, ag⟩, trivial⟩) (by simp)
  obtain ⟨bk, hbk⟩ := hrk _ (gM h0k)
  have hz9 := hkz _ (gM h0k)
  refine a_barS Ext 8 rfl (by kernel_rfl) (by kernel_rfl) (oK fo33 rfl rfl rfl (within_of t.kids[0] (ih _ (gM h0k)) [t.arg] K x M _ B _ _ np bm fm bk hbk hyx0 hs hn hm hf hne Lw hB hbx (by simp) (by omega)) ?_)
  rintro _ w10 ⟨rfl, hmw10, hfw10, sw10, kw10⟩
  have frw10 : ∀ x, x < w9.heap.size → ¬ (x = bm ∨ x = fm) → w10.heap[x]? = w9.heap[x]? := fun x hx hn => kw10.blk x ⟨hx, hn⟩
  replace hT := hT.then sw10
  replace hfr := hfr.sp sw10 (fun x hx => frw10 x (hfr.lt x hx).2 hx.2)
  replace hn := hn.sp sw10
  replace ht := Rep.sp ht sw10
  replace ha := Rep.sp ha sw10
  replace hk := hk.sp sw10
  replace h3 := h3.sp sw10
  replace hyx0 := Rep.sp hyx0 sw10
  replace hax0 := Rep.sp hax0 sw10
  replace hkx0 := hkx0.sp sw10
  replace hatx0 := hatx0.sp sw10
  replace hs := hs.sp sw10
  replace Lw := sw10.low
  replace hB := sw10.z hB
  replace hS : Ext w10 w10 := ext_refl _
  replace hm := hmw10
  replace hf := hfw10
  clear hmw10 hfw10
  have D_hn := hn
  have D_hk := hk
  have D_h3 := h3
  have D_hkx0 := hkx0
  have D_hatx0 := hatx0
  have D_hs := hs
  refine a_end (by kernel_rfl) ?_
  refine x_blk ?_
  refine x_ret0n rfl ?_
  rw [down_one (by omega) h0k]
  exact ⟨rfl, hm, hf, hT, hfr⟩
 refine cG (lP 2 tK rfl (q1 ?_))
 refine c_splitP 35 _ rfl (fun c5 => cI rfl ?_) (fun c5 => c_ifF rfl ?_)
 ·refine a_beg Ext rfl ?_
  intro w11 ew11
  replace hT := hT.then (Stp.Y ew11 Lw hB)
  replace hfr := hfr.Y Lw hB ew11
  replace hm := hm.Y Lw hB ew11
  replace hf := hf.Y Lw hB ew11
  replace hn := hn.Y ew11
  replace ht := Rep.Y ht ew11
  replace ha := Rep.Y ha ew11
  replace hk := hk.Y ew11
  replace h3 := h3.Y ew11
  replace Lw := Lw.Y ew11
  replace hB := ew11.z hB
  have hS : Ext w11 w11 := ext_refl _
  have D_hn := hn
  have D_hk := hk
  have D_h3 := h3
  refine a_p 0 tK rfl rfl rfl rfl (by kernel_rfl) i3 hS ?_
  refine a_p 1 tK rfl rfl rfl rfl (by kernel_rfl) i3 hS ?_
  refine a_ld 2 tK (fun _ hs => (D_h3.Y hs).cell 9 _ rfl) rfl rfl rfl rfl rfl rfl (by kernel_rfl) i3 hS ?_
  have hl1 : (t.kids.length : Int) = 1 := by
   have h8 := shp_one (op := t.op) (by omega)
   rw [hrl h8.2, h8.1]
  have h0k : 0 < t.kids.length := by omega
  refine a_ixS 3 tK D_hk (gE h0k) rfl rfl rfl rfl rfl rfl rfl rfl rfl rfl (by kernel_rfl) i4 hS ?_
  intro ebx0 eox0 eux0 hyx0 hatx0
  obtain ⟨akvx0, kvx0, rfl, opx0, nmx0, agx0, n64x0, hax0, hkx0⟩ := tm_open hyx0
  replace hatx0 : At M w11 ebx0 eox0 [.int .u8 t.kids[0].op, .string t.kids[0].name, .string t.kids[0].arg, .int .i64 t.kids[0].n, .bool t.kids[0].has, .int .u8 t.kids[0].ann.op, .string t.kids[0].ann.name, .int .i64 t.kids[0].ann.n, akvx0, kvx0] := hatx0
  refine a_lds 4 tK (fun _ hs j v hv => (hatx0.Y hs).cell j v hv) rfl rfl rfl rfl rfl rfl rfl (by kernel_rfl) i3 hS ?_
  refine a_p 5 tK rfl rfl rfl rfl (by kernel_rfl) i3 hS ?_
  refine a_ld 6 tK (fun _ hs => (D_h3.Y hs).cell 2 _ rfl) rfl rfl rfl rfl rfl rfl (by kernel_rfl) i3 hS ?_
  refine a_one 7 rfl (by kernel_rfl) (o_bs tK rfl rfl rfl rfl rfl rfl rfl (sz1 rfl) rfl rfl rfl ?_)
  intro bw12 w12 qbw12 ew12 hbw12
  have nbw12 := nO Lw qbw12
  replace hS := hS.then ew12
  replace hT := hT.then (Stp.Y ew12 Lw hB)
  replace hfr := hfr.Y Lw hB ew12
  replace hm := hm.Y Lw hB ew12
  replace hf := hf.Y Lw hB ew12
  replace hn := hn.Y ew12
  replace ht := Rep.Y ht ew12
  replace ha := Rep.Y ha ew12
  replace hk := hk.Y ew12
  replace h3 := h3.Y ew12
  replace hyx0 := Rep.Y hyx0 ew12
  replace hax0 := Rep.Y hax0 ew12
  replace hkx0 := hkx0.Y ew12
  replace hatx0 := hatx0.Y ew12
  replace Lw := Lw.Y ew12
  replace hB := ew12.z hB
  refine ⟨hS, ?_⟩
  have hs : Sl M w12 (.slice (some ⟨bw12, 0, none⟩) 1 1) [t.arg] := lit_sl hbw12 nbw12 (show Rs _ _ [_] [t.arg] from ⟨⟨rfl, ag⟩, trivial⟩) (by simp)
  obtain ⟨bk, hbk⟩ := hrk _ (gM h0k)
  have hz9 := hkz _ (gM h0k)
  refine a_barS Ext 8 rfl (by kernel_rfl) (by kernel_rfl) (oK fo33 rfl rfl rfl (within_of t.kids[0] (ih _ (gM h0k)) [t.arg] K x M _ B _ _ np bm fm bk hbk hyx0 hs hn hm hf hne Lw hB hbx (by simp) (by omega)) ?_)
  rintro _ w13 ⟨rfl, hmw13, hfw13, sw13, kw13⟩
  have frw13 : ∀ x, x < w12.heap.size → ¬ (x = bm ∨ x = fm) → w13.heap[x]? = w12.heap[x]? := fun x hx hn => kw13.blk x ⟨hx, hn⟩
  replace hT := hT.then sw13
  replace hfr := hfr.sp sw13 (fun x hx => frw13 x (hfr.lt x hx).2 hx.2)
  replace hn := hn.sp sw13
  replace ht := Rep.sp ht sw13
  replace ha := Rep.sp ha sw13
  replace hk := hk.sp sw13
  replace h3 := h3.sp sw13
  replace hyx0 := Rep.sp hyx0 sw13
  replace hax0 := Rep.sp hax0 sw13
  replace hkx0 := hkx0.sp sw13
  replace hatx0 := hatx0.sp sw13
  replace hs := hs.sp sw13
  replace Lw := sw13.low
  replace hB := sw13.z hB
  replace hS : Ext w13 w13 := ext_refl _
  replace hm := hmw13
  replace hf := hfw13
  clear hmw13 hfw13
  have D_hn := hn
  have D_hk := hk
  have D_h3 := h3
  have D_hkx0 := hkx0
  have D_hatx0 := hatx0
  have D_hs := hs
  refine a_end (by kernel_rfl) ?_
  refine x_blk ?_
  refine x_ret0n rfl ?_
  rw [down_one (by omega) h0k]
  exact ⟨rfl, hm, hf, hT, hfr⟩
 refine q0 (lP 2 tK rfl (q1 ?_))
 refine cP _ rfl (fun c6 => ?_) (fun c6 => ?_)
 ·refine a_beg Ext rfl ?_
  intro w14 ew14
  replace hT := hT.then (Stp.Y ew14 Lw hB)
  replace hfr := hfr.Y Lw hB ew14
  replace hm := hm.Y Lw hB ew14
  replace hf := hf.Y Lw hB ew14
  replace hn := hn.Y ew14
  replace ht := Rep.Y ht ew14
  replace ha := Rep.Y ha ew14
  replace hk := hk.Y ew14
  replace h3 := h3.Y ew14
  replace Lw := Lw.Y ew14
  replace hB := ew14.z hB
  have hS : Ext w14 w14 := ext_refl _
  have D_hn := hn
  have D_hk := hk
  have D_h3 := h3
  refine a_p 0 tK rfl rfl rfl rfl (by kernel_rfl) i3 hS ?_
  refine a_p 1 tK rfl rfl rfl rfl (by kernel_rfl) i3 hS ?_
  refine a_ld 2 tK (fun _ hs => (D_h3.Y hs).cell 9 _ rfl) rfl rfl rfl rfl rfl rfl (by kernel_rfl) i3 hS ?_
  have hl1 : (t.kids.length : Int) = 1 := by
   have h8 := shp_one (op := t.op) (by omega)
   rw [hrl h8.2, h8.1]
  have h0k : 0 < t.kids.length := by omega
  refine a_ixS 3 tK D_hk (gE h0k) rfl rfl rfl rfl rfl rfl rfl rfl rfl rfl (by kernel_rfl) i4 hS ?_
  intro ebx0 eox0 eux0 hyx0 hatx0
  obtain ⟨akvx0, kvx0, rfl, opx0, nmx0, agx0, n64x0, hax0, hkx0⟩ := tm_open hyx0
  replace hatx0 : At M w14 ebx0 eox0 [.int .u8 t.kids[0].op, .string t.kids[0].name, .string t.kids[0].arg, .int .i64 t.kids[0].n, .bool t.kids[0].has, .int .u8 t.kids[0].ann.op, .string t.kids[0].ann.name, .int .i64 t.kids[0].ann.n, akvx0, kvx0] := hatx0
  refine a_lds 4 tK (fun _ hs j v hv => (hatx0.Y hs).cell j v hv) rfl rfl rfl rfl rfl rfl rfl (by kernel_rfl) i3 hS ?_
  refine a_p 5 tK rfl rfl rfl rfl (by kernel_rfl) i3 hS ?_
  refine a_ld 6 tK (fun _ hs => (D_h3.Y hs).cell 1 _ rfl) rfl rfl rfl rfl rfl rfl (by kernel_rfl) i3 hS ?_
  refine a_p 7 tK rfl rfl rfl rfl (by kernel_rfl) i3 hS ?_
  refine a_ld 8 tK (fun _ hs => (D_h3.Y hs).cell 2 _ rfl) rfl rfl rfl rfl rfl rfl (by kernel_rfl) i3 hS ?_
  refine a_one 9 rfl (by kernel_rfl) (o_bs tK rfl rfl rfl rfl rfl rfl rfl (by intro v hv; simp at hv; rcases hv with rfl | rfl <;> rfl) rfl rfl rfl ?_)
  intro bw15 w15 qbw15 ew15 hbw15
  have nbw15 := nO Lw qbw15
  replace hS := hS.then ew15
  replace hT := hT.then (Stp.Y ew15 Lw hB)
  replace hfr := hfr.Y Lw hB ew15
  replace hm := hm.Y Lw hB ew15
  replace hf := hf.Y Lw hB ew15
  replace hn := hn.Y ew15
  replace ht := Rep.Y ht ew15
  replace ha := Rep.Y ha ew15
  replace hk := hk.Y ew15
  replace h3 := h3.Y ew15
  replace hyx0 := Rep.Y hyx0 ew15
  replace hax0 := Rep.Y hax0 ew15
  replace hkx0 := hkx0.Y ew15
  replace hatx0 := hatx0.Y ew15
  replace Lw := Lw.Y ew15
  replace hB := ew15.z hB
  refine ⟨hS, ?_⟩
  have hs : Sl M w15 (.slice (some ⟨bw15, 0, none⟩) 2 2) [t.name, t.arg] := lit_sl hbw15 nbw15 (show Rs _ _ [_, _] [t.name, t.arg] from ⟨⟨rfl, nm⟩, ⟨rfl, ag⟩, trivial⟩) (by simp)
  obtain ⟨bk, hbk⟩ := hrk _ (gM h0k)
  have hz9 := hkz _ (gM h0k)
  refine a_barS Ext 10 rfl (by kernel_rfl) (by kernel_rfl) (oK fo33 rfl rfl rfl (within_of t.kids[0] (ih _ (gM h0k)) [t.name, t.arg] K x M _ B _ _ np bm fm bk hbk hyx0 hs hn hm hf hne Lw hB hbx (by simp) (by omega)) ?_)
  rintro _ w16 ⟨rfl, hmw16, hfw16, sw16, kw16⟩
  have frw16 : ∀ x, x < w15.heap.size → ¬ (x = bm ∨ x = fm) → w16.heap[x]? = w15.heap[x]? := fun x hx hn => kw16.blk x ⟨hx, hn⟩
  replace hT := hT.then sw16
  replace hfr := hfr.sp sw16 (fun x hx => frw16 x (hfr.lt x hx).2 hx.2)
  replace hn := hn.sp sw16
  replace ht := Rep.sp ht sw16
  replace ha := Rep.sp ha sw16
  replace hk := hk.sp sw16
  replace h3 := h3.sp sw16
  replace hyx0 := Rep.sp hyx0 sw16
  replace hax0 := Rep.sp hax0 sw16
  replace hkx0 := hkx0.sp sw16
  replace hatx0 := hatx0.sp sw16
  replace hs := hs.sp sw16
  replace Lw := sw16.low
  replace hB := sw16.z hB
  replace hS : Ext w16 w16 := ext_refl _
  replace hm := hmw16
  replace hf := hfw16
  clear hmw16 hfw16
  have D_hn := hn
  have D_hk := hk
  have D_h3 := h3
  have D_hkx0 := hkx0
  have D_hatx0 := hatx0
  have D_hs := hs
  refine a_end (by kernel_rfl) ?_
  refine x_blk ?_
  refine x_ret0n rfl ?_
  rw [down_rec (by omega) h0k]
  exact ⟨rfl, hm, hf, hT, hfr⟩
 refine q0 (lP 2 tK rfl (q1 ?_))
 refine cP _ rfl (fun c7 => ?_) (fun c7 => ?_)
 ·refine q0 (lP 2 tK rfl ?_)
  refine lC (oD tK (h3.cell 9 _ rfl) rfl rfl rfl rfl rfl ?_)
  have hl1 : (t.kids.length : Int) = 2 := by
   have h8 := shp_two (op := t.op) (by omega)
   rw [hrl h8.2, h8.1]
  have h0k : 0 < t.kids.length := by omega
  refine lC (o_ixS tK hk (gE h0k) rfl rfl rfl rfl rfl rfl rfl rfl rfl ?_)
  intro ebx0 eox0 eux0 hyx0 hatx0
  obtain ⟨akvx0, kvx0, rfl, opx0, nmx0, agx0, n64x0, hax0, hkx0⟩ := tm_open hyx0
  replace hatx0 : At M w1 ebx0 eox0 [.int .u8 t.kids[0].op, .string t.kids[0].name, .string t.kids[0].arg, .int .i64 t.kids[0].n, .bool t.kids[0].has, .int .u8 t.kids[0].ann.op, .string t.kids[0].ann.name, .int .i64 t.kids[0].ann.n, akvx0, kvx0] := hatx0
  refine lC (oL tK (fun j v hv => hatx0.cell j v hv) rfl rfl rfl rfl rfl rfl ?_)
  obtain ⟨bk0, hbk0⟩ := hrk _ (gM h0k)
  have hz8 := hkz _ (gM h0k)
  refine lC (oK fo22 rfl rfl rfl (ih _ (gM h0k) K x M _ B _ np bm fm bk0 hbk0 hyx0 hn hm hf hne Lw hB hbx (by omega)) ?_)
  rintro _ w17 ⟨rfl, hmw17, hfw17, sw17, kw17⟩
  have frw17 : ∀ x, x < w1.heap.size → ¬ (x = bm ∨ x = fm) → w17.heap[x]? = w1.heap[x]? := fun x hx hn => kw17.blk x ⟨hx, hn⟩
  replace hT := hT.then sw17
  replace hfr := hfr.sp sw17 (fun x hx => frw17 x (hfr.lt x hx).2 hx.2)
  replace hn := hn.sp sw17
  replace ht := Rep.sp ht sw17
  replace ha := Rep.sp ha sw17
  replace hk := hk.sp sw17
  replace h3 := h3.sp sw17
  replace hyx0 := Rep.sp hyx0 sw17
  replace hax0 := Rep.sp hax0 sw17
  replace hkx0 := hkx0.sp sw17
  replace hatx0 := hatx0.sp sw17
  replace Lw := sw17.low
  replace hB := sw17.z hB
  replace hm := hmw17
  replace hf := hfw17
  clear hmw17 hfw17
  refine q1 ?_
  refine a_beg Ext rfl ?_
  intro w18 ew18
  replace hT := hT.then (Stp.Y ew18 Lw hB)
  replace hfr := hfr.Y Lw hB ew18
  replace hm := hm.Y Lw hB ew18
  replace hf := hf.Y Lw hB ew18
  replace hn := hn.Y ew18
  replace ht := Rep.Y ht ew18
  replace ha := Rep.Y ha ew18
  replace hk := hk.Y ew18
  replace h3 := h3.Y ew18
  replace hyx0 := Rep.Y hyx0 ew18
  replace hax0 := Rep.Y hax0 ew18
  replace hkx0 := hkx0.Y ew18
  replace hatx0 := hatx0.Y ew18
  replace Lw := Lw.Y ew18
  replace hB := ew18.z hB
  have hS : Ext w18 w18 := ext_refl _
  have D_hn := hn
  have D_hk := hk
  have D_h3 := h3
  have D_hkx0 := hkx0
  have D_hatx0 := hatx0
  refine a_p 0 tK rfl rfl rfl rfl (by kernel_rfl) i3 hS ?_
  refine a_p 1 tK rfl rfl rfl rfl (by kernel_rfl) i3 hS ?_
  refine a_ld 2 tK (fun _ hs => (D_h3.Y hs).cell 9 _ rfl) rfl rfl rfl rfl rfl rfl (by kernel_rfl) i3 hS ?_
  have h1k : 1 < t.kids.length := by omega
  refine a_ixS 3 tK D_hk (gE h1k) rfl rfl rfl rfl rfl rfl rfl rfl rfl rfl (by kernel_rfl) i4 hS ?_
  intro ebx1 eox1 eux1 hyx1 hatx1
  obtain ⟨akvx1, kvx1, rfl, opx1, nmx1, agx1, n64x1, hax1, hkx1⟩ := tm_open hyx1
  replace hatx1 : At M w18 ebx1 eox1 [.int .u8 t.kids[1].op, .string t.kids[1].name, .string t.kids[1].arg, .int .i64 t.kids[1].n, .bool t.kids[1].has, .int .u8 t.kids[1].ann.op, .string t.kids[1].ann.name, .int .i64 t.kids[1].ann.n, akvx1, kvx1] := hatx1
  refine a_lds 4 tK (fun _ hs j v hv => (hatx1.Y hs).cell j v hv) rfl rfl rfl rfl rfl rfl rfl (by kernel_rfl) i3 hS ?_
  refine a_p 5 tK rfl rfl rfl rfl (by kernel_rfl) i3 hS ?_
  refine a_ld 6 tK (fun _ hs => (D_h3.Y hs).cell 1 _ rfl) rfl rfl rfl rfl rfl rfl (by kernel_rfl) i3 hS ?_
  refine a_one 7 rfl (by kernel_rfl) (o_bs tK rfl rfl rfl rfl rfl rfl rfl (sz1 rfl) rfl rfl rfl ?_)
  intro bw19 w19 qbw19 ew19 hbw19
  have nbw19 := nO Lw qbw19
  replace hS := hS.then ew19
  replace hT := hT.then (Stp.Y ew19 Lw hB)
  replace hfr := hfr.Y Lw hB ew19
  replace hm := hm.Y Lw hB ew19
  replace hf := hf.Y Lw hB ew19
  replace hn := hn.Y ew19
  replace ht := Rep.Y ht ew19
  replace ha := Rep.Y ha ew19
  replace hk := hk.Y ew19
  replace h3 := h3.Y ew19
  replace hyx0 := Rep.Y hyx0 ew19
  replace hax0 := Rep.Y hax0 ew19
  replace hkx0 := hkx0.Y ew19
  replace hatx0 := hatx0.Y ew19
  replace hyx1 := Rep.Y hyx1 ew19
  replace hax1 := Rep.Y hax1 ew19
  replace hkx1 := hkx1.Y ew19
  replace hatx1 := hatx1.Y ew19
  replace Lw := Lw.Y ew19
  replace hB := ew19.z hB
  refine ⟨hS, ?_⟩
  have hs : Sl M w19 (.slice (some ⟨bw19, 0, none⟩) 1 1) [t.name] := lit_sl hbw19 nbw19 (show Rs _ _ [_] [t.name] from ⟨⟨rfl, nm⟩, trivial⟩) (by simp)
  obtain ⟨bk, hbk⟩ := hrk _ (gM h1k)
  have hz9 := hkz _ (gM h1k)
  refine a_barS Ext 8 rfl (by kernel_rfl) (by kernel_rfl) (oK fo33 rfl rfl rfl (within_of t.kids[1] (ih _ (gM h1k)) [t.name] K (downF t.kids[0] x) M _ B _ _ np bm fm bk hbk hyx1 hs hn hm hf hne Lw hB (fun s => by rw [down_same]; exact hbx s) (by simp) (by omega)) ?_)
  rintro _ w20 ⟨rfl, hmw20, hfw20, sw20, kw20⟩
  have frw20 : ∀ x, x < w19.heap.size → ¬ (x = bm ∨ x = fm) → w20.heap[x]? = w19.heap[x]? := fun x hx hn => kw20.blk x ⟨hx, hn⟩
  replace hT := hT.then sw20
  replace hfr := hfr.sp sw20 (fun x hx => frw20 x (hfr.lt x hx).2 hx.2)
  replace hn := hn.sp sw20
  replace ht := Rep.sp ht sw20
  replace ha := Rep.sp ha sw20
  replace hk := hk.sp sw20
  replace h3 := h3.sp sw20
  replace hyx0 := Rep.sp hyx0 sw20
  replace hax0 := Rep.sp hax0 sw20
  replace hkx0 := hkx0.sp sw20
  replace hatx0 := hatx0.sp sw20
  replace hyx1 := Rep.sp hyx1 sw20
  replace hax1 := Rep.sp hax1 sw20
  replace hkx1 := hkx1.sp sw20
  replace hatx1 := hatx1.sp sw20
  replace hs := hs.sp sw20
  replace Lw := sw20.low
  replace hB := sw20.z hB
  replace hS : Ext w20 w20 := ext_refl _
  replace hm := hmw20
  replace hf := hfw20
  clear hmw20 hfw20
  have D_hn := hn
  have D_hk := hk
  have D_h3 := h3
  have D_hkx0 := hkx0
  have D_hatx0 := hatx0
  have D_hkx1 := hkx1
  have D_hatx1 := hatx1
  have D_hs := hs
  refine a_end (by kernel_rfl) ?_
  refine x_blk ?_
  refine x_ret0n rfl ?_
  rw [down_let (by omega) h1k]
  exact ⟨rfl, hm, hf, hT, hfr⟩
 refine q0 (lP 1 tK rfl ?_)
 refine lC (oD tK (h3.cell 9 _ rfl) rfl rfl rfl rfl rfl ?_)
 refine lC (o_len tK hk rfl rfl rfl rfl rfl ?_)
 refine lP 1 tK rfl (q1 (cB ?_))
 refine c_loop (X := Nat) (fun i => [(0, .pointer (some ⟨np, 0, none⟩)), (9, kv), (10, .int .i64 (t.kids.length : Int)), (11, .int .i64 (i : Nat))]) (fun i w' => i ≤ t.kids.length ∧ OM (κ := ByteArray) (fun x : Int => Value.int .i64 x) B M w' bm ((foldD (t.kids.take i) x).1) ∧ OM (κ := ByteArray) (fun x : Bool => Value.bool x) B M w' fm ((foldD (t.kids.take i) x).2) ∧ At M w' np 0 [.map (some bm), .map (some fm)] ∧ Stp B M M w w' ∧ Kept w w' (Out (fun z => z = bm ∨ z = fm) w) ∧ Low M w' ∧ B ≤ w'.heap.size ∧ Sl M w' kv t.kids) (fun i => t.kids.length - i) (0) (s4 rfl rfl rfl rfl) ?_ ?_
 ·exact ⟨Nat.zero_le _, hm, hf, hn, hT, hfr, Lw, hB, hk⟩
 clear hm hf hn hT hfr Lw hB hk ht ha h3
 rintro i w21 ⟨hi, hm, hf, hn, hT, hfr, Lw, hB, hk⟩
 refine q0 (lP 1 tK rfl (q1 (cS ?_)))
 refine cP _ rfl (fun c8 => ?_) (fun c8 => ?_)
 ·refine cK (xS (cS (cB (q0 ?_))))
  have hik : i < t.kids.length := by omega
  refine lC (o_ixS tK hk (gE hik) rfl rfl rfl rfl rfl rfl rfl rfl rfl ?_)
  intro ebx eox eux hyx hX
  obtain ⟨akvx, kvx, rfl, opx, nmx, agx, n64x, hax, hkx⟩ := tm_open hyx
  replace hX : At M w21 ebx eox [.int .u8 t.kids[i].op, .string t.kids[i].name, .string t.kids[i].arg, .int .i64 t.kids[i].n, .bool t.kids[i].has, .int .u8 t.kids[i].ann.op, .string t.kids[i].ann.name, .int .i64 t.kids[i].ann.n, akvx, kvx] := hX
  refine lC (oL tK (fun j v hv => hX.cell j v hv) rfl rfl rfl rfl rfl rfl ?_)
  refine lC (o_new tK rfl rfl rfl ?_)
  intro b5 w22 qb5 ew22 hb5
  have nb5 := nO Lw qb5
  refine lC (o_st tK hb5 rfl rfl rfl rfl (Rep.one hyx) rfl rfl ?_)
  intro w23 h5 uw23 bew23
  have ew23 : Ext w21 w23 := ew22.trans (bew23 _ (lQ qb5.symm))
  replace hT := hT.then (Stp.Y ew23 Lw hB)
  replace hfr := hfr.Y Lw hB ew23
  replace hm := hm.Y Lw hB ew23
  replace hf := hf.Y Lw hB ew23
  replace hn := hn.Y ew23
  replace hk := hk.Y ew23
  replace hyx := Rep.Y hyx ew23
  replace hax := Rep.Y hax ew23
  replace hkx := hkx.Y ew23
  replace hX := hX.Y ew23
  replace Lw := Lw.Y ew23
  replace hB := ew23.z hB
  replace h5 : Box w23 b5 31 [.int .u8 t.kids[i].op, .string t.kids[i].name, .string t.kids[i].arg, .int .i64 t.kids[i].n, .bool t.kids[i].has, .int .u8 t.kids[i].ann.op, .string t.kids[i].ann.name, .int .i64 t.kids[i].ann.n, akvx, kvx] := h5
  replace h5 := h5.at nb5
  refine q1 (cG (lP 1 tK rfl ?_))
  refine lC (oL tK (fun j v hv => h5.cell j v hv) rfl rfl rfl rfl rfl rfl ?_)
  obtain ⟨bk, hbk⟩ := hrk _ (gM hik)
  have hz9 := hkz _ (gM hik)
  refine lC (oK fo22 rfl rfl rfl (ih _ (gM hik) K (foldD (t.kids.take i) x) M _ B _ np bm fm bk hbk hyx hn hm hf hne Lw hB (fun s => by rw [foldD_same]; exact hbx s) (by omega)) ?_)
  rintro _ w24 ⟨rfl, hmw24, hfw24, sw24, kw24⟩
  have frw24 : ∀ x, x < w23.heap.size → ¬ (x = bm ∨ x = fm) → w24.heap[x]? = w23.heap[x]? := fun x hx hn => kw24.blk x ⟨hx, hn⟩
  replace hT := hT.then sw24
  replace hfr := hfr.sp sw24 (fun x hx => frw24 x (hfr.lt x hx).2 hx.2)
  replace hn := hn.sp sw24
  replace hk := hk.sp sw24
  replace hyx := Rep.sp hyx sw24
  replace hax := Rep.sp hax sw24
  replace hkx := hkx.sp sw24
  replace hX := hX.sp sw24
  replace h5 := h5.sp sw24
  replace Lw := sw24.low
  replace hB := sw24.z hB
  replace hm := hmw24
  replace hf := hfw24
  clear hmw24 hfw24
  refine q2 (xS (cG ?_))
  refine lC (o_ai rfl rfl rfl (by omega) rfl rfl ?_)
  refine lP 1 tK rfl (lN ?_)
  exact x_round (i + 1) (s4 rfl rfl rfl (gN rfl (by omega))) ⟨by omega, by rw [foldD_step hik]; exact hm, by rw [foldD_step hik]; exact hf, hn, hT, hfr, Lw, hB, hk⟩ (by omega)
 refine c_exit (xE (xE (x_blkE (x_blk ?_))))
 refine x_ret0n rfl ?_
 obtain rfl : i = t.kids.length := by omega
 rw [List.take_of_length_le (lR _)] at hm hf
 rw [down_else (by omega)]
 exact ⟨rfl, hm, hf, hT, hfr⟩
end Go.Proofs.YtpoahmeacjggfaaGreat
namespace Rw
open Go Go.RowKit
def strT (x : List UInt8) : ByteArray := ⟨x.toArray⟩
/-- Texts, sorted. -/
def sortB (l : List ByteArray) : List ByteArray := ((l.map (·.data.toList)).mergeSort leB).map strT
theorem strT_data (s : ByteArray) : strT s.data.toList = s := by cases s; simp [strT]
theorem sortB_perm (l : List ByteArray) : (sortB l).Perm l := by
  have h := ((List.mergeSort_perm (l.map (·.data.toList)) leB)).map strT
  rw [List.map_map, show (strT ∘ fun x : ByteArray => x.data.toList) = id from funext strT_data, List.map_id] at h
  exact h
theorem sort_of_perm {ss : List (List UInt8)} {l : List ByteArray} (h : ss.Perm (l.map (·.data.toList))) : (ss.mergeSort leB).map strT = sortB l := by
  rw [sortB, mergeSort_of_perm h]
section
variable {ν : Type} {va : ν → Value} {w : World} {b : Nat} {l : List (ByteArray × ν)} {P : Program} {k : TypeId}
theorem maps_own (hk : P.underlying k = some .string) (hm : MapL va w b l) (hl : l.length ≤ maxLen) (hs : ∀ p ∈ l, p.1.size ≤ maxLen) :
    ∃ D : DataW Unit, w.ownsMap P k (fun _ => some (.nil, [])) b l.length D ∧ Maps.size D = l.length ∧ (strKeys D).Perm (l.map (·.1.data.toList)) := by
  obtain ⟨es, clock, hb, hl2, hborn, hnd⟩ := hm.ex
  have hsz : es.size = l.length := by have := congrArg List.length hl2; simpa using this
  have hkeys : es.toList.map (·.key) = l.map (fun p => Value.string p.1) := by
    have := congrArg (List.map Prod.fst) hl2
    simpa [List.map_map, Function.comp_def, Key.val] using this
  have hkey : ∀ s : ByteArray, s.size ≤ maxLen → keyOf P k (.string s) = some (.string s.data.toList) := by
    intro s hs
    simp [keyOf, hk, mapKey, hs]
  have hrd : ∀ x ∈ es.toList, ∃ s : ByteArray, x.key = .string s ∧ WideElems.rd P k (fun _ => some ((.nil : DataW Unit), [])) x = some (.string s.data.toList, .nil) := by
    intro x hx
    have h1 : x.key ∈ l.map (fun p => Value.string p.1) := by rw [← hkeys]; exact List.mem_map.2 ⟨x, hx, rfl⟩
    obtain ⟨p, hp, he⟩ := List.mem_map.1 h1
    refine ⟨p.1, he.symm, ?_⟩
    unfold WideElems.rd
    rw [← he, hkey _ (hs p hp)]
    rfl
  have hmap : es.toList.map (fun x => strOf (WideElems.rg P k (fun _ => some ((.nil : DataW Unit), [])) x).1) = l.map (·.1.data.toList) := by
    have h2 : es.toList.map (fun x => strOf (WideElems.rg P k (fun _ => some ((.nil : DataW Unit), [])) x).1) = (es.toList.map (·.key)).map (fun v => match v with | .string s => s.data.toList | _ => []) := by
      rw [List.map_map]
      refine List.map_congr_left fun x hx => ?_
      obtain ⟨s, h3, h4⟩ := hrd x hx
      simp [WideElems.rg, h4, h3, strOf]
    rw [h2, hkeys, List.map_map]
    rfl
  refine ⟨.map ((es.toList.map (WideElems.rg P k (fun _ => some ((.nil : DataW Unit), [])))).foldr DataW.insert []), ⟨es, clock, hb, ⟨by omega, ⟨hborn, hnd, ?_⟩, fun x hx => let ⟨s, _, h⟩ := hrd x hx; ⟨_, h⟩⟩, by omega, rfl⟩, ?_, ?_⟩
  · rw [hkeys]
    have := hm.keys
    rw [show l.map (fun p => Value.string p.1) = (l.map (·.1)).map Value.string by rw [List.map_map]; rfl]
    exact (List.pairwise_map.2 (this.imp fun h e => h (by injection e)))
  · rw [Maps.size_eq, length_sorted, List.length_map, Array.length_toList, hsz]
  · show (List.map (fun p : Lit × DataW Unit => strOf p.1) _).Perm _
    rw [← hmap]
    have hins : ∀ L : List (Lit × DataW Unit), (L.foldr DataW.insert []).Perm L := by
      intro L
      induction L with
      | nil => exact .refl _
      | cons x L ih =>
        have h1 : ∀ (x : Lit × DataW Unit) (r : List (Lit × DataW Unit)), (DataW.insert x r).Perm (x :: r) := by
          intro x r
          induction r with
          | nil => exact .refl _
          | cons y r ihr =>
            unfold DataW.insert
            split
            · exact .refl _
            · exact (ihr.cons y).trans (.swap _ _ _)
        exact (h1 _ _).trans (ih.cons x)
    have := (hins (es.toList.map (WideElems.rg P k (fun _ => some ((.nil : DataW Unit), []))))).map (fun p => strOf p.1)
    rwa [List.map_map] at this
end
theorem row_texts {e B : Nat} {M : Nat → Prop} {w : World} {v : Value} {l : List ByteArray} (h : w.ownsRow B e 1 v l.length (l.map fun x => .string x)) (hl : l.length < 140737488355328) (hs : ∀ x ∈ l, x.size < 140737488355328) (hM : ∀ b, M b → b < B) : Sl M w v l := by
  have hR : ∀ l : List ByteArray, (∀ x ∈ l, x.size < 140737488355328) → Rs (fun _ => True) w (l.map fun x => .string x) l := by
    intro l
    induction l with
    | nil => intro _; trivial
    | cons x l ih => intro hs; exact ⟨⟨rfl, hs x List.mem_cons_self⟩, ih fun y hy => hs y (List.mem_cons_of_mem _ hy)⟩
  have hf : flat (l.map fun x => Value.string x) = l.map fun x => .string x := by
    clear h hl hs hR
    unfold flat
    induction l with
    | nil => rfl
    | cons x l ih => rw [List.map_cons, List.flatMap_cons, ih]; rfl
  have h2 : OwnSl e B (fun _ => True) w v l := ⟨⟨_, by rw [hf]; exact h, hR l hs⟩, fun _ _ => trivial⟩
  exact h2.sl hl hM (fun _ _ => trivial)
theorem rep_names (t : Tm) {M : Nat → Prop} {w : World} {v : Value} (h : Rep.R M w v t) : ∀ x ∈ nodesL t, x.name.size < 140737488355328 := by
  have h' : TmR M w t v := h
  clear h
  induction h' with
  | mk b off u hop hs hg hn hann hl hc ha hu hA ih =>
    intro x hx
    rw [nodesL_eq] at hx
    rcases List.mem_cons.1 hx with rfl | hx
    · exact hs
    · obtain ⟨k, hk, hx⟩ := List.mem_flatMap.1 hx
      obtain ⟨i, hi⟩ := List.mem_iff_getElem?.1 hk
      exact ih i k hi x hx
/-- What down makes of the names that are free. -/
def NK (n : Nat) (l : List (ByteArray × Bool)) : Prop := l.length ≤ n ∧ ∀ p ∈ l, p.1.size < 140737488355328
theorem NK.put {n : Nat} {l : List (ByteArray × Bool)} (h : NK n l) {s : ByteArray} (hs : s.size < 140737488355328) : NK (n + 1) (putK l s true) := by
  unfold putK
  split
  · refine ⟨by rw [List.length_set]; have := h.1; omega, fun p hp => ?_⟩
    rcases List.mem_or_eq_of_mem_set hp with hp | rfl
    · exact h.2 p hp
    · exact hs
  · refine ⟨by rw [List.length_append]; have := h.1; simp; omega, fun p hp => ?_⟩
    rcases List.mem_append.1 hp with hp | hp
    · exact h.2 p hp
    · simp at hp; subst hp; exact hs
theorem NK.mono {n m : Nat} {l : List (ByteArray × Bool)} (h : NK n l) (hn : n ≤ m) : NK m l := ⟨Nat.le_trans h.1 hn, h.2⟩
theorem NK.down (t : Tm) : (∀ x ∈ nodesL t, x.name.size < 140737488355328) → ∀ (n : Nat) (x : BF), NK n x.2 → NK (n + nsz t) (downF t x).2 := by
  refine Tm.ind (p := fun t => (∀ x ∈ nodesL t, x.name.size < 140737488355328) → ∀ (n : Nat) (x : BF), NK n x.2 → NK (n + nsz t) (downF t x).2) (fun t ih => ?_) t
  intro hs n x hx
  have hself : t.name.size < 140737488355328 := hs t (by rw [nodesL_eq]; exact List.mem_cons_self)
  have hkid : ∀ k ∈ t.kids, ∀ (n : Nat) (x : BF), NK n x.2 → NK (n + nsz k) (downF k x).2 := fun k hk => ih k hk fun y hy => hs y (by rw [nodesL_eq]; exact List.mem_cons_of_mem _ (List.mem_flatMap.2 ⟨k, hk, hy⟩))
  have hfold : ∀ (l : List Tm), (∀ k ∈ l, k ∈ t.kids) → ∀ (n : Nat) (x : BF), NK n x.2 → NK (n + nszs l) ((l.map downF).foldl (fun x g => g x) x).2 := by
    intro l
    induction l with
    | nil => intro _ n x h; exact h
    | cons k l ihl =>
      intro hk n x h
      rw [List.map_cons, List.foldl_cons, nszs_cons, ← Nat.add_assoc]
      exact ihl (fun y hy => hk y (List.mem_cons_of_mem _ hy)) _ _ (hkid k (hk k List.mem_cons_self) n x h)
  have hnz := nsz_eq t
  have hwith : ∀ (g : BF → BF) (ss : List ByteArray) (x : BF) (n m : Nat), (∀ x : BF, NK n x.2 → NK m (g x).2) → NK n x.2 → NK m (withF g ss x).2 := fun g ss x n m hg h => hg _ h
  have hhead : ∀ (n : Nat) (x : BF), NK n x.2 → NK (n + nszs t.kids) ((t.kids.map downF).headD id x).2 := by
    intro n x h
    cases hk : t.kids with
    | nil => exact h
    | cons k l => rw [nszs_cons]; exact (hkid k (by rw [hk]; exact List.mem_cons_self) n x h).mono (by omega)
  rw [downF_eq]
  unfold downK
  split
  · split
    · exact (hx.put hself).mono (by omega)
    · exact hx.mono (by omega)
  · split
    · exact (hwith _ _ _ n (n + nszs t.kids) (hhead n) hx).mono (by omega)
    · split
      · exact (hwith _ _ _ n (n + nszs t.kids) (hhead n) hx).mono (by omega)
      · split
        · cases hk : t.kids with
          | nil => exact hx.mono (by omega)
          | cons k l =>
            cases hl : l with
            | nil => 
              rw [hk, hl, nszs_cons, nszs_nil] at hnz
              exact (hkid k (by rw [hk]; exact List.mem_cons_self) n x hx).mono (by omega)
            | cons k2 l2 =>
              rw [hk, hl, nszs_cons, nszs_cons] at hnz
              have h1 := hkid k (by rw [hk]; exact List.mem_cons_self) n x hx
              exact (hwith (downF k2) [t.name] (downF k x) _ _ (fun x => hkid k2 (by rw [hk, hl]; simp) _ x) h1).mono (by omega)
        · exact (hfold t.kids (fun k h => h) n x hx).mono (by omega)
/-- The names that are free, sorted. -/
def freeS (t : Tm) : List ByteArray := sortB ((downF t ([], [])).2.map (·.1))
end Rw
namespace Go.Proofs
open Go.RowKit Go.Maps Go.Sort Go.Shelf
set_option maxRecDepth 100000
def Tryz.keys24_ren : Go.Shelf.Ren := ⟨fun | 7 => 24 | 10 => 36 | n => n, fun | 23 => 53 | 26 => 9 | 3 => 4 | 28 => 59 | 0 => 0 | 27 => 58 | 33 => 71 | 4 => 4 | n => n, fun | n => n⟩
theorem Tryz.keys24 : Go.Proofs.SlLaysZ.n7 Tryz.prog Tryz.keys24_ren := {
  mixed := by kernel_rfl
  f7 := ⟨Tryz.f24.name, by decide, Tryz.func24.trans (congrArg some (by kernel_rfl))⟩
  f10 := ⟨Tryz.f36.name, by decide, Tryz.func36.trans (congrArg some (by kernel_rfl))⟩
  t0 := Tryz.underlying0
  a0 := Tryz.isAgg0
  z0 := Tryz.sizeOf0
  v0 := Tryz.zeroValue0
  t4 := Tryz.underlying4
  a4 := Tryz.isAgg4
  z4 := Tryz.sizeOf4
  v4 := Tryz.zeroValue4
  t23 := Tryz.underlying53
  a23 := Tryz.isAgg53
  z23 := Tryz.sizeOf53
  v23 := Tryz.zeroValue53
  t26 := Tryz.underlying9
  a26 := Tryz.isAgg9
  z26 := Tryz.sizeOf9
  v26 := Tryz.zeroValue9
  t27 := Tryz.underlying58
  a27 := Tryz.isAgg58
  z27 := Tryz.sizeOf58
  v27 := Tryz.zeroValue58
  t28 := Tryz.underlying59
  a28 := Tryz.isAgg59
  z28 := Tryz.sizeOf59
  v28 := Tryz.zeroValue59
  t33 := Tryz.underlying71
  a33 := Tryz.isAgg71
  z33 := Tryz.sizeOf71
  v33 := Tryz.zeroValue71 }
def Tryz.sorted23_ren : Go.Shelf.Ren := ⟨fun | 6 => 23 | 8 => 34 | 9 => 35 | 11 => 59 | 13 => 26 | 12 => 60 | 23 => 46 | 24 => 47 | 14 => 79 | 15 => 80 | 16 => 81 | 17 => 82 | 18 => 83 | 19 => 84 | 20 => 85 | 21 => 86 | 22 => 87 | 25 => 99 | 26 => 62 | 27 => 63 | 28 => 100 | 29 => 101 | 30 => 102 | 31 => 111 | n => n, fun | 26 => 9 | 28 => 59 | 24 => 22 | 0 => 0 | 3 => 3 | 37 => 63 | 48 => 81 | 50 => 83 | 4 => 4 | 40 => 74 | 39 => 73 | 45 => 43 | 5 => 5 | 9 => 9 | 51 => 96 | 55 => 100 | 57 => 115 | 58 => 116 | 33 => 71 | n => n, fun | n => n⟩
theorem Tryz.sorted23 : Go.Proofs.SlLaysZ.n6 Tryz.prog Tryz.sorted23_ren := {
  mixed := by kernel_rfl
  f6 := ⟨Tryz.f23.name, by decide, Tryz.func23.trans (congrArg some (by kernel_rfl))⟩
  f8 := ⟨Tryz.f34.name, by decide, Tryz.func34.trans (congrArg some (by kernel_rfl))⟩
  f11 := ⟨Tryz.f59.name, by decide, Tryz.func59.trans (congrArg some (by kernel_rfl))⟩
  t0 := Tryz.underlying0
  a0 := Tryz.isAgg0
  z0 := Tryz.sizeOf0
  v0 := Tryz.zeroValue0
  t24 := Tryz.underlying22
  a24 := Tryz.isAgg22
  z24 := Tryz.sizeOf22
  v24 := Tryz.zeroValue22
  t26 := Tryz.underlying9
  a26 := Tryz.isAgg9
  z26 := Tryz.sizeOf9
  v26 := Tryz.zeroValue9
  t28 := Tryz.underlying59
  a28 := Tryz.isAgg59
  z28 := Tryz.sizeOf59
  v28 := Tryz.zeroValue59
  i26 := by kernel_rfl }
def Tryz.sort35_ren : Go.Shelf.Ren := ⟨fun | 6 => 35 | 8 => 26 | 9 => 60 | 19 => 46 | 20 => 47 | 21 => 79 | 22 => 80 | 23 => 81 | 24 => 82 | 25 => 83 | 26 => 84 | 27 => 85 | 28 => 86 | 29 => 87 | 36 => 99 | 31 => 62 | 32 => 63 | 37 => 100 | 38 => 101 | 39 => 102 | 41 => 111 | n => n, fun | 27 => 22 | 29 => 9 | 3 => 3 | 32 => 63 | 26 => 22 | 0 => 0 | 44 => 81 | 46 => 83 | 4 => 4 | 36 => 74 | 35 => 73 | 41 => 43 | 5 => 5 | 9 => 9 | 53 => 96 | 57 => 100 | 63 => 115 | 64 => 116 | n => n, fun | n => n⟩
theorem Tryz.sort35 : Go.Proofs.SlLaysM.n6 Tryz.prog Tryz.sort35_ren := {
  mixed := by kernel_rfl
  f6 := ⟨Tryz.f35.name, by decide, Tryz.func35.trans (congrArg some (by kernel_rfl))⟩
  f8 := Tryz.func26.trans (congrArg some (by kernel_rfl))
  f9 := ⟨Tryz.f60.name, by decide, Tryz.func60.trans (congrArg some (by kernel_rfl))⟩
  f19 := Tryz.func46.trans (congrArg some (by kernel_rfl))
  f20 := Tryz.func47.trans (congrArg some (by kernel_rfl))
  f21 := ⟨Tryz.f79.name, by decide, Tryz.func79.trans (congrArg some (by kernel_rfl))⟩
  f22 := ⟨Tryz.f80.name, by decide, Tryz.func80.trans (congrArg some (by kernel_rfl))⟩
  f23 := ⟨Tryz.f81.name, by decide, Tryz.func81.trans (congrArg some (by kernel_rfl))⟩
  f24 := ⟨Tryz.f82.name, by decide, Tryz.func82.trans (congrArg some (by kernel_rfl))⟩
  f25 := ⟨Tryz.f83.name, by decide, Tryz.func83.trans (congrArg some (by kernel_rfl))⟩
  f26 := ⟨Tryz.f84.name, by decide, Tryz.func84.trans (congrArg some (by kernel_rfl))⟩
  f27 := ⟨Tryz.f85.name, by decide, Tryz.func85.trans (congrArg some (by kernel_rfl))⟩
  f28 := ⟨Tryz.f86.name, by decide, Tryz.func86.trans (congrArg some (by kernel_rfl))⟩
  f29 := ⟨Tryz.f87.name, by decide, Tryz.func87.trans (congrArg some (by kernel_rfl))⟩
  f31 := Tryz.func62.trans (congrArg some (by kernel_rfl))
  f32 := Tryz.func63.trans (congrArg some (by kernel_rfl))
  f36 := ⟨Tryz.f99.name, by decide, Tryz.func99.trans (congrArg some (by kernel_rfl))⟩
  f37 := ⟨Tryz.f100.name, by decide, Tryz.func100.trans (congrArg some (by kernel_rfl))⟩
  f38 := ⟨Tryz.f101.name, by decide, Tryz.func101.trans (congrArg some (by kernel_rfl))⟩
  f39 := ⟨Tryz.f102.name, by decide, Tryz.func102.trans (congrArg some (by kernel_rfl))⟩
  f41 := ⟨Tryz.f111.name, by decide, Tryz.func111.trans (congrArg some (by kernel_rfl))⟩
  t0 := Tryz.underlying0
  a0 := Tryz.isAgg0
  z0 := Tryz.sizeOf0
  v0 := Tryz.zeroValue0
  t3 := Tryz.underlying3
  a3 := Tryz.isAgg3
  z3 := Tryz.sizeOf3
  v3 := Tryz.zeroValue3
  t4 := Tryz.underlying4
  a4 := Tryz.isAgg4
  z4 := Tryz.sizeOf4
  v4 := Tryz.zeroValue4
  t5 := Tryz.underlying5
  a5 := Tryz.isAgg5
  z5 := Tryz.sizeOf5
  v5 := Tryz.zeroValue5
  t9 := Tryz.underlying9
  a9 := Tryz.isAgg9
  z9 := Tryz.sizeOf9
  v9 := Tryz.zeroValue9
  t26 := Tryz.underlying22
  a26 := Tryz.isAgg22
  z26 := Tryz.sizeOf22
  v26 := Tryz.zeroValue22
  t27 := Tryz.underlying22
  a27 := Tryz.isAgg22
  z27 := Tryz.sizeOf22
  v27 := Tryz.zeroValue22
  t29 := Tryz.underlying9
  a29 := Tryz.isAgg9
  z29 := Tryz.sizeOf9
  v29 := Tryz.zeroValue9
  t32 := Tryz.underlying63
  a32 := Tryz.isAgg63
  z32 := Tryz.sizeOf63
  v32 := Tryz.zeroValue63
  t35 := Tryz.underlying73
  a35 := Tryz.isAgg73
  z35 := Tryz.sizeOf73
  v35 := Tryz.zeroValue73
  t36 := Tryz.underlying74
  a36 := Tryz.isAgg74
  z36 := Tryz.sizeOf74
  v36 := Tryz.zeroValue74
  t41 := Tryz.underlying43
  a41 := Tryz.isAgg43
  z41 := Tryz.sizeOf43
  v41 := Tryz.zeroValue43
  t44 := Tryz.underlying81
  a44 := Tryz.isAgg81
  z44 := Tryz.sizeOf81
  v44 := Tryz.zeroValue81
  t46 := Tryz.underlying83
  a46 := Tryz.isAgg83
  z46 := Tryz.sizeOf83
  v46 := Tryz.zeroValue83
  t53 := Tryz.underlying96
  a53 := Tryz.isAgg96
  z53 := Tryz.sizeOf96
  v53 := Tryz.zeroValue96
  t57 := Tryz.underlying100
  a57 := Tryz.isAgg100
  z57 := Tryz.sizeOf100
  v57 := Tryz.zeroValue100
  t63 := Tryz.underlying115
  a63 := Tryz.isAgg115
  z63 := Tryz.sizeOf115
  v63 := Tryz.zeroValue115
  t64 := Tryz.underlying116
  a64 := Tryz.isAgg116
  z64 := Tryz.sizeOf116
  v64 := Tryz.zeroValue116 }
theorem Tryz.sorts23 (m : Nat) : AnyZ.SortsIn Tryz.prog Tryz.sorted23_ren Fence.wide m :=
  ⟨fun blk off cap ss W hH hblk hsz => callsIn_wide.2 (AnyM.slices_Sort_string Tryz.sort35 blk off cap ss W hH hblk hsz),
   fun p cap W => callsIn_wide.2 (AnyM.slices_Sort_string_none Tryz.sort35 p cap W)⟩
theorem Tryz.maps_Keys_24 (mb : Option Nat) (W : World) : CallsIn Fence.wide 5 Tryz.prog 24 #[.map mb] W fun e w' => e = .returned (.func (.func 36) #[] #[.pointer (some ⟨W.heap.size, 0, none⟩)]) ∧ w' = W.alloc (.cells #[.map mb] 53) :=
  AnyZ.keys_in Tryz.keys24 Fence.wide 5 trivial rfl mb W
theorem Tryz.slices_Sorted_keys_23_24 {H : Type} (b nn : Nat) (D0 : DataW H) (R : Value → Option (DataW H × List MemPlace)) (w : World) (hown : w.ownsMap Tryz.prog 9 R b nn D0) (hmax : Maps.size D0 ≤ maxLen) (hbytes : Maps.size D0 * 16 ≤ 140737488355328) :
    CallsIn Fence.wide 5 Tryz.prog 23 #[.func (.func 36) #[] #[.pointer (some ⟨w.heap.size, 0, none⟩)]] (w.alloc (.cells #[.map (some b)] 53)) fun e w' => ∃ (v : Value) (ss : List (List UInt8)), e = .returned v ∧ ss.Perm (strKeys D0) ∧
      w'.ownsRow (w.alloc (.cells #[.map (some b)] 53)).heap.size 9 1 v ss.length ((ss.mergeSort (fun x y => decide (x ≤ y))).map encStr) ∧ (v = .slice none 0 0 ↔ ss = []) ∧ Below (w.alloc (.cells #[.map (some b)] 53)).heap.size (w.alloc (.cells #[.map (some b)] 53)) w' := by
  have hbl := hown.lt
  have hseq : SeqGives Fence.wide 2 Tryz.prog 36 #[.pointer (some ⟨w.heap.size, 0, none⟩)] encStr (fun ss => ss.Perm (strKeys D0)) (Maps.size D0) (w.alloc (.cells #[.map (some b)] 53)) :=
    AnyZ.keys_gives (ρ := Tryz.keys24_ren) { Tryz.keys24 with } Fence.wide _ trivial rfl (by omega) w.heap.size b nn D0 _ (by simp) (by simp) (by
      obtain ⟨es, clock, hb, Ft, hs, hD⟩ := hown
      exact ⟨es, clock, (Below.heap_alloc _ _ b hbl).trans hb, Ft, hs, hD⟩)
  exact AnyZ.sorted_in Tryz.sorted23 Fence.wide 5 trivial trivial trivial trivial rfl (by omega) (Tryz.sorts23 _) (enters_of Tryz.func35 (by kernel_rfl) rfl) 36 #[.pointer (some ⟨w.heap.size, 0, none⟩)] trivial (enters_of Tryz.func36 (by kernel_rfl) rfl) _ _ hmax hbytes _ hseq
end Go.Proofs
namespace Go.Proofs.YtpoahmeacjggfaaGreat
open Go Rw Go.RowKit
set_option maxRecDepth 100000
open Go Rw Go.RowKit
set_option maxRecDepth 100000
theorem at_spec (M : Nat → Prop) (w : World) (v : Value) (l : List Int) (n : Int) (hl : Sl M w v l) :
  Calls Tryz.prog 93 #[v, .int .i64 n] w (Ret fun r w' => r = .int .i64 (atOf l n) ∧ w = w') := by
 have hlt := hl.lt
 refine cN (n := 19) Tryz.func93 rfl rfl rfl ?_
 refine q0 (lP 1 tK rfl (q1 (cS (q0 (lP 1 tK rfl (q1 (cB ?_)))))))
 refine c_loop (X := Nat) (fun x => [(0, v), (1, .int .i64 n), (5, .int .i64 (x : Nat))]) (fun x w' => w = w' ∧ x ≤ l.length ∧ ∀ j, j < x → l[j]? ≠ some n) (fun x => l.length - x) (0) (s3 rfl rfl rfl) ?_ ?_
 ·exact ⟨rfl, Nat.zero_le _, fun j hj => absurd hj (Nat.not_lt_zero _)⟩
 rintro k _ ⟨rfl, hk, hno⟩
 refine cS (q0 (lP 2 tK rfl ?_))
 refine lC (o_len tK hl rfl rfl rfl rfl rfl ?_)
 refine lP 1 tK rfl (q1 ?_)
 refine cP _ rfl (fun h => ?_) (fun h => ?_)
 ·have hkl : k < l.length := by omega
  refine cK (xS (cS (cB (q0 (lP 2 tK rfl ?_)))))
  refine lC (o_ixS tK hl (gE hkl) rfl rfl rfl rfl rfl rfl rfl rfl rfl ?_)
  intro b o u hr hat
  obtain ⟨rfl, hb⟩ := hr
  refine lC (oD tK (hat.cell 0 _ rfl) rfl rfl rfl rfl rfl ?_)
  refine lP 2 tK rfl (q1 ?_)
  refine cP _ rfl (fun h2 => ?_) (fun h2 => ?_)
  ·refine q0 (lP 2 tK rfl (q1 (cR (xB (xR (xR (xB (xR (x1_ rfl rfl ?_)))))))))
   exact ⟨by rw [atOf_found hkl h2 hno], rfl⟩
  refine cK (x_blk (xS (cG (lP 1 tK rfl ?_))))
  refine lC (o_ai rfl rfl rfl (by omega) rfl rfl ?_)
  refine lP 1 tK rfl (lN ?_)
  exact x_round (k + 1) (s3 rfl rfl rfl) ⟨rfl, by omega, step_no hno hkl h2⟩ (by omega)
 refine c_exit (xE (xE (x_blkE (xS (q0 (lP 1 tK rfl (q1 (cR (x1_ rfl rfl ?_)))))))))
 exact ⟨by rw [atOf_none (by omega) hno], rfl⟩
theorem in_spec (M : Nat → Prop) (w : World) (v : Value) (l : List Int) (n : Int) (hl : Sl M w v l) :
  Calls Tryz.prog 74 #[v, .int .i64 n] w (Ret fun r w' => r = .bool (decide (n ∈ l)) ∧ w = w') := by
 refine cN (n := 9) Tryz.func74 rfl rfl rfl ?_
 refine q0 (lP 1 tK rfl (q1 (q0 (lP 2 tK rfl ?_))))
 refine lC (oK fo93 rfl rfl rfl (at_spec M _ _ l n hl) ?_)
 rintro _ _ ⟨rfl, rfl⟩
 refine lP 2 tK rfl (q1 (cR (x1_ rfl rfl ?_)))
 exact ⟨by rw [inOf_at], rfl⟩
theorem refVars_spec (t : Ty) (c : UInt8) (M : Nat → Prop) (w : World) (v : Value) (hsh : shapeF t c = true) (ht : Rep.R M w v t) (hlow0 : Low M w) (hz : psz t ≤ 2000000) :
  Calls Tryz.prog 52 #[v] w (Ret fun r w' => Sl M w' r (varsF t) ∧ Ext w w') := by
 have Lw := hlow0
 have hB := lR w.heap.size
 have hE := Below.refl w.heap.size w
 have hsub : ∀ b, M b → M b := fun _ h => h
 obtain ⟨kv, rfl, op, nm, n64, hk⟩ := tO ht
 have hpc := psz_canon _ t (lR _)
 have hpl : (partsL (canonF t)).length = psz (canonF t) := rfl
 refine cN (n := 48) Tryz.func52 rfl rfl rfl ?_
 refine q0 ?_
 refine lC (o_box rfl rfl rfl ?_)
 intro b1 w1 hb_b1 ew1 h1
 replace h1 : Box _ b1 29 [.int .u8 t.op, .string t.name, .int .i64 t.n, kv] := h1
 replace h1 := h1.at (nO Lw hb_b1)
 replace hE := ew1.bl hE hB
 replace ht := Rep.Y ht ew1
 replace hk := hk.Y ew1
 replace Lw := Lw.Y ew1
 replace hB := ew1.z hB
 refine lP 1 tK rfl (q1 (q0 (lP 1 tK rfl (q1 (q0 ?_)))))
 refine lC (oL tK (fun j v hv => h1.cell j v hv) rfl rfl rfl rfl rfl rfl ?_)
 refine lC (oK fo73 rfl rfl rfl (refCanon_all _ t c _ _ _ (lR _) hsh ht Lw hz) ?_)
 rintro vc w2 ⟨hc, ew2⟩
 replace hE := ew2.bl hE hB
 replace ht := Rep.Y ht ew2
 replace hk := hk.Y ew2
 replace h1 := h1.Y ew2
 replace Lw := Lw.Y ew2
 replace hB := ew2.z hB
 refine lC (oK fo72 rfl rfl rfl (parts_spec (canonF t) _ _ _ hc Lw (by omega)) ?_)
 rintro vhp w3 ⟨hp, ew3⟩
 replace hE := ew3.bl hE hB
 replace ht := Rep.Y ht ew3
 replace hk := hk.Y ew3
 replace h1 := h1.Y ew3
 replace hc := Rep.Y hc ew3
 replace Lw := Lw.Y ew3
 replace hB := ew3.z hB
 refine lP 1 tK rfl (q1 (cS (q0 (lP 1 tK rfl (q1 (cB ?_))))))
 refine c_loop3 (X := Nat) (Y := Value) (Z := Nat → Prop) (fun i v M1 => [(3, v), (4, vhp), (5, .int .i64 (i : Nat))]) (fun i v M1 w' => i ≤ (partsL (canonF t)).length ∧ OwnSl 3 w.heap.size M1 w' v (varsTo [] ((partsL (canonF t)).take i)) ∧ Sl M1 w' vhp (partsL (canonF t)) ∧ Low M1 w' ∧ (∀ b, M b → M1 b) ∧ Below w.heap.size w w' ∧ w.heap.size ≤ w'.heap.size) (fun i v M1 => (partsL (canonF t)).length - i) (0) (.slice none 0 0) (M) (s3 rfl rfl rfl) ?_ ?_
 ·exact ⟨Nat.zero_le _, own_nil, hp, Lw, hsub, hE, hB⟩
 rintro i v M1 w4 ⟨hi, ho, hp, Lw, hsub, hE, hB⟩
 have hvl := varsTo_len [] ((partsL (canonF t)).take i)
 rw [List.length_nil, List.length_take] at hvl
 refine cS (q0 (lP 2 tK rfl ?_))
 refine lC (o_len tK hp rfl rfl rfl rfl rfl ?_)
 refine lP 1 tK rfl (q1 ?_)
 refine cP _ rfl (fun c1 => ?_) (fun c1 => ?_)
 ·refine cK (xS (cS (cB (q0 (lP 2 tK rfl ?_)))))
  have hik : i < (partsL (canonF t)).length := by omega
  refine lC (o_ixS tK hp (gE hik) rfl rfl rfl rfl rfl rfl rfl rfl rfl ?_)
  intro ebx0 eox0 eux0 hyx0 hatx0
  obtain ⟨kvx0, rfl, opx0, nmx0, n64x0, hkx0⟩ := tO hyx0
  replace hatx0 : At M1 w4 ebx0 eox0 [.int .u8 (partsL (canonF t))[i].op, .string (partsL (canonF t))[i].name, .int .i64 (partsL (canonF t))[i].n, kvx0] := hatx0
  refine lP 1 tK rfl ?_
  refine lC (oD tK (hatx0.cell 0 _ rfl) rfl rfl rfl rfl rfl ?_)
  refine lP 2 tK rfl ?_
  refine lS 21 _ rfl (fun c2 => ?_) (fun c2 => ?_)
  ·refine lP 11 tK rfl ?_
   refine lC (o_ixS tK hp (gE hik) rfl rfl rfl rfl rfl rfl rfl rfl rfl ?_)
   intro ebx1 eox1 eux1 hyx1 hatx1
   obtain ⟨kvx1, rfl, opx1, nmx1, n64x1, hkx1⟩ := tO hyx1
   replace hatx1 : At M1 w4 ebx1 eox1 [.int .u8 (partsL (canonF t))[i].op, .string (partsL (canonF t))[i].name, .int .i64 (partsL (canonF t))[i].n, kvx1] := hatx1
   refine lP 1 tK rfl ?_
   refine lC (oD tK (hatx1.cell 2 _ rfl) rfl rfl rfl rfl rfl ?_)
   have hos : Sl NoM w4 v (varsTo [] ((partsL (canonF t)).take i)) := ho.sl (by omega) (fun _ h => h.elim) (fun _ h => h.elim)
   refine lC (oK fo74 rfl rfl rfl (in_spec NoM _ _ _ _ hos) ?_)
   rintro _ _ ⟨rfl, rfl⟩
   refine lP 2 tK rfl (q1 ?_)
   refine c_ifN _ rfl (fun c3 => ?_) (fun c3 => ?_)
   ·refine cG (lP 3 tK rfl ?_)
    refine lC (o_ixS tK hp (gE hik) rfl rfl rfl rfl rfl rfl rfl rfl rfl ?_)
    intro ebx2 eox2 eux2 hyx2 hatx2
    obtain ⟨kvx2, rfl, opx2, nmx2, n64x2, hkx2⟩ := tO hyx2
    replace hatx2 : At M1 w4 ebx2 eox2 [.int .u8 (partsL (canonF t))[i].op, .string (partsL (canonF t))[i].name, .int .i64 (partsL (canonF t))[i].n, kvx2] := hatx2
    refine lP 1 tK rfl ?_
    refine lC (oD tK (hatx2.cell 2 _ rfl) rfl rfl rfl rfl rfl ?_)
    refine lC (o_bs tK rfl rfl rfl rfl rfl rfl rfl (sz1 rfl) rfl rfl rfl ?_)
    intro bw5 w5 qbw5 ew5 hbw5
    have nbw5 := nO Lw qbw5
    replace ho := ho.Y Lw hB ew5
    replace hE := ew5.bl hE hB
    replace hp := hp.Y ew5
    replace hyx0 := Rep.Y hyx0 ew5
    replace hkx0 := hkx0.Y ew5
    replace hatx0 := hatx0.Y ew5
    replace hyx1 := Rep.Y hyx1 ew5
    replace hkx1 := hkx1.Y ew5
    replace hatx1 := hatx1.Y ew5
    replace hyx2 := Rep.Y hyx2 ew5
    replace hkx2 := hkx2.Y ew5
    replace hatx2 := hatx2.Y ew5
    replace Lw := Lw.Y ew5
    replace hB := ew5.z hB
    refine lC (o_app1 tK ho hbw5 nbw5 ⟨rfl, n64x2⟩ Lw hB rfl rfl rfl rfl rfl rfl rfl (by omega) (by show (_ + _) * 8 ≤ _; omega) rfl rfl ?_)
    intro vw6 w6 Mw6 hw6 sw6 frw6 blw6
    replace hE := hE.trans sw6.below
    replace hp := hp.sp sw6
    replace hyx0 := Rep.sp hyx0 sw6
    replace hkx0 := hkx0.sp sw6
    replace hatx0 := hatx0.sp sw6
    replace hyx1 := Rep.sp hyx1 sw6
    replace hkx1 := hkx1.sp sw6
    replace hatx1 := hatx1.sp sw6
    replace hyx2 := Rep.sp hyx2 sw6
    replace hkx2 := hkx2.sp sw6
    replace hatx2 := hatx2.sp sw6
    replace hsub := sw6.sb hsub
    replace Lw := sw6.low
    replace hB := sw6.z hB
    replace ho := hw6
    clear hw6
    refine lP 1 tK rfl (q2 (xS (cG (lP 1 tK rfl ?_))))
    refine lC (o_ai rfl rfl rfl (by omega) rfl rfl ?_)
    refine lP 1 tK rfl (lN ?_)
    have htk : (partsL (canonF t)).take (i + 1) = (partsL (canonF t)).take i ++ [(partsL (canonF t))[i]] := List.take_succ_eq_append_getElem hik
    have hnb : numB (partsL (canonF t))[i].op = true := by unfold numB; simp [*]
    have hni : (partsL (canonF t))[i].n ∉ varsTo [] ((partsL (canonF t)).take i) := by assumption
    exact x_round3 (i + 1) (vw6) (Mw6) (s3 rfl rfl (gN rfl (by omega))) ⟨by omega, by rw [htk, varsTo_yes hnb hni]; exact ho, hp, Lw, hsub, hE, hB⟩ (by omega)
   refine cK (x_blk (xS (cG (lP 1 tK rfl ?_))))
   refine lC (o_ai rfl rfl rfl (by omega) rfl rfl ?_)
   refine lP 1 tK rfl (lN ?_)
   have htk : (partsL (canonF t)).take (i + 1) = (partsL (canonF t)).take i ++ [(partsL (canonF t))[i]] := List.take_succ_eq_append_getElem hik
   have hst : varsTo [] ((partsL (canonF t)).take (i + 1)) = varsTo [] ((partsL (canonF t)).take i) := by
    rw [htk]
    cases hnb : numB (partsL (canonF t))[i].op with
    | false => exact varsTo_no hnb
    | true =>
     refine varsTo_old ?_
     unfold numB at hnb
     simp_all
   exact x_round3 (i + 1) (v) (M1) (s3 rfl rfl (gN rfl (by omega))) ⟨by omega, by rw [hst]; exact ho, hp, Lw, hsub, hE, hB⟩ (by omega)
  refine lP 2 tK rfl ?_
  refine lC (o_ixS tK hp (gE hik) rfl rfl rfl rfl rfl rfl rfl rfl rfl ?_)
  intro ebx1 eox1 eux1 hyx1 hatx1
  obtain ⟨kvx1, rfl, opx1, nmx1, n64x1, hkx1⟩ := tO hyx1
  replace hatx1 : At M1 w4 ebx1 eox1 [.int .u8 (partsL (canonF t))[i].op, .string (partsL (canonF t))[i].name, .int .i64 (partsL (canonF t))[i].n, kvx1] := hatx1
  refine lP 1 tK rfl ?_
  refine lC (oD tK (hatx1.cell 0 _ rfl) rfl rfl rfl rfl rfl ?_)
  refine lP 3 tK rfl ?_
  refine lS 29 _ rfl (fun c4 => ?_) (fun c4 => ?_)
  ·refine lP 3 tK rfl ?_
   refine lC (o_ixS tK hp (gE hik) rfl rfl rfl rfl rfl rfl rfl rfl rfl ?_)
   intro ebx2 eox2 eux2 hyx2 hatx2
   obtain ⟨kvx2, rfl, opx2, nmx2, n64x2, hkx2⟩ := tO hyx2
   replace hatx2 : At M1 w4 ebx2 eox2 [.int .u8 (partsL (canonF t))[i].op, .string (partsL (canonF t))[i].name, .int .i64 (partsL (canonF t))[i].n, kvx2] := hatx2
   refine lP 1 tK rfl ?_
   refine lC (oD tK (hatx2.cell 2 _ rfl) rfl rfl rfl rfl rfl ?_)
   have hos : Sl NoM w4 v (varsTo [] ((partsL (canonF t)).take i)) := ho.sl (by omega) (fun _ h => h.elim) (fun _ h => h.elim)
   refine lC (oK fo74 rfl rfl rfl (in_spec NoM _ _ _ _ hos) ?_)
   rintro _ _ ⟨rfl, rfl⟩
   refine lP 2 tK rfl (q1 ?_)
   refine c_ifN _ rfl (fun c5 => ?_) (fun c5 => ?_)
   ·refine cG (lP 3 tK rfl ?_)
    refine lC (o_ixS tK hp (gE hik) rfl rfl rfl rfl rfl rfl rfl rfl rfl ?_)
    intro ebx3 eox3 eux3 hyx3 hatx3
    obtain ⟨kvx3, rfl, opx3, nmx3, n64x3, hkx3⟩ := tO hyx3
    replace hatx3 : At M1 w4 ebx3 eox3 [.int .u8 (partsL (canonF t))[i].op, .string (partsL (canonF t))[i].name, .int .i64 (partsL (canonF t))[i].n, kvx3] := hatx3
    refine lP 1 tK rfl ?_
    refine lC (oD tK (hatx3.cell 2 _ rfl) rfl rfl rfl rfl rfl ?_)
    refine lC (o_bs tK rfl rfl rfl rfl rfl rfl rfl (sz1 rfl) rfl rfl rfl ?_)
    intro bw7 w7 qbw7 ew7 hbw7
    have nbw7 := nO Lw qbw7
    replace ho := ho.Y Lw hB ew7
    replace hE := ew7.bl hE hB
    replace hp := hp.Y ew7
    replace hyx0 := Rep.Y hyx0 ew7
    replace hkx0 := hkx0.Y ew7
    replace hatx0 := hatx0.Y ew7
    replace hyx1 := Rep.Y hyx1 ew7
    replace hkx1 := hkx1.Y ew7
    replace hatx1 := hatx1.Y ew7
    replace hyx2 := Rep.Y hyx2 ew7
    replace hkx2 := hkx2.Y ew7
    replace hatx2 := hatx2.Y ew7
    replace hyx3 := Rep.Y hyx3 ew7
    replace hkx3 := hkx3.Y ew7
    replace hatx3 := hatx3.Y ew7
    replace Lw := Lw.Y ew7
    replace hB := ew7.z hB
    refine lC (o_app1 tK ho hbw7 nbw7 ⟨rfl, n64x3⟩ Lw hB rfl rfl rfl rfl rfl rfl rfl (by omega) (by show (_ + _) * 8 ≤ _; omega) rfl rfl ?_)
    intro vw8 w8 Mw8 hw8 sw8 frw8 blw8
    replace hE := hE.trans sw8.below
    replace hp := hp.sp sw8
    replace hyx0 := Rep.sp hyx0 sw8
    replace hkx0 := hkx0.sp sw8
    replace hatx0 := hatx0.sp sw8
    replace hyx1 := Rep.sp hyx1 sw8
    replace hkx1 := hkx1.sp sw8
    replace hatx1 := hatx1.sp sw8
    replace hyx2 := Rep.sp hyx2 sw8
    replace hkx2 := hkx2.sp sw8
    replace hatx2 := hatx2.sp sw8
    replace hyx3 := Rep.sp hyx3 sw8
    replace hkx3 := hkx3.sp sw8
    replace hatx3 := hatx3.sp sw8
    replace hsub := sw8.sb hsub
    replace Lw := sw8.low
    replace hB := sw8.z hB
    replace ho := hw8
    clear hw8
    refine lP 1 tK rfl (q2 (xS (cG (lP 1 tK rfl ?_))))
    refine lC (o_ai rfl rfl rfl (by omega) rfl rfl ?_)
    refine lP 1 tK rfl (lN ?_)
    have htk : (partsL (canonF t)).take (i + 1) = (partsL (canonF t)).take i ++ [(partsL (canonF t))[i]] := List.take_succ_eq_append_getElem hik
    have hnb : numB (partsL (canonF t))[i].op = true := by unfold numB; simp [*]
    have hni : (partsL (canonF t))[i].n ∉ varsTo [] ((partsL (canonF t)).take i) := by assumption
    exact x_round3 (i + 1) (vw8) (Mw8) (s3 rfl rfl (gN rfl (by omega))) ⟨by omega, by rw [htk, varsTo_yes hnb hni]; exact ho, hp, Lw, hsub, hE, hB⟩ (by omega)
   refine cK (x_blk (xS (cG (lP 1 tK rfl ?_))))
   refine lC (o_ai rfl rfl rfl (by omega) rfl rfl ?_)
   refine lP 1 tK rfl (lN ?_)
   have htk : (partsL (canonF t)).take (i + 1) = (partsL (canonF t)).take i ++ [(partsL (canonF t))[i]] := List.take_succ_eq_append_getElem hik
   have hst : varsTo [] ((partsL (canonF t)).take (i + 1)) = varsTo [] ((partsL (canonF t)).take i) := by
    rw [htk]
    cases hnb : numB (partsL (canonF t))[i].op with
    | false => exact varsTo_no hnb
    | true =>
     refine varsTo_old ?_
     unfold numB at hnb
     simp_all
   exact x_round3 (i + 1) (v) (M1) (s3 rfl rfl (gN rfl (by omega))) ⟨by omega, by rw [hst]; exact ho, hp, Lw, hsub, hE, hB⟩ (by omega)
  refine lP 9 tK rfl (q1 (c_ifF rfl (cK (x_blk (xS (cG (lP 1 tK rfl ?_)))))))
  refine lC (o_ai rfl rfl rfl (by omega) rfl rfl ?_)
  refine lP 1 tK rfl (lN ?_)
  have htk : (partsL (canonF t)).take (i + 1) = (partsL (canonF t)).take i ++ [(partsL (canonF t))[i]] := List.take_succ_eq_append_getElem hik
  have hst : varsTo [] ((partsL (canonF t)).take (i + 1)) = varsTo [] ((partsL (canonF t)).take i) := by
   rw [htk]
   cases hnb : numB (partsL (canonF t))[i].op with
   | false => exact varsTo_no hnb
   | true =>
    refine varsTo_old ?_
    unfold numB at hnb
    simp_all
  exact x_round3 (i + 1) (v) (M1) (s3 rfl rfl (gN rfl (by omega))) ⟨by omega, by rw [hst]; exact ho, hp, Lw, hsub, hE, hB⟩ (by omega)
 refine c_exit (xE (xE (x_blkE (xS (q0 (lP 2 tK rfl (q1 (cR (x1_ rfl rfl ?_)))))))))
 obtain rfl : i = (partsL (canonF t)).length := by omega
 rw [List.take_of_length_le (lR _)] at ho hvl
 exact ⟨ho.sl (by omega) hlow0 hsub, hE⟩
open Go Rw Go.RowKit
set_option maxRecDepth 100000
theorem hasR_spec (s : ByteArray) (hs : s.size < 140737488355328) (c : UInt8) (w : World) :
  Calls Tryz.prog 48 #[.string s, .int .u8 c.toNat] w (Ret fun r w' => r = .bool (hasB s c) ∧ w = w') := by
 refine cN (n := 17) Tryz.func48 rfl rfl rfl ?_
 refine q0 (lP 1 tK rfl (q1 (cS (q0 (lP 1 tK rfl (q1 (cB ?_)))))))
 refine c_loop (X := Nat) (fun i => [(0, .string s), (1, .int .u8 c.toNat), (5, .int .i64 (i : Nat))]) (fun i w' => w = w' ∧ i ≤ s.size ∧ ∀ j, j < i → s.data[j]? ≠ some c) (fun i => s.size - i) (0) (s3 rfl rfl rfl) ?_ ?_
 ·exact ⟨rfl, Nat.zero_le _, fun j hj => absurd hj (Nat.not_lt_zero _)⟩
 rintro i _ ⟨rfl, hi, hall⟩
 refine cS (q0 (lP 4 tK rfl (q1 ?_)))
 refine cP _ rfl (fun c1 => ?_) (fun c1 => ?_)
 ·refine cK (xS (cS (cB (q0 (lP 2 tK rfl ?_)))))
  have his : i < s.size := by omega
  have hd : s.data[i]? = some s.data[i] := Array.getElem?_eq_getElem his
  generalize hcc : s.data[i] = ch at hd
  refine lC (o_si tK rfl rfl rfl rfl rfl hd rfl rfl ?_)
  refine lP 2 tK rfl (q1 ?_)
  refine cP _ rfl (fun c2 => ?_) (fun c2 => ?_)
  ·refine q0 (lP 1 tK rfl (q1 (cR (xB (xR (xR (xB (xR (x1_ rfl rfl ?_)))))))))
   exact ⟨by rw [hasB_yes (c := c) (by rw [hd]; congr 1; exact UInt8.toNat_inj.1 (by omega))], rfl⟩
  refine cK (x_blk (xS (cG (lP 1 tK rfl ?_))))
  refine lC (o_ai rfl rfl rfl (by omega) rfl rfl ?_)
  refine lP 1 tK rfl (lN ?_)
  exact x_round (i + 1) (s3 rfl rfl rfl) ⟨rfl, by omega, fun j hj e => by
   by_cases he : j = i
   ·subst he; rw [hd] at e; cases e; omega
   ·exact hall j (by omega) e⟩ (by omega)
 refine c_exit (xE (xE (x_blkE (xS (q0 (lP 1 tK rfl (q1 (cR (x1_ rfl rfl ?_)))))))))
 exact ⟨by rw [hasB_no (fun j hj => hall j (by omega))], rfl⟩
theorem partsS_spec (op : Int) (hop : 0 ≤ op ∧ op ≤ 255) (M : Nat → Prop) (w : World) (Lw : Low M w) :
  Calls Tryz.prog 27 #[.int .u8 op] w (Ret fun r w' => r = .string (partsS op) ∧ Ext w w') := by
 have hE := Below.refl w.heap.size w
 have hB := lR w.heap.size
 have hpl : partsT.length = 20 := rfl
 refine cN (n := 20) Tryz.func27 rfl rfl rfl ?_
 refine q0 (lP 1 tK rfl (q1 (q0 ?_)))
 refine lC (o_bs tK rfl rfl rfl rfl rfl rfl rfl (by intro v hv; simp at hv; rcases hv with rfl | rfl | rfl | rfl | rfl | rfl | rfl | rfl | rfl | rfl | rfl | rfl | rfl | rfl | rfl | rfl | rfl | rfl | rfl | rfl <;> rfl) rfl rfl rfl ?_)
 intro bw1 w1 qbw1 ew1 hbw1
 have nbw1 := nO Lw qbw1
 replace hE := ew1.bl hE hB
 replace Lw := Lw.Y ew1
 replace hB := ew1.z hB
 have hl : Sl M w1 (.slice (some ⟨bw1, 0, none⟩) 20 20) partsT := lit_sl hbw1 nbw1 (show Rs _ _ [_, _, _, _, _, _, _, _, _, _, _, _, _, _, _, _, _, _, _, _] partsT from ⟨⟨rfl, by decide⟩, ⟨rfl, by decide⟩, ⟨rfl, by decide⟩, ⟨rfl, by decide⟩, ⟨rfl, by decide⟩, ⟨rfl, by decide⟩, ⟨rfl, by decide⟩, ⟨rfl, by decide⟩, ⟨rfl, by decide⟩, ⟨rfl, by decide⟩, ⟨rfl, by decide⟩, ⟨rfl, by decide⟩, ⟨rfl, by decide⟩, ⟨rfl, by decide⟩, ⟨rfl, by decide⟩, ⟨rfl, by decide⟩, ⟨rfl, by decide⟩, ⟨rfl, by decide⟩, ⟨rfl, by decide⟩, ⟨rfl, by decide⟩, trivial⟩) (by decide)
 refine lP 1 tK rfl (q1 (cS (q0 (lP 3 tK rfl ?_))))
 refine lS 7 _ rfl (fun c1 => ?_) (fun c1 => ?_)
 ·refine lP 7 tK rfl (q1 (cI rfl (q0 (lP 1 tK rfl (q1 (cR (xR (x1_ rfl rfl ?_))))))))
  exact ⟨by unfold partsS; rw [if_pos (by omega)], hE⟩
 refine lP 1 tK rfl ?_
 refine lC (o_conv (y := op) tK rfl rfl rfl rfl rfl (IntWalk.i64_in _ (by omega)) rfl rfl ?_)
 refine lP 1 tK rfl ?_
 refine lC (o_len tK hl rfl rfl rfl rfl rfl ?_)
 refine lC (o_ai rfl rfl rfl (by omega) rfl rfl ?_)
 refine lP 2 tK rfl (q1 ?_)
 refine cP _ rfl (fun c2 => ?_) (fun c2 => ?_)
 ·refine q0 (lP 1 tK rfl (q1 (cR (xR (x1_ rfl rfl ?_)))))
  exact ⟨by unfold partsS; rw [if_pos (by omega)], hE⟩
 refine cK (xS (q0 (lP 2 tK rfl ?_)))
 refine lC (o_ar rfl rfl rfl (z := op - 32) (by rw [IntKind.wrap_u8]; omega) rfl rfl ?_)
 have hlen : (op - 32).toNat < partsT.length := by show _ < 20; omega
 refine lC (o_ixS tK hl (gE hlen) rfl rfl (by omega) rfl rfl rfl rfl rfl rfl ?_)
 intro b o u hr hat
 obtain ⟨rfl, _⟩ := hr
 refine lC (oD tK (hat.cell 0 _ rfl) rfl rfl rfl rfl rfl ?_)
 refine lP 1 tK rfl (q1 (cR (x1_ rfl rfl ?_)))
 exact ⟨by unfold partsS; rw [if_neg (by omega), gE hlen, Option.getD_some], hE⟩
theorem zero_spec (t : Ty) (M : Nat → Prop) (w : World) (v : Value) (ht : Rep.R M w v t) (Lw : Low M w) :
  Calls Tryz.prog 50 #[v] w (Ret fun r w' => r = .bool (blankB t) ∧ Ext w w') := by
 have hE := Below.refl w.heap.size w
 have hB := lR w.heap.size
 obtain ⟨kv, rfl, op, nm, n64, hk⟩ := tO ht
 refine cN (n := 22) Tryz.func50 rfl rfl rfl ?_
 refine q0 ?_
 refine lC (o_box rfl rfl rfl ?_)
 intro b1 w1 hb_b1 ew1 h1
 replace h1 : Box _ b1 29 [.int .u8 t.op, .string t.name, .int .i64 t.n, kv] := h1
 replace h1 := h1.at (nO Lw hb_b1)
 replace hE := ew1.bl hE hB
 replace ht := Rep.Y ht ew1
 replace hk := hk.Y ew1
 replace Lw := Lw.Y ew1
 replace hB := ew1.z hB
 refine lP 1 tK rfl (q1 (q0 (lP 1 tK rfl ?_)))
 refine lC (oD tK (h1.cell 0 _ rfl) rfl rfl rfl rfl rfl ?_)
 refine lP 2 tK rfl ?_
 refine lS 6 _ rfl (fun c1 => ?_) (fun c1 => ?_)
 ·refine lP 1 tK rfl ?_
  refine lC (oD tK (h1.cell 1 _ rfl) rfl rfl rfl rfl rfl ?_)
  refine lP 3 tK rfl ?_
  refine lS 11 _ rfl (fun c2 => ?_) (fun c2 => ?_)
  ·refine lP 1 tK rfl ?_
   refine lC (oD tK (h1.cell 2 _ rfl) rfl rfl rfl rfl rfl ?_)
   refine lP 3 tK rfl ?_
   refine lS 16 _ rfl (fun c3 => ?_) (fun c3 => ?_)
   ·refine lP 1 tK rfl ?_
    refine lC (oD tK (h1.cell 3 _ rfl) rfl rfl rfl rfl rfl ?_)
    refine lC (o_len tK hk rfl rfl rfl rfl rfl ?_)
    refine lP 3 tK rfl (q1 (cR (x1_ rfl rfl ?_)))
    exact ⟨by congr 1; unfold blankB; simp_all, hE⟩
   refine lP 6 tK rfl (q1 (cR (x1_ rfl rfl ?_)))
   exact ⟨by congr 1; unfold blankB; simp_all, hE⟩
  refine lP 11 tK rfl (q1 (cR (x1_ rfl rfl ?_)))
  exact ⟨by congr 1; unfold blankB; simp_all, hE⟩
 refine lP 16 tK rfl (q1 (cR (x1_ rfl rfl ?_)))
 exact ⟨by congr 1; unfold blankB; simp_all, hE⟩
theorem partsR_spec (t : Tm) (p : ByteArray) (hp : p.size < 140737488355328) (M : Nat → Prop) (w : World) (v : Value) (ht : Rep.R M w v t) (Lw : Low M w) (hz : psz t.ann ≤ 2000000) :
  Calls Tryz.prog 28 #[v, .string p] w (Ret fun r w' => r = .bool (partsB t p) ∧ Ext w w') := by
 have hE := Below.refl w.heap.size w
 have hB := lR w.heap.size
 obtain ⟨akv, kv, rfl, op, nm, ag, n64, ha, hk⟩ := tm_open ht
 refine cN (n := 135) Tryz.func28 rfl rfl rfl ?_
 refine q0 ?_
 refine lC (o_box rfl rfl rfl ?_)
 intro b2 w1 hb_b2 ew1 h2
 replace h2 : Box _ b2 31 [.int .u8 t.op, .string t.name, .string t.arg, .int .i64 t.n, .bool t.has, .int .u8 t.ann.op, .string t.ann.name, .int .i64 t.ann.n, akv, kv] := h2
 replace h2 := h2.at (nO Lw hb_b2)
 replace hE := ew1.bl hE hB
 replace ht := Rep.Y ht ew1
 replace ha := Rep.Y ha ew1
 replace hk := hk.Y ew1
 replace Lw := Lw.Y ew1
 replace hB := ew1.z hB
 refine lP 1 tK rfl (q1 ?_)
 refine c_cut (X := Unit) (fun _u => [(1, .string p), (2, .pointer (some ⟨b2, 0, none⟩))]) (fun _u w' => (hasB p 111 == signB t.name) = true ∧ At M w' b2 0 [.int .u8 t.op, .string t.name, .string t.arg, .int .i64 t.n, .bool t.has, .int .u8 t.ann.op, .string t.ann.name, .int .i64 t.ann.n, akv, kv] ∧ Rep.R M w' (.agg #[.int .u8 t.ann.op, .string t.ann.name, .int .i64 t.ann.n, akv]) t.ann ∧ Low M w' ∧ Below w.heap.size w w' ∧ w.heap.size ≤ w'.heap.size) ?_ ?_
 ·refine cS ?_
  refine a_beg Ext rfl ?_
  intro w2 ew2
  replace hE := ew2.bl hE hB
  replace ht := Rep.Y ht ew2
  replace ha := Rep.Y ha ew2
  replace hk := hk.Y ew2
  replace h2 := h2.Y ew2
  replace Lw := Lw.Y ew2
  replace hB := ew2.z hB
  have hS : Ext w2 w2 := ext_refl _
  have D_hk := hk
  have D_h2 := h2
  refine a_p 0 tK rfl rfl rfl rfl (by kernel_rfl) i3 hS ?_
  refine a_p 2 tK rfl rfl rfl rfl (by kernel_rfl) i3 hS ?_
  refine a_ld 3 tK (fun _ hs => (D_h2.Y hs).cell 1 _ rfl) rfl rfl rfl rfl rfl rfl (by kernel_rfl) i3 hS ?_
  refine a_p 4 tK rfl rfl rfl rfl (by kernel_rfl) i3 hS ?_
  refine a_one 1 rfl (by kernel_rfl) (oK fo48 rfl rfl rfl (hasR_spec p hp 111 _) ?_)
  rintro _ _ ⟨rfl, rfl⟩
  refine ⟨hS, ?_⟩
  refine a_p 5 tK rfl rfl rfl rfl (by kernel_rfl) i3 hS ?_
  refine a_splitP 10 _ rfl (fun c1 => ?_) (fun c1 => ?_)
  ·refine aK 6 rfl rfl rfl (by kernel_rfl) i3 hS ?_
   refine aK 7 rfl rfl rfl (by kernel_rfl) i3 hS ?_
   refine aK 8 rfl rfl rfl (by kernel_rfl) i3 hS ?_
   refine a_p 9 tK rfl rfl rfl rfl (by kernel_rfl) i3 hS ?_
   refine a_p 10 tK rfl rfl rfl rfl (by kernel_rfl) i3 hS ?_
   refine aK 11 rfl rfl rfl (by kernel_rfl) i3 hS ?_
   refine aK 12 rfl rfl rfl (by kernel_rfl) i3 hS ?_
   refine aK 13 rfl rfl rfl (by kernel_rfl) i3 hS ?_
   refine a_p 14 tK rfl rfl rfl rfl (by kernel_rfl) i3 hS ?_
   refine a_p 15 tK rfl rfl rfl rfl (by kernel_rfl) i3 hS ?_
   refine aK 16 rfl rfl rfl (by kernel_rfl) i3 hS ?_
   refine aK 17 rfl rfl rfl (by kernel_rfl) i3 hS ?_
   refine aK 18 rfl rfl rfl (by kernel_rfl) i3 hS ?_
   refine a_p 19 tK rfl rfl rfl rfl (by kernel_rfl) i3 hS ?_
   refine a_p 20 tK rfl rfl rfl rfl (by kernel_rfl) i3 hS ?_
   refine aK 21 rfl rfl rfl (by kernel_rfl) i3 hS ?_
   refine aK 22 rfl rfl rfl (by kernel_rfl) i3 hS ?_
   refine aK 23 rfl rfl rfl (by kernel_rfl) i3 hS ?_
   refine a_p 24 tK rfl rfl rfl rfl (by kernel_rfl) i3 hS ?_
   refine a_p 25 tK rfl rfl rfl rfl (by kernel_rfl) i3 hS ?_
   refine aK 26 rfl rfl rfl (by kernel_rfl) i3 hS ?_
   refine aK 27 rfl rfl rfl (by kernel_rfl) i3 hS ?_
   refine aK 28 rfl rfl rfl (by kernel_rfl) i3 hS ?_
   refine a_p 29 tK rfl rfl rfl rfl (by kernel_rfl) i3 hS ?_
   refine a_p 30 tK rfl rfl rfl rfl (by kernel_rfl) i3 hS ?_
   refine aK 31 rfl rfl rfl (by kernel_rfl) i3 hS ?_
   refine aK 32 rfl rfl rfl (by kernel_rfl) i3 hS ?_
   refine aK 33 rfl rfl rfl (by kernel_rfl) i3 hS ?_
   refine a_p 34 tK rfl rfl rfl rfl (by kernel_rfl) i3 hS ?_
   refine a_bar 35 rfl (by kernel_rfl) (by kernel_rfl) (o_bne tK rfl rfl rfl rfl rfl rfl ?_)
   refine a_end (by kernel_rfl) ?_
   refine xS ?_
   refine c_if _ rfl (fun c2 => ?_) (fun c2 => ?_)
   ·refine q0 (lP 1 tK rfl (q1 (cR (xR (x1_ rfl rfl ?_)))))
    refine ⟨?_, hE⟩
    have hA : ((hasB p 111 == signB t.name)) = false := by
     simp_all [signB]
    unfold partsB
    rw [hA]
    simp
   refine cK ?_
   have hA : (hasB p 111 == signB t.name) = true := by
    simp_all [signB]
   exact x_cut (()) (s2 rfl rfl) ⟨hA, h2, ha, Lw, hE, hB⟩
  refine a_p 6 tK rfl rfl rfl rfl (by kernel_rfl) i3 hS ?_
  refine a_ld 7 tK (fun _ hs => (D_h2.Y hs).cell 1 _ rfl) rfl rfl rfl rfl rfl rfl (by kernel_rfl) i3 hS ?_
  refine a_p 8 tK rfl rfl rfl rfl (by kernel_rfl) i3 hS ?_
  refine a_p 9 tK rfl rfl rfl rfl (by kernel_rfl) i3 hS ?_
  refine a_p 10 tK rfl rfl rfl rfl (by kernel_rfl) i3 hS ?_
  refine a_splitP 15 _ rfl (fun c3 => ?_) (fun c3 => ?_)
  ·refine aK 11 rfl rfl rfl (by kernel_rfl) i3 hS ?_
   refine aK 12 rfl rfl rfl (by kernel_rfl) i3 hS ?_
   refine aK 13 rfl rfl rfl (by kernel_rfl) i3 hS ?_
   refine a_p 14 tK rfl rfl rfl rfl (by kernel_rfl) i3 hS ?_
   refine a_p 15 tK rfl rfl rfl rfl (by kernel_rfl) i3 hS ?_
   refine aK 16 rfl rfl rfl (by kernel_rfl) i3 hS ?_
   refine aK 17 rfl rfl rfl (by kernel_rfl) i3 hS ?_
   refine aK 18 rfl rfl rfl (by kernel_rfl) i3 hS ?_
   refine a_p 19 tK rfl rfl rfl rfl (by kernel_rfl) i3 hS ?_
   refine a_p 20 tK rfl rfl rfl rfl (by kernel_rfl) i3 hS ?_
   refine aK 21 rfl rfl rfl (by kernel_rfl) i3 hS ?_
   refine aK 22 rfl rfl rfl (by kernel_rfl) i3 hS ?_
   refine aK 23 rfl rfl rfl (by kernel_rfl) i3 hS ?_
   refine a_p 24 tK rfl rfl rfl rfl (by kernel_rfl) i3 hS ?_
   refine a_p 25 tK rfl rfl rfl rfl (by kernel_rfl) i3 hS ?_
   refine aK 26 rfl rfl rfl (by kernel_rfl) i3 hS ?_
   refine aK 27 rfl rfl rfl (by kernel_rfl) i3 hS ?_
   refine aK 28 rfl rfl rfl (by kernel_rfl) i3 hS ?_
   refine a_p 29 tK rfl rfl rfl rfl (by kernel_rfl) i3 hS ?_
   refine a_p 30 tK rfl rfl rfl rfl (by kernel_rfl) i3 hS ?_
   refine aK 31 rfl rfl rfl (by kernel_rfl) i3 hS ?_
   refine aK 32 rfl rfl rfl (by kernel_rfl) i3 hS ?_
   refine aK 33 rfl rfl rfl (by kernel_rfl) i3 hS ?_
   refine a_p 34 tK rfl rfl rfl rfl (by kernel_rfl) i3 hS ?_
   refine a_bar 35 rfl (by kernel_rfl) (by kernel_rfl) (o_bne tK rfl rfl rfl rfl rfl rfl ?_)
   refine a_end (by kernel_rfl) ?_
   refine xS ?_
   refine c_if _ rfl (fun c4 => ?_) (fun c4 => ?_)
   ·refine q0 (lP 1 tK rfl (q1 (cR (xR (x1_ rfl rfl ?_)))))
    refine ⟨?_, hE⟩
    have hA : ((hasB p 111 == signB t.name)) = false := by
     simp_all [signB]
    unfold partsB
    rw [hA]
    simp
   refine cK ?_
   have hA : (hasB p 111 == signB t.name) = true := by
    simp_all [signB]
   exact x_cut (()) (s2 rfl rfl) ⟨hA, h2, ha, Lw, hE, hB⟩
  refine a_p 11 tK rfl rfl rfl rfl (by kernel_rfl) i3 hS ?_
  refine a_ld 12 tK (fun _ hs => (D_h2.Y hs).cell 1 _ rfl) rfl rfl rfl rfl rfl rfl (by kernel_rfl) i3 hS ?_
  refine a_p 13 tK rfl rfl rfl rfl (by kernel_rfl) i3 hS ?_
  refine a_p 14 tK rfl rfl rfl rfl (by kernel_rfl) i3 hS ?_
  refine a_p 15 tK rfl rfl rfl rfl (by kernel_rfl) i3 hS ?_
  refine a_splitP 20 _ rfl (fun c5 => ?_) (fun c5 => ?_)
  ·refine aK 16 rfl rfl rfl (by kernel_rfl) i3 hS ?_
   refine aK 17 rfl rfl rfl (by kernel_rfl) i3 hS ?_
   refine aK 18 rfl rfl rfl (by kernel_rfl) i3 hS ?_
   refine a_p 19 tK rfl rfl rfl rfl (by kernel_rfl) i3 hS ?_
   refine a_p 20 tK rfl rfl rfl rfl (by kernel_rfl) i3 hS ?_
   refine aK 21 rfl rfl rfl (by kernel_rfl) i3 hS ?_
   refine aK 22 rfl rfl rfl (by kernel_rfl) i3 hS ?_
   refine aK 23 rfl rfl rfl (by kernel_rfl) i3 hS ?_
   refine a_p 24 tK rfl rfl rfl rfl (by kernel_rfl) i3 hS ?_
   refine a_p 25 tK rfl rfl rfl rfl (by kernel_rfl) i3 hS ?_
   refine aK 26 rfl rfl rfl (by kernel_rfl) i3 hS ?_
   refine aK 27 rfl rfl rfl (by kernel_rfl) i3 hS ?_
   refine aK 28 rfl rfl rfl (by kernel_rfl) i3 hS ?_
   refine a_p 29 tK rfl rfl rfl rfl (by kernel_rfl) i3 hS ?_
   refine a_p 30 tK rfl rfl rfl rfl (by kernel_rfl) i3 hS ?_
   refine aK 31 rfl rfl rfl (by kernel_rfl) i3 hS ?_
   refine aK 32 rfl rfl rfl (by kernel_rfl) i3 hS ?_
   refine aK 33 rfl rfl rfl (by kernel_rfl) i3 hS ?_
   refine a_p 34 tK rfl rfl rfl rfl (by kernel_rfl) i3 hS ?_
   refine a_bar 35 rfl (by kernel_rfl) (by kernel_rfl) (o_bne tK rfl rfl rfl rfl rfl rfl ?_)
   refine a_end (by kernel_rfl) ?_
   refine xS ?_
   refine c_if _ rfl (fun c6 => ?_) (fun c6 => ?_)
   ·refine q0 (lP 1 tK rfl (q1 (cR (xR (x1_ rfl rfl ?_)))))
    refine ⟨?_, hE⟩
    have hA : ((hasB p 111 == signB t.name)) = false := by
     simp_all [signB]
    unfold partsB
    rw [hA]
    simp
   refine cK ?_
   have hA : (hasB p 111 == signB t.name) = true := by
    simp_all [signB]
   exact x_cut (()) (s2 rfl rfl) ⟨hA, h2, ha, Lw, hE, hB⟩
  refine a_p 16 tK rfl rfl rfl rfl (by kernel_rfl) i3 hS ?_
  refine a_ld 17 tK (fun _ hs => (D_h2.Y hs).cell 1 _ rfl) rfl rfl rfl rfl rfl rfl (by kernel_rfl) i3 hS ?_
  refine a_p 18 tK rfl rfl rfl rfl (by kernel_rfl) i3 hS ?_
  refine a_p 19 tK rfl rfl rfl rfl (by kernel_rfl) i3 hS ?_
  refine a_p 20 tK rfl rfl rfl rfl (by kernel_rfl) i3 hS ?_
  refine a_splitP 25 _ rfl (fun c7 => ?_) (fun c7 => ?_)
  ·refine aK 21 rfl rfl rfl (by kernel_rfl) i3 hS ?_
   refine aK 22 rfl rfl rfl (by kernel_rfl) i3 hS ?_
   refine aK 23 rfl rfl rfl (by kernel_rfl) i3 hS ?_
   refine a_p 24 tK rfl rfl rfl rfl (by kernel_rfl) i3 hS ?_
   refine a_p 25 tK rfl rfl rfl rfl (by kernel_rfl) i3 hS ?_
   refine aK 26 rfl rfl rfl (by kernel_rfl) i3 hS ?_
   refine aK 27 rfl rfl rfl (by kernel_rfl) i3 hS ?_
   refine aK 28 rfl rfl rfl (by kernel_rfl) i3 hS ?_
   refine a_p 29 tK rfl rfl rfl rfl (by kernel_rfl) i3 hS ?_
   refine a_p 30 tK rfl rfl rfl rfl (by kernel_rfl) i3 hS ?_
   refine aK 31 rfl rfl rfl (by kernel_rfl) i3 hS ?_
   refine aK 32 rfl rfl rfl (by kernel_rfl) i3 hS ?_
   refine aK 33 rfl rfl rfl (by kernel_rfl) i3 hS ?_
   refine a_p 34 tK rfl rfl rfl rfl (by kernel_rfl) i3 hS ?_
   refine a_bar 35 rfl (by kernel_rfl) (by kernel_rfl) (o_bne tK rfl rfl rfl rfl rfl rfl ?_)
   refine a_end (by kernel_rfl) ?_
   refine xS ?_
   refine c_if _ rfl (fun c8 => ?_) (fun c8 => ?_)
   ·refine q0 (lP 1 tK rfl (q1 (cR (xR (x1_ rfl rfl ?_)))))
    refine ⟨?_, hE⟩
    have hA : ((hasB p 111 == signB t.name)) = false := by
     simp_all [signB]
    unfold partsB
    rw [hA]
    simp
   refine cK ?_
   have hA : (hasB p 111 == signB t.name) = true := by
    simp_all [signB]
   exact x_cut (()) (s2 rfl rfl) ⟨hA, h2, ha, Lw, hE, hB⟩
  refine a_p 21 tK rfl rfl rfl rfl (by kernel_rfl) i3 hS ?_
  refine a_ld 22 tK (fun _ hs => (D_h2.Y hs).cell 1 _ rfl) rfl rfl rfl rfl rfl rfl (by kernel_rfl) i3 hS ?_
  refine a_p 23 tK rfl rfl rfl rfl (by kernel_rfl) i3 hS ?_
  refine a_p 24 tK rfl rfl rfl rfl (by kernel_rfl) i3 hS ?_
  refine a_p 25 tK rfl rfl rfl rfl (by kernel_rfl) i3 hS ?_
  refine a_splitP 30 _ rfl (fun c9 => ?_) (fun c9 => ?_)
  ·refine aK 26 rfl rfl rfl (by kernel_rfl) i3 hS ?_
   refine aK 27 rfl rfl rfl (by kernel_rfl) i3 hS ?_
   refine aK 28 rfl rfl rfl (by kernel_rfl) i3 hS ?_
   refine a_p 29 tK rfl rfl rfl rfl (by kernel_rfl) i3 hS ?_
   refine a_p 30 tK rfl rfl rfl rfl (by kernel_rfl) i3 hS ?_
   refine aK 31 rfl rfl rfl (by kernel_rfl) i3 hS ?_
   refine aK 32 rfl rfl rfl (by kernel_rfl) i3 hS ?_
   refine aK 33 rfl rfl rfl (by kernel_rfl) i3 hS ?_
   refine a_p 34 tK rfl rfl rfl rfl (by kernel_rfl) i3 hS ?_
   refine a_bar 35 rfl (by kernel_rfl) (by kernel_rfl) (o_bne tK rfl rfl rfl rfl rfl rfl ?_)
   refine a_end (by kernel_rfl) ?_
   refine xS ?_
   refine c_if _ rfl (fun c10 => ?_) (fun c10 => ?_)
   ·refine q0 (lP 1 tK rfl (q1 (cR (xR (x1_ rfl rfl ?_)))))
    refine ⟨?_, hE⟩
    have hA : ((hasB p 111 == signB t.name)) = false := by
     simp_all [signB]
    unfold partsB
    rw [hA]
    simp
   refine cK ?_
   have hA : (hasB p 111 == signB t.name) = true := by
    simp_all [signB]
   exact x_cut (()) (s2 rfl rfl) ⟨hA, h2, ha, Lw, hE, hB⟩
  refine a_p 26 tK rfl rfl rfl rfl (by kernel_rfl) i3 hS ?_
  refine a_ld 27 tK (fun _ hs => (D_h2.Y hs).cell 1 _ rfl) rfl rfl rfl rfl rfl rfl (by kernel_rfl) i3 hS ?_
  refine a_p 28 tK rfl rfl rfl rfl (by kernel_rfl) i3 hS ?_
  refine a_p 29 tK rfl rfl rfl rfl (by kernel_rfl) i3 hS ?_
  refine a_p 30 tK rfl rfl rfl rfl (by kernel_rfl) i3 hS ?_
  refine a_splitP 35 _ rfl (fun c11 => ?_) (fun c11 => ?_)
  ·refine aK 31 rfl rfl rfl (by kernel_rfl) i3 hS ?_
   refine aK 32 rfl rfl rfl (by kernel_rfl) i3 hS ?_
   refine aK 33 rfl rfl rfl (by kernel_rfl) i3 hS ?_
   refine a_p 34 tK rfl rfl rfl rfl (by kernel_rfl) i3 hS ?_
   refine a_bar 35 rfl (by kernel_rfl) (by kernel_rfl) (o_bne tK rfl rfl rfl rfl rfl rfl ?_)
   refine a_end (by kernel_rfl) ?_
   refine xS ?_
   refine c_if _ rfl (fun c12 => ?_) (fun c12 => ?_)
   ·refine q0 (lP 1 tK rfl (q1 (cR (xR (x1_ rfl rfl ?_)))))
    refine ⟨?_, hE⟩
    have hA : ((hasB p 111 == signB t.name)) = false := by
     simp_all [signB]
    unfold partsB
    rw [hA]
    simp
   refine cK ?_
   have hA : (hasB p 111 == signB t.name) = true := by
    simp_all [signB]
   exact x_cut (()) (s2 rfl rfl) ⟨hA, h2, ha, Lw, hE, hB⟩
  refine a_p 31 tK rfl rfl rfl rfl (by kernel_rfl) i3 hS ?_
  refine a_ld 32 tK (fun _ hs => (D_h2.Y hs).cell 1 _ rfl) rfl rfl rfl rfl rfl rfl (by kernel_rfl) i3 hS ?_
  refine a_p 33 tK rfl rfl rfl rfl (by kernel_rfl) i3 hS ?_
  refine a_p 34 tK rfl rfl rfl rfl (by kernel_rfl) i3 hS ?_
  refine a_bar 35 rfl (by kernel_rfl) (by kernel_rfl) (o_bne tK rfl rfl rfl rfl rfl rfl ?_)
  refine a_end (by kernel_rfl) ?_
  refine xS ?_
  refine c_if _ rfl (fun c13 => ?_) (fun c13 => ?_)
  ·refine q0 (lP 1 tK rfl (q1 (cR (xR (x1_ rfl rfl ?_)))))
   refine ⟨?_, hE⟩
   have hA : ((hasB p 111 == signB t.name)) = false := by
    simp_all [signB]
   unfold partsB
   rw [hA]
   simp
  refine cK ?_
  have hA : (hasB p 111 == signB t.name) = true := by
   simp_all [signB]
  exact x_cut (()) (s2 rfl rfl) ⟨hA, h2, ha, Lw, hE, hB⟩
 clear h2 ha Lw hE hB ht hk
 rintro _ w81 ⟨hA1, h2, ha, Lw, hE, hB⟩
 refine c_cut (X := Unit) (fun _u => [(1, .string p), (2, .pointer (some ⟨b2, 0, none⟩))]) (fun _u w' => (hasB p 111 || ((hasB p 110 == isWordB t.name) && (hasB p 110 || decide (t.name = ⟨#[]⟩)))) = true ∧ At M w' b2 0 [.int .u8 t.op, .string t.name, .string t.arg, .int .i64 t.n, .bool t.has, .int .u8 t.ann.op, .string t.ann.name, .int .i64 t.ann.n, akv, kv] ∧ Rep.R M w' (.agg #[.int .u8 t.ann.op, .string t.ann.name, .int .i64 t.ann.n, akv]) t.ann ∧ Low M w' ∧ Below w.heap.size w w' ∧ w.heap.size ≤ w'.heap.size) ?_ ?_
 ·refine cS ?_
  refine a_beg Ext rfl ?_
  intro w3 ew3
  replace hE := ew3.bl hE hB
  replace h2 := h2.Y ew3
  replace ha := Rep.Y ha ew3
  replace Lw := Lw.Y ew3
  replace hB := ew3.z hB
  have hS : Ext w3 w3 := ext_refl _
  have D_h2 := h2
  refine a_p 0 tK rfl rfl rfl rfl (by kernel_rfl) i3 hS ?_
  refine a_bar 1 rfl (by kernel_rfl) (by kernel_rfl) (oK fo48 rfl rfl rfl (hasR_spec p hp 111 _) ?_)
  rintro _ _ ⟨rfl, rfl⟩
  refine a_p 2 tK rfl rfl rfl rfl (by kernel_rfl) i3 hS ?_
  refine a_p 3 tK rfl rfl rfl rfl (by kernel_rfl) i3 hS ?_
  refine a_splitB 44 _ rfl (fun c14 => ?_) (fun c14 => ?_)
  ·refine a_p 4 tK rfl rfl rfl rfl (by kernel_rfl) i3 hS ?_
   refine a_p 6 tK rfl rfl rfl rfl (by kernel_rfl) i3 hS ?_
   refine a_ld 7 tK (fun _ hs => (D_h2.Y hs).cell 1 _ rfl) rfl rfl rfl rfl rfl rfl (by kernel_rfl) i3 hS ?_
   refine a_one 5 rfl (by kernel_rfl) (oK fo48 rfl rfl rfl (hasR_spec p hp 110 _) ?_)
   rintro _ _ ⟨rfl, rfl⟩
   refine ⟨hS, ?_⟩
   refine a_bar 8 rfl (by kernel_rfl) (by kernel_rfl) (oK fo49 rfl rfl rfl (risWord_spec M _ _ (by first | exact nm | exact ag) Lw) ?_)
   rintro _ w4 ⟨rfl, ew4⟩
   replace hS := hS.then ew4
   replace hE := ew4.bl hE hB
   replace h2 := h2.Y ew4
   replace ha := Rep.Y ha ew4
   replace Lw := Lw.Y ew4
   replace hB := ew4.z hB
   refine a_bar 9 rfl (by kernel_rfl) (by kernel_rfl) (o_bne tK rfl rfl rfl rfl rfl rfl ?_)
   refine a_p 10 tK rfl rfl rfl rfl (by kernel_rfl) i3 hS ?_
   refine a_p 11 tK rfl rfl rfl rfl (by kernel_rfl) i3 hS ?_
   refine a_split 52 _ rfl (fun c15 => ?_) (fun c15 => ?_)
   ·refine aK 12 rfl rfl rfl (by kernel_rfl) i3 hS ?_
    refine aK 13 rfl rfl rfl (by kernel_rfl) i3 hS ?_
    refine aK 14 rfl rfl rfl (by kernel_rfl) i3 hS ?_
    refine aK 15 rfl rfl rfl (by kernel_rfl) i3 hS ?_
    refine aK 16 rfl rfl rfl (by kernel_rfl) i3 hS ?_
    refine aK 17 rfl rfl rfl (by kernel_rfl) i3 hS ?_
    refine aK 18 rfl rfl rfl (by kernel_rfl) i3 hS ?_
    refine aK 19 rfl rfl rfl (by kernel_rfl) i3 hS ?_
    refine aK 20 rfl rfl rfl (by kernel_rfl) i3 hS ?_
    refine aK 21 rfl rfl rfl (by kernel_rfl) i3 hS ?_
    refine aK 22 rfl rfl rfl (by kernel_rfl) i3 hS ?_
    refine aK 23 rfl rfl rfl (by kernel_rfl) i3 hS ?_
    refine aK 24 rfl rfl rfl (by kernel_rfl) i3 hS ?_
    refine a_p 25 tK rfl rfl rfl rfl (by kernel_rfl) i3 hS ?_
    refine a_end (by kernel_rfl) ?_
    refine xS (cI rfl (q0 (lP 1 tK rfl (q1 (cR (xR (x1_ rfl rfl ?_)))))))
    refine ⟨?_, hE⟩
    have hA : ((hasB p 111 || ((hasB p 110 == isWordB t.name) && (hasB p 110 || decide (t.name = ⟨#[]⟩))))) = false := by
     simp_all
    unfold partsB
    rw [hA1, hA]
    simp
   refine a_p 12 tK rfl rfl rfl rfl (by kernel_rfl) i3 hS ?_
   refine a_bar 13 rfl (by kernel_rfl) (by kernel_rfl) (oK fo48 rfl rfl rfl (hasR_spec p hp 111 _) ?_)
   rintro _ _ ⟨rfl, rfl⟩
   refine a_p 14 tK rfl rfl rfl rfl (by kernel_rfl) i3 hS ?_
   refine a_p 15 tK rfl rfl rfl rfl (by kernel_rfl) i3 hS ?_
   refine a_splitB 56 _ rfl (fun c16 => ?_) (fun c16 => ?_)
   ·refine a_p 16 tK rfl rfl rfl rfl (by kernel_rfl) i3 hS ?_
    refine a_bar 17 rfl (by kernel_rfl) (by kernel_rfl) (oK fo48 rfl rfl rfl (hasR_spec p hp 110 _) ?_)
    rintro _ _ ⟨rfl, rfl⟩
    refine a_p 18 tK rfl rfl rfl rfl (by kernel_rfl) i3 hS ?_
    refine a_p 19 tK rfl rfl rfl rfl (by kernel_rfl) i3 hS ?_
    refine a_p 20 tK rfl rfl rfl rfl (by kernel_rfl) i3 hS ?_
    refine a_splitB 61 _ rfl (fun c17 => ?_) (fun c17 => ?_)
    ·refine a_p 21 tK rfl rfl rfl rfl (by kernel_rfl) i3 hS ?_
     refine a_ld 22 tK (fun _ hs => (D_h2.Y hs).cell 1 _ rfl) rfl rfl rfl rfl rfl rfl (by kernel_rfl) i3 hS ?_
     refine a_p 23 tK rfl rfl rfl rfl (by kernel_rfl) i3 hS ?_
     refine a_p 24 tK rfl rfl rfl rfl (by kernel_rfl) i3 hS ?_
     refine a_p 25 tK rfl rfl rfl rfl (by kernel_rfl) i3 hS ?_
     refine a_end (by kernel_rfl) ?_
     refine xS ?_
     refine c_ifN _ rfl (fun c18 => ?_) (fun c18 => ?_)
     ·refine q0 (lP 1 tK rfl (q1 (cR (xR (x1_ rfl rfl ?_)))))
      refine ⟨?_, hE⟩
      have hA : ((hasB p 111 || ((hasB p 110 == isWordB t.name) && (hasB p 110 || decide (t.name = ⟨#[]⟩))))) = false := by
       simp_all
      unfold partsB
      rw [hA1, hA]
      simp
     refine cK ?_
     have hA : (hasB p 111 || ((hasB p 110 == isWordB t.name) && (hasB p 110 || decide (t.name = ⟨#[]⟩)))) = true := by
      simp_all
     exact x_cut (()) (s2 rfl rfl) ⟨hA, h2, ha, Lw, hE, hB⟩
    refine aK 21 rfl rfl rfl (by kernel_rfl) i3 hS ?_
    refine aK 22 rfl rfl rfl (by kernel_rfl) i3 hS ?_
    refine aK 23 rfl rfl rfl (by kernel_rfl) i3 hS ?_
    refine a_p 24 tK rfl rfl rfl rfl (by kernel_rfl) i3 hS ?_
    refine a_p 25 tK rfl rfl rfl rfl (by kernel_rfl) i3 hS ?_
    refine a_end (by kernel_rfl) ?_
    refine xS (c_ifF rfl (cK ?_))
    have hA : (hasB p 111 || ((hasB p 110 == isWordB t.name) && (hasB p 110 || decide (t.name = ⟨#[]⟩)))) = true := by
     simp_all
    exact x_cut (()) (s2 rfl rfl) ⟨hA, h2, ha, Lw, hE, hB⟩
   refine aK 16 rfl rfl rfl (by kernel_rfl) i3 hS ?_
   refine aK 17 rfl rfl rfl (by kernel_rfl) i3 hS ?_
   refine aK 18 rfl rfl rfl (by kernel_rfl) i3 hS ?_
   refine a_p 19 tK rfl rfl rfl rfl (by kernel_rfl) i3 hS ?_
   refine a_p 20 tK rfl rfl rfl rfl (by kernel_rfl) i3 hS ?_
   refine aK 21 rfl rfl rfl (by kernel_rfl) i3 hS ?_
   refine aK 22 rfl rfl rfl (by kernel_rfl) i3 hS ?_
   refine aK 23 rfl rfl rfl (by kernel_rfl) i3 hS ?_
   refine a_p 24 tK rfl rfl rfl rfl (by kernel_rfl) i3 hS ?_
   refine a_p 25 tK rfl rfl rfl rfl (by kernel_rfl) i3 hS ?_
   refine a_end (by kernel_rfl) ?_
   refine xS (c_ifF rfl (cK ?_))
   have hA : (hasB p 111 || ((hasB p 110 == isWordB t.name) && (hasB p 110 || decide (t.name = ⟨#[]⟩)))) = true := by
    simp_all
   exact x_cut (()) (s2 rfl rfl) ⟨hA, h2, ha, Lw, hE, hB⟩
  refine aK 4 rfl rfl rfl (by kernel_rfl) i3 hS ?_
  refine aK 5 rfl rfl rfl (by kernel_rfl) i3 hS ?_
  refine aK 6 rfl rfl rfl (by kernel_rfl) i3 hS ?_
  refine aK 7 rfl rfl rfl (by kernel_rfl) i3 hS ?_
  refine aK 8 rfl rfl rfl (by kernel_rfl) i3 hS ?_
  refine aK 9 rfl rfl rfl (by kernel_rfl) i3 hS ?_
  refine a_p 10 tK rfl rfl rfl rfl (by kernel_rfl) i3 hS ?_
  refine a_p 11 tK rfl rfl rfl rfl (by kernel_rfl) i3 hS ?_
  refine a_p 12 tK rfl rfl rfl rfl (by kernel_rfl) i3 hS ?_
  refine a_bar 13 rfl (by kernel_rfl) (by kernel_rfl) (oK fo48 rfl rfl rfl (hasR_spec p hp 111 _) ?_)
  rintro _ _ ⟨rfl, rfl⟩
  refine a_p 14 tK rfl rfl rfl rfl (by kernel_rfl) i3 hS ?_
  refine a_p 15 tK rfl rfl rfl rfl (by kernel_rfl) i3 hS ?_
  refine a_splitB 56 _ rfl (fun c19 => ?_) (fun c19 => ?_)
  ·refine a_p 16 tK rfl rfl rfl rfl (by kernel_rfl) i3 hS ?_
   refine a_bar 17 rfl (by kernel_rfl) (by kernel_rfl) (oK fo48 rfl rfl rfl (hasR_spec p hp 110 _) ?_)
   rintro _ _ ⟨rfl, rfl⟩
   refine a_p 18 tK rfl rfl rfl rfl (by kernel_rfl) i3 hS ?_
   refine a_p 19 tK rfl rfl rfl rfl (by kernel_rfl) i3 hS ?_
   refine a_p 20 tK rfl rfl rfl rfl (by kernel_rfl) i3 hS ?_
   refine a_splitB 61 _ rfl (fun c20 => ?_) (fun c20 => ?_)
   ·refine a_p 21 tK rfl rfl rfl rfl (by kernel_rfl) i3 hS ?_
    refine a_ld 22 tK (fun _ hs => (D_h2.Y hs).cell 1 _ rfl) rfl rfl rfl rfl rfl rfl (by kernel_rfl) i3 hS ?_
    refine a_p 23 tK rfl rfl rfl rfl (by kernel_rfl) i3 hS ?_
    refine a_p 24 tK rfl rfl rfl rfl (by kernel_rfl) i3 hS ?_
    refine a_p 25 tK rfl rfl rfl rfl (by kernel_rfl) i3 hS ?_
    refine a_end (by kernel_rfl) ?_
    refine xS ?_
    refine c_ifN _ rfl (fun c21 => ?_) (fun c21 => ?_)
    ·refine q0 (lP 1 tK rfl (q1 (cR (xR (x1_ rfl rfl ?_)))))
     refine ⟨?_, hE⟩
     have hA : ((hasB p 111 || ((hasB p 110 == isWordB t.name) && (hasB p 110 || decide (t.name = ⟨#[]⟩))))) = false := by
      simp_all
     unfold partsB
     rw [hA1, hA]
     simp
    refine cK ?_
    have hA : (hasB p 111 || ((hasB p 110 == isWordB t.name) && (hasB p 110 || decide (t.name = ⟨#[]⟩)))) = true := by
     simp_all
    exact x_cut (()) (s2 rfl rfl) ⟨hA, h2, ha, Lw, hE, hB⟩
   refine aK 21 rfl rfl rfl (by kernel_rfl) i3 hS ?_
   refine aK 22 rfl rfl rfl (by kernel_rfl) i3 hS ?_
   refine aK 23 rfl rfl rfl (by kernel_rfl) i3 hS ?_
   refine a_p 24 tK rfl rfl rfl rfl (by kernel_rfl) i3 hS ?_
   refine a_p 25 tK rfl rfl rfl rfl (by kernel_rfl) i3 hS ?_
   refine a_end (by kernel_rfl) ?_
   refine xS (c_ifF rfl (cK ?_))
   have hA : (hasB p 111 || ((hasB p 110 == isWordB t.name) && (hasB p 110 || decide (t.name = ⟨#[]⟩)))) = true := by
    simp_all
   exact x_cut (()) (s2 rfl rfl) ⟨hA, h2, ha, Lw, hE, hB⟩
  refine aK 16 rfl rfl rfl (by kernel_rfl) i3 hS ?_
  refine aK 17 rfl rfl rfl (by kernel_rfl) i3 hS ?_
  refine aK 18 rfl rfl rfl (by kernel_rfl) i3 hS ?_
  refine a_p 19 tK rfl rfl rfl rfl (by kernel_rfl) i3 hS ?_
  refine a_p 20 tK rfl rfl rfl rfl (by kernel_rfl) i3 hS ?_
  refine aK 21 rfl rfl rfl (by kernel_rfl) i3 hS ?_
  refine aK 22 rfl rfl rfl (by kernel_rfl) i3 hS ?_
  refine aK 23 rfl rfl rfl (by kernel_rfl) i3 hS ?_
  refine a_p 24 tK rfl rfl rfl rfl (by kernel_rfl) i3 hS ?_
  refine a_p 25 tK rfl rfl rfl rfl (by kernel_rfl) i3 hS ?_
  refine a_end (by kernel_rfl) ?_
  refine xS (c_ifF rfl (cK ?_))
  have hA : (hasB p 111 || ((hasB p 110 == isWordB t.name) && (hasB p 110 || decide (t.name = ⟨#[]⟩)))) = true := by
   simp_all
  exact x_cut (()) (s2 rfl rfl) ⟨hA, h2, ha, Lw, hE, hB⟩
 clear h2 ha Lw hE hB
 rintro _ w82 ⟨hA2, h2, ha, Lw, hE, hB⟩
 refine c_cut (X := Unit) (fun _u => [(1, .string p), (2, .pointer (some ⟨b2, 0, none⟩))]) (fun _u w' => ((hasB p 97 == isWordB t.arg) && (hasB p 97 || decide (t.arg = ⟨#[]⟩))) = true ∧ At M w' b2 0 [.int .u8 t.op, .string t.name, .string t.arg, .int .i64 t.n, .bool t.has, .int .u8 t.ann.op, .string t.ann.name, .int .i64 t.ann.n, akv, kv] ∧ Rep.R M w' (.agg #[.int .u8 t.ann.op, .string t.ann.name, .int .i64 t.ann.n, akv]) t.ann ∧ Low M w' ∧ Below w.heap.size w w' ∧ w.heap.size ≤ w'.heap.size) ?_ ?_
 ·refine cS ?_
  refine a_beg Ext rfl ?_
  intro w5 ew5
  replace hE := ew5.bl hE hB
  replace h2 := h2.Y ew5
  replace ha := Rep.Y ha ew5
  replace Lw := Lw.Y ew5
  replace hB := ew5.z hB
  have hS : Ext w5 w5 := ext_refl _
  have D_h2 := h2
  refine a_p 0 tK rfl rfl rfl rfl (by kernel_rfl) i3 hS ?_
  refine a_p 2 tK rfl rfl rfl rfl (by kernel_rfl) i3 hS ?_
  refine a_ld 3 tK (fun _ hs => (D_h2.Y hs).cell 2 _ rfl) rfl rfl rfl rfl rfl rfl (by kernel_rfl) i3 hS ?_
  refine a_one 1 rfl (by kernel_rfl) (oK fo48 rfl rfl rfl (hasR_spec p hp 97 _) ?_)
  rintro _ _ ⟨rfl, rfl⟩
  refine ⟨hS, ?_⟩
  refine a_bar 4 rfl (by kernel_rfl) (by kernel_rfl) (oK fo49 rfl rfl rfl (risWord_spec M _ _ (by first | exact nm | exact ag) Lw) ?_)
  rintro _ w6 ⟨rfl, ew6⟩
  replace hS := hS.then ew6
  replace hE := ew6.bl hE hB
  replace h2 := h2.Y ew6
  replace ha := Rep.Y ha ew6
  replace Lw := Lw.Y ew6
  replace hB := ew6.z hB
  refine a_bar 5 rfl (by kernel_rfl) (by kernel_rfl) (o_bne tK rfl rfl rfl rfl rfl rfl ?_)
  refine a_p 6 tK rfl rfl rfl rfl (by kernel_rfl) i3 hS ?_
  refine a_split 73 _ rfl (fun c22 => ?_) (fun c22 => ?_)
  ·refine aK 7 rfl rfl rfl (by kernel_rfl) i3 hS ?_
   refine aK 8 rfl rfl rfl (by kernel_rfl) i3 hS ?_
   refine aK 9 rfl rfl rfl (by kernel_rfl) i3 hS ?_
   refine aK 10 rfl rfl rfl (by kernel_rfl) i3 hS ?_
   refine aK 11 rfl rfl rfl (by kernel_rfl) i3 hS ?_
   refine aK 12 rfl rfl rfl (by kernel_rfl) i3 hS ?_
   refine aK 13 rfl rfl rfl (by kernel_rfl) i3 hS ?_
   refine aK 14 rfl rfl rfl (by kernel_rfl) i3 hS ?_
   refine a_p 15 tK rfl rfl rfl rfl (by kernel_rfl) i3 hS ?_
   refine a_end (by kernel_rfl) ?_
   refine xS (cI rfl (q0 (lP 1 tK rfl (q1 (cR (xR (x1_ rfl rfl ?_)))))))
   refine ⟨?_, hE⟩
   have hA : (((hasB p 97 == isWordB t.arg) && (hasB p 97 || decide (t.arg = ⟨#[]⟩)))) = false := by
    simp_all
   unfold partsB
   rw [hA1, hA2, hA]
   simp
  refine a_p 7 tK rfl rfl rfl rfl (by kernel_rfl) i3 hS ?_
  refine a_bar 8 rfl (by kernel_rfl) (by kernel_rfl) (oK fo48 rfl rfl rfl (hasR_spec p hp 97 _) ?_)
  rintro _ _ ⟨rfl, rfl⟩
  refine a_p 9 tK rfl rfl rfl rfl (by kernel_rfl) i3 hS ?_
  refine a_p 10 tK rfl rfl rfl rfl (by kernel_rfl) i3 hS ?_
  refine a_splitB 77 _ rfl (fun c23 => ?_) (fun c23 => ?_)
  ·refine a_p 11 tK rfl rfl rfl rfl (by kernel_rfl) i3 hS ?_
   refine a_ld 12 tK (fun _ hs => (D_h2.Y hs).cell 2 _ rfl) rfl rfl rfl rfl rfl rfl (by kernel_rfl) i3 hS ?_
   refine a_p 13 tK rfl rfl rfl rfl (by kernel_rfl) i3 hS ?_
   refine a_p 14 tK rfl rfl rfl rfl (by kernel_rfl) i3 hS ?_
   refine a_p 15 tK rfl rfl rfl rfl (by kernel_rfl) i3 hS ?_
   refine a_end (by kernel_rfl) ?_
   refine xS ?_
   refine c_ifN _ rfl (fun c24 => ?_) (fun c24 => ?_)
   ·refine q0 (lP 1 tK rfl (q1 (cR (xR (x1_ rfl rfl ?_)))))
    refine ⟨?_, hE⟩
    have hA : (((hasB p 97 == isWordB t.arg) && (hasB p 97 || decide (t.arg = ⟨#[]⟩)))) = false := by
     simp_all
    unfold partsB
    rw [hA1, hA2, hA]
    simp
   refine cK ?_
   have hA : ((hasB p 97 == isWordB t.arg) && (hasB p 97 || decide (t.arg = ⟨#[]⟩))) = true := by
    simp_all
   exact x_cut (()) (s2 rfl rfl) ⟨hA, h2, ha, Lw, hE, hB⟩
  refine aK 11 rfl rfl rfl (by kernel_rfl) i3 hS ?_
  refine aK 12 rfl rfl rfl (by kernel_rfl) i3 hS ?_
  refine aK 13 rfl rfl rfl (by kernel_rfl) i3 hS ?_
  refine a_p 14 tK rfl rfl rfl rfl (by kernel_rfl) i3 hS ?_
  refine a_p 15 tK rfl rfl rfl rfl (by kernel_rfl) i3 hS ?_
  refine a_end (by kernel_rfl) ?_
  refine xS (c_ifF rfl (cK ?_))
  have hA : ((hasB p 97 == isWordB t.arg) && (hasB p 97 || decide (t.arg = ⟨#[]⟩))) = true := by
   simp_all
  exact x_cut (()) (s2 rfl rfl) ⟨hA, h2, ha, Lw, hE, hB⟩
 clear h2 ha Lw hE hB
 rintro _ w83 ⟨hA3, h2, ha, Lw, hE, hB⟩
 refine c_cut (X := Unit) (fun _u => [(1, .string p), (2, .pointer (some ⟨b2, 0, none⟩))]) (fun _u w' => (decide (0 ≤ t.n) && (!decide (0 < t.n) || (hasB p 105 || (hasB p 98 && decide (t.n = 1))))) = true ∧ At M w' b2 0 [.int .u8 t.op, .string t.name, .string t.arg, .int .i64 t.n, .bool t.has, .int .u8 t.ann.op, .string t.ann.name, .int .i64 t.ann.n, akv, kv] ∧ Rep.R M w' (.agg #[.int .u8 t.ann.op, .string t.ann.name, .int .i64 t.ann.n, akv]) t.ann ∧ Low M w' ∧ Below w.heap.size w w' ∧ w.heap.size ≤ w'.heap.size) ?_ ?_
 ·refine q0 (lP 1 tK rfl ?_)
  refine lC (oD tK (h2.cell 3 _ rfl) rfl rfl rfl rfl rfl ?_)
  refine lP 2 tK rfl ?_
  refine lS 86 _ rfl (fun c25 => ?_) (fun c25 => ?_)
  ·refine lP 19 tK rfl (q1 (cI rfl (q0 (lP 1 tK rfl (q1 (cR (xR (x1_ rfl rfl ?_))))))))
   refine ⟨?_, hE⟩
   have hA : ((decide (0 ≤ t.n) && (!decide (0 < t.n) || (hasB p 105 || (hasB p 98 && decide (t.n = 1)))))) = false := by
    simp_all <;> omega
   unfold partsB
   rw [hA1, hA2, hA3, hA]
   simp
  refine lP 1 tK rfl ?_
  refine lC (oD tK (h2.cell 3 _ rfl) rfl rfl rfl rfl rfl ?_)
  refine lP 2 tK rfl ?_
  refine lS 90 _ rfl (fun c26 => ?_) (fun c26 => ?_)
  ·refine lP 1 tK rfl ?_
   refine lC (oK fo48 rfl rfl rfl (hasR_spec p hp 105 _) ?_)
   rintro _ _ ⟨rfl, rfl⟩
   refine lP 3 tK rfl ?_
   refine l_splitB 95 _ rfl (fun c27 => ?_) (fun c27 => ?_)
   ·refine lP 1 tK rfl ?_
    refine lC (oK fo48 rfl rfl rfl (hasR_spec p hp 98 _) ?_)
    rintro _ _ ⟨rfl, rfl⟩
    refine lP 1 tK rfl ?_
    refine l_split 98 _ rfl (fun c28 => ?_) (fun c28 => ?_)
    ·refine lP 1 tK rfl ?_
     refine lC (oD tK (h2.cell 3 _ rfl) rfl rfl rfl rfl rfl ?_)
     refine lP 5 tK rfl (q1 ?_)
     refine c_ifN _ rfl (fun c29 => ?_) (fun c29 => ?_)
     ·refine q0 (lP 1 tK rfl (q1 (cR (xR (x1_ rfl rfl ?_)))))
      refine ⟨?_, hE⟩
      have hA : ((decide (0 ≤ t.n) && (!decide (0 < t.n) || (hasB p 105 || (hasB p 98 && decide (t.n = 1)))))) = false := by
       simp_all <;> omega
      unfold partsB
      rw [hA1, hA2, hA3, hA]
      simp
     refine cK ?_
     have hA : (decide (0 ≤ t.n) && (!decide (0 < t.n) || (hasB p 105 || (hasB p 98 && decide (t.n = 1))))) = true := by
      simp_all <;> omega
     exact x_cut (()) (s2 rfl rfl) ⟨hA, h2, ha, Lw, hE, hB⟩
    refine lP 7 tK rfl (q1 (cI rfl (q0 (lP 1 tK rfl (q1 (cR (xR (x1_ rfl rfl ?_))))))))
    refine ⟨?_, hE⟩
    have hA : ((decide (0 ≤ t.n) && (!decide (0 < t.n) || (hasB p 105 || (hasB p 98 && decide (t.n = 1)))))) = false := by
     simp_all <;> omega
    unfold partsB
    rw [hA1, hA2, hA3, hA]
    simp
   refine lP 10 tK rfl (q1 (c_ifF rfl (cK ?_)))
   have hA : (decide (0 ≤ t.n) && (!decide (0 < t.n) || (hasB p 105 || (hasB p 98 && decide (t.n = 1))))) = true := by
    simp_all <;> omega
   exact x_cut (()) (s2 rfl rfl) ⟨hA, h2, ha, Lw, hE, hB⟩
  refine lP 15 tK rfl (q1 (c_ifF rfl (cK ?_)))
  have hA : (decide (0 ≤ t.n) && (!decide (0 < t.n) || (hasB p 105 || (hasB p 98 && decide (t.n = 1))))) = true := by
   simp_all <;> omega
  exact x_cut (()) (s2 rfl rfl) ⟨hA, h2, ha, Lw, hE, hB⟩
 clear h2 ha Lw hE hB
 rintro _ w84 ⟨hA4, h2, ha, Lw, hE, hB⟩
 refine cS (q0 (lP 1 tK rfl ?_))
 refine lC (oD tK (h2.cell 4 _ rfl) rfl rfl rfl rfl rfl ?_)
 refine lP 1 tK rfl (q1 ?_)
 refine c_ifB _ rfl (fun c30 => ?_) (fun c30 => ?_)
 ·refine q0 (lP 1 tK rfl ?_)
  refine lC (oK fo48 rfl rfl rfl (hasR_spec p hp 84 _) ?_)
  rintro _ _ ⟨rfl, rfl⟩
  refine lP 2 tK rfl ?_
  refine l_splitB 112 _ rfl (fun c31 => ?_) (fun c31 => ?_)
  ·refine lP 1 tK rfl ?_
   refine lC (oL tK (fun j v hv => (h2).mid 5 (sub := [.int .u8 t.ann.op, .string t.ann.name, .int .i64 t.ann.n, akv]) rfl j v hv) rfl rfl rfl rfl rfl rfl ?_)
   refine lC (oK fo50 rfl rfl rfl (zero_spec _ _ _ _ ha Lw) ?_)
   rintro _ w7 ⟨rfl, ew7⟩
   replace hE := ew7.bl hE hB
   replace h2 := h2.Y ew7
   replace ha := Rep.Y ha ew7
   replace Lw := Lw.Y ew7
   replace hB := ew7.z hB
   refine lP 2 tK rfl (q1 (cR (xR (x1_ rfl rfl ?_))))
   refine ⟨?_, hE⟩
   unfold partsB
   rw [hA1, hA2, hA3, hA4]
   simp_all
  refine lP 5 tK rfl (q1 (cR (xR (x1_ rfl rfl ?_))))
  refine ⟨?_, hE⟩
  unfold partsB
  rw [hA1, hA2, hA3, hA4]
  simp_all
 refine cK (xS (q0 (lP 1 tK rfl ?_)))
 refine lC (oK fo48 rfl rfl rfl (hasR_spec p hp 84 _) ?_)
 rintro _ _ ⟨rfl, rfl⟩
 refine lP 1 tK rfl ?_
 refine l_split 119 _ rfl (fun c32 => ?_) (fun c32 => ?_)
 ·refine lP 5 tK rfl ?_
  refine lC (oL tK (fun j v hv => (h2).mid 5 (sub := [.int .u8 t.ann.op, .string t.ann.name, .int .i64 t.ann.n, akv]) rfl j v hv) rfl rfl rfl rfl rfl rfl ?_)
  refine lC (oK fo51 rfl rfl rfl (refRight_spec _ _ _ _ ha Lw hz) ?_)
  rintro _ w8 ⟨rfl, ew8⟩
  replace hE := ew8.bl hE hB
  replace h2 := h2.Y ew8
  replace ha := Rep.Y ha ew8
  replace Lw := Lw.Y ew8
  replace hB := ew8.z hB
  refine lP 2 tK rfl ?_
  refine l_split 128 _ rfl (fun c33 => ?_) (fun c33 => ?_)
  ·refine lP 1 tK rfl ?_
   refine lC (oL tK (fun j v hv => (h2).mid 5 (sub := [.int .u8 t.ann.op, .string t.ann.name, .int .i64 t.ann.n, akv]) rfl j v hv) rfl rfl rfl rfl rfl rfl ?_)
   have hsh : shapeF t.ann 116 = true := by
    have h9 : rightB t.ann = true := by assumption
    unfold rightB at h9; simp_all
   refine lC (oK fo52 rfl rfl rfl (refVars_spec t.ann 116 _ _ _ hsh ha Lw hz) ?_)
   rintro vhv w9 ⟨hv, ew9⟩
   replace hE := ew9.bl hE hB
   replace h2 := h2.Y ew9
   replace ha := Rep.Y ha ew9
   replace Lw := Lw.Y ew9
   replace hB := ew9.z hB
   refine lC (o_len tK hv rfl rfl rfl rfl rfl ?_)
   refine lP 3 tK rfl (q1 (cR (x1_ rfl rfl ?_)))
   refine ⟨?_, hE⟩
   unfold partsB
   rw [hA1, hA2, hA3, hA4]
   simp_all
  refine lP 7 tK rfl (q1 (cR (x1_ rfl rfl ?_)))
  refine ⟨?_, hE⟩
  unfold partsB
  rw [hA1, hA2, hA3, hA4]
  simp_all
 refine lP 1 tK rfl ?_
 refine lC (oK fo48 rfl rfl rfl (hasR_spec p hp 116 _) ?_)
 rintro _ _ ⟨rfl, rfl⟩
 refine lP 2 tK rfl ?_
 refine l_split 123 _ rfl (fun c34 => ?_) (fun c34 => ?_)
 ·refine lP 1 tK rfl ?_
  refine lC (oL tK (fun j v hv => (h2).mid 5 (sub := [.int .u8 t.ann.op, .string t.ann.name, .int .i64 t.ann.n, akv]) rfl j v hv) rfl rfl rfl rfl rfl rfl ?_)
  refine lC (oK fo51 rfl rfl rfl (refRight_spec _ _ _ _ ha Lw hz) ?_)
  rintro _ w10 ⟨rfl, ew10⟩
  replace hE := ew10.bl hE hB
  replace h2 := h2.Y ew10
  replace ha := Rep.Y ha ew10
  replace Lw := Lw.Y ew10
  replace hB := ew10.z hB
  refine lP 2 tK rfl ?_
  refine l_split 128 _ rfl (fun c35 => ?_) (fun c35 => ?_)
  ·refine lP 1 tK rfl ?_
   refine lC (oL tK (fun j v hv => (h2).mid 5 (sub := [.int .u8 t.ann.op, .string t.ann.name, .int .i64 t.ann.n, akv]) rfl j v hv) rfl rfl rfl rfl rfl rfl ?_)
   have hsh : shapeF t.ann 116 = true := by
    have h9 : rightB t.ann = true := by assumption
    unfold rightB at h9; simp_all
   refine lC (oK fo52 rfl rfl rfl (refVars_spec t.ann 116 _ _ _ hsh ha Lw hz) ?_)
   rintro vhv w11 ⟨hv, ew11⟩
   replace hE := ew11.bl hE hB
   replace h2 := h2.Y ew11
   replace ha := Rep.Y ha ew11
   replace Lw := Lw.Y ew11
   replace hB := ew11.z hB
   refine lC (o_len tK hv rfl rfl rfl rfl rfl ?_)
   refine lP 3 tK rfl (q1 (cR (x1_ rfl rfl ?_)))
   refine ⟨?_, hE⟩
   unfold partsB
   rw [hA1, hA2, hA3, hA4]
   simp_all
  refine lP 7 tK rfl (q1 (cR (x1_ rfl rfl ?_)))
  refine ⟨?_, hE⟩
  unfold partsB
  rw [hA1, hA2, hA3, hA4]
  simp_all
 refine lP 12 tK rfl (q1 (cR (x1_ rfl rfl ?_)))
 refine ⟨?_, hE⟩
 unfold partsB
 rw [hA1, hA2, hA3, hA4]
 simp_all
end Go.Proofs.YtpoahmeacjggfaaGreat
