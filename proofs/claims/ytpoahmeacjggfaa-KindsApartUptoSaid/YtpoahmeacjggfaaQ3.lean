/- Part 3 of the proof: rules, plain laws and walks, merged out of smaller texts. -/
import Derived.Test.YtpoahmeacjggfaaQ2
namespace Rw
/-- In order, from place a to place b. -/
def SrtOn (l : List Fld) (a b : Nat) : Prop := ∀ (p q : Nat) (x y : Fld), a ≤ p → p < q → q < b → l[p]? = some x → l[q]? = some y → leN x.name y.name
/-- From place a to place b put otherwise, but name by name as it was; the rest as it was. -/
structure Rng (l k : List Fld) (a b : Nat) : Prop where
  len : k.length = l.length
  out : ∀ j, (j < a ∨ b ≤ j) → k[j]? = l[j]?
  st : StP l k
theorem Rng.refl (l : List Fld) (a b : Nat) : Rng l l a b := ⟨rfl, fun _ _ => rfl, StP.refl l⟩
theorem Rng.trans {l k m : List Fld} {a b : Nat} (h : Rng l k a b) (g : Rng k m a b) : Rng l m a b :=
  ⟨g.len.trans h.len, fun j hj => (g.out j hj).trans (h.out j hj), h.st.trans g.st⟩
theorem Rng.wider {l k : List Fld} {a b a' b' : Nat} (h : Rng l k a b) (ha : a' ≤ a) (hb : b ≤ b') : Rng l k a' b' := ⟨h.len, fun j hj => h.out j (by omega), h.st⟩
theorem two_at {l : List Fld} {j : Nat} (hj : j + 1 < l.length) : l = l.take j ++ ([l[j], l[j + 1]] ++ l.drop (j + 2)) := by
  conv => lhs; rw [← List.take_append_drop j l]
  rw [List.drop_eq_getElem_cons (show j < l.length by omega), List.drop_eq_getElem_cons hj]
  rfl
theorem swap_eq {l : List Fld} {j : Nat} (hj : j + 1 < l.length) : (l.set (j + 1) l[j]).set j l[j + 1] = l.take j ++ ([l[j + 1], l[j]] ++ l.drop (j + 2)) := by
  apply List.ext_getElem?
  intro i
  rw [List.getElem?_set, List.getElem?_set]
  have ht : (l.take j).length = j := by simp; omega
  by_cases h1 : i < j
  · rw [List.getElem?_append_left (by omega), List.getElem?_take]
    simp [h1, show ¬ j = i by omega, show ¬ j + 1 = i by omega]
  · rw [List.getElem?_append_right (by omega), ht]
    by_cases h2 : i = j
    · subst h2; simp [show i < l.length by omega]
    · by_cases h3 : i = j + 1
      · subst h3; simp [show ¬ j = j + 1 by omega, hj]
      · rw [if_neg (by omega), if_neg (by omega), List.getElem?_append_right (by simp; omega), List.getElem?_drop]
        congr 1
        simp
        omega
theorem swap_rng {l : List Fld} {j : Nat} (hj : j + 1 < l.length) (hn : l[j].name ≠ l[j + 1].name) {a b : Nat} (ha : a ≤ j) (hb : j + 1 < b) : Rng l ((l.set (j + 1) l[j]).set j l[j + 1]) a b := by
  refine ⟨by simp, fun i hi => ?_, ?_⟩
  · rw [List.getElem?_set, List.getElem?_set]
    simp [show ¬ j = i by omega, show ¬ j + 1 = i by omega]
  · rw [swap_eq hj]
    conv => lhs; rw [two_at hj]
    exact (StP.refl _).app ((StP.swap hn).app (StP.refl _))
/-- One is on its way forward: from a to i all but number j are in order, and it is ahead of those behind it. -/
structure InsI (l : List Fld) (a i j : Nat) : Prop where
  rest : ∀ (p q : Nat) (x y : Fld), a ≤ p → p < q → q ≤ i → p ≠ j → q ≠ j → l[p]? = some x → l[q]? = some y → leN x.name y.name
  self : ∀ (q : Nat) (x y : Fld), j < q → q ≤ i → l[j]? = some x → l[q]? = some y → leN x.name y.name
theorem ins_start {l : List Fld} {a i : Nat} (h : SrtOn l a i) : InsI l a i i :=
  ⟨fun p q x y hp hpq hq _ hqi hx hy => h p q x y hp hpq (by omega) hx hy, fun q x y h1 h2 => absurd h1 (by omega)⟩
theorem ins_front {l : List Fld} {a i : Nat} (h : InsI l a i a) : SrtOn l a (i + 1) := fun p q x y hp hpq hq hx hy => by
  by_cases e : p = a
  · subst e; exact h.self q x y hpq (by omega) hx hy
  · exact h.rest p q x y hp hpq (by omega) e (by omega) hx hy
theorem ins_stop {l : List Fld} {a i j : Nat} (h : InsI l a i (j + 1)) (ha : a ≤ j) (hi : j + 1 ≤ i) (hj : j + 1 < l.length) (hle : leN l[j].name l[j + 1].name) : SrtOn l a (i + 1) := fun p q x y hp hpq hq hx hy => by
  by_cases e : p = j + 1
  · subst e; exact h.self q x y hpq (by omega) hx hy
  · by_cases e2 : q = j + 1
    · subst e2
      rw [gE hj] at hy
      cases hy
      by_cases e3 : p = j
      · subst e3
        rw [gE (by omega)] at hx
        cases hx; exact hle
      · exact leN_trans (h.rest p j x l[j] hp (by omega) (by omega) e (by omega) hx (gE (by omega))) hle
    · exact h.rest p q x y hp hpq (by omega) e e2 hx hy
theorem swap_get {l : List Fld} {j : Nat} (hj : j + 1 < l.length) (p : Nat) : ((l.set (j + 1) l[j]).set j l[j + 1])[p]? = if p = j then some l[j + 1] else if p = j + 1 then some l[j] else l[p]? := by
  rw [List.getElem?_set, List.getElem?_set]
  by_cases h1 : p = j
  · subst h1; simp [show p < l.length by omega]
  · by_cases h2 : p = j + 1
    · subst h2; simp [hj]
    · simp [h1, h2, show ¬ j = p by omega, show ¬ j + 1 = p by omega]
theorem ins_step {l : List Fld} {a i j : Nat} (h : InsI l a i (j + 1)) (ha : a ≤ j) (hi : j + 1 ≤ i) (hj : j + 1 < l.length) (hlt : cmpN l[j + 1].name l[j].name < 0) : InsI ((l.set (j + 1) l[j]).set j l[j + 1]) a i j := by
  have hjj : l[j]? = some l[j] := gE (by omega)
  have hj1 : l[j + 1]? = some l[j + 1] := gE hj
  refine ⟨fun p q x y hp hpq hq hpj hqj hx hy => ?_, fun q x y hq hqi hx hy => ?_⟩
  · rw [swap_get hj] at hx hy
    rw [if_neg hpj] at hx
    rw [if_neg hqj] at hy
    by_cases e : p = j + 1
    · rw [if_pos e] at hx
      rw [if_neg (by omega)] at hy
      cases hx
      exact h.rest j q _ y (by omega) (by omega) hq (by omega) (by omega) hjj hy
    · rw [if_neg e] at hx
      by_cases e2 : q = j + 1
      · rw [if_pos e2] at hy
        cases hy
        exact h.rest p j x _ hp (by omega) (by omega) e (by omega) hx hjj
      · rw [if_neg e2] at hy
        exact h.rest p q x y hp hpq hq e e2 hx hy
  · rw [swap_get hj] at hx hy
    rw [if_pos rfl] at hx
    rw [if_neg (by omega)] at hy
    cases hx
    by_cases e : q = j + 1
    · rw [if_pos e] at hy
      cases hy
      exact leN_of_lt hlt
    · rw [if_neg e] at hy
      exact h.self q _ y (by omega) hqi hj1 hy
end Rw
namespace Go.Proofs.Ytpoahmeacjggfaa
open Go Rw Go.RowKit
set_option maxRecDepth 100000
theorem cmpstring_run (a b : ByteArray) (w : World) : (callFunc 136 ([.string a, .string b] : List Value).toArray).run Try.prog w = .ok (.value (.int .i64 (Lib.compareBytes a.data.toList b.data.toList))) w := by
 rw [run_callFunc_extern Try.func136 (by kernel_rfl) (by kernel_rfl) (by kernel_rfl) (e := Extern.BytealgCompare.compare) (by kernel_rfl), Lib.run_compareString]
 rfl
theorem compareString_spec (w : World) (a b : ByteArray) :
  Calls Try.prog 124 #[.string a, .string b] w (Ret fun r w' => r = .int .i64 (Lib.compareBytes a.data.toList b.data.toList) ∧ w = w') := by
 refine cN (n := 8) Try.func124 rfl rfl rfl ?_
 refine q0 (lP 1 tK rfl (q1 (q0 (lP 2 tK rfl ?_))))
 refine lC (o_ext rfl (cmpstring_run a b _) rfl rfl ?_)
 refine lP 1 tK rfl (q1 (cR (x1_ rfl rfl ?_)))
 exact ⟨rfl, rfl⟩
theorem compare_spec (w : World) (a b : ByteArray) :
  Calls Try.prog 100 #[.string a, .string b] w (Ret fun r w' => r = .int .i64 (Lib.compareBytes a.data.toList b.data.toList) ∧ w = w') := by
 refine cN (n := 8) Try.func100 rfl rfl rfl ?_
 refine q0 (lP 1 tK rfl (q1 (q0 (lP 2 tK rfl ?_))))
 refine lC (oK fo124 rfl rfl rfl (compareString_spec _ a b) ?_)
 rintro _ _ ⟨rfl, rfl⟩
 refine lP 1 tK rfl (q1 (cR (x1_ rfl rfl ?_)))
 exact ⟨rfl, rfl⟩
theorem byName_spec [TR : TRep] (M : Nat → Prop) (w : World) (x y : Value) (a b : Fld) (ha : Rep.R M w x a) (hb : Rep.R M w y b) (Lw : Low M w) :
  Calls Try.prog 99 #[x, y] w (Ret fun r w' => r = .int .i64 (Lib.compareBytes a.name.data.toList b.name.data.toList) ∧ Ext w w') := by
 have hE := Below.refl w.heap.size w
 have hB := lR w.heap.size
 obtain ⟨sza, kva, rfl, hya⟩ := fldg_open ha
 obtain ⟨szb, kvb, rfl, hyb⟩ := fldg_open hb
 refine cN (n := 10) Try.func99 rfl rfl rfl ?_
 refine q0 ?_
 refine lC (o_box rfl rfl rfl ?_)
 intro b1 w1 hb_b1 ew1 h1
 replace h1 : Box _ b1 32 [.string a.name, .int .u8 a.ty.op, .string a.ty.name, .int .i64 a.ty.n, kva] := h1
 replace h1 := h1.at (nO Lw hb_b1)
 replace hE := ew1.bl hE hB
 replace Lw := Lw.Y ew1
 replace hB := ew1.z hB
 refine lC (o_box rfl rfl rfl ?_)
 intro b2 w2 hb_b2 ew2 h2
 replace h2 : Box _ b2 32 [.string b.name, .int .u8 b.ty.op, .string b.ty.name, .int .i64 b.ty.n, kvb] := h2
 replace h2 := h2.at (nO Lw hb_b2)
 replace hE := ew2.bl hE hB
 replace h1 := h1.Y ew2
 replace Lw := Lw.Y ew2
 replace hB := ew2.z hB
 refine lP 1 tK rfl (q1 (q0 (lP 1 tK rfl ?_)))
 refine lC (oD tK (h1.cell 0 _ rfl) rfl rfl rfl rfl rfl ?_)
 refine lP 1 tK rfl ?_
 refine lC (oD tK (h2.cell 0 _ rfl) rfl rfl rfl rfl rfl ?_)
 refine lC (oK fo100 rfl rfl rfl (compare_spec _ a.name b.name) ?_)
 rintro _ _ ⟨rfl, rfl⟩
 refine lP 1 tK rfl (q1 (cR (x1_ rfl rfl ?_)))
 exact ⟨rfl, hE⟩
theorem insertion_spec [TR : TRep] (M : Nat → Prop) (w : World) (B : Nat) (v : Value) (l : List Fld) (a b : Nat) (hd : OwnSl 32 B M w v l) (hab : a ≤ b) (hb : b ≤ l.length) (hl : l.length < 140737488355328) (Lw : Low M w) (hB : B ≤ w.heap.size) :
  Calls Try.prog 134 #[v, .int .i64 (a : Int), .int .i64 (b : Int), .func (.func 99) #[] #[]] w (Ret fun r w' => r = .tuple #[] ∧ (∃ l', OwnSl 32 B M w' v l' ∧ Rng l l' a b ∧ SrtOn l' a b) ∧ Stp B M M w w' ∧ (∀ x, x < w.heap.size → some x ≠ v.ownBlock → w'.heap[x]? = w.heap[x]?)) := by
 have hT : Stp B M M w w := Stp.refl Lw
 have hF : (∀ x, x < w.heap.size → some x ≠ v.ownBlock → w.heap[x]? = w.heap[x]?) := fun _ _ _ => rfl
 refine cN (n := 53) Try.func134 rfl rfl rfl ?_
 refine q0 (lP 1 tK rfl ?_)
 refine lC (o_ai rfl rfl rfl (by omega) rfl rfl ?_)
 refine lP 1 tK rfl (q1 (cB ?_))
 refine c_loop2 (X := Nat) (Y := List Fld) (fun i l' => [(0, v), (1, .int .i64 (a : Int)), (2, .int .i64 (b : Int)), (3, .func (.func 99) #[] #[]), (8, .int .i64 (i : Nat))]) (fun i l' w' => a + 1 ≤ i ∧ (i ≤ b ∨ i = a + 1) ∧ SrtOn l' a i ∧ OwnSl 32 B M w' v l' ∧ Rng l l' a b ∧ Low M w' ∧ B ≤ w'.heap.size ∧ Stp B M M w w' ∧ (∀ x, x < w.heap.size → some x ≠ (v : Value).ownBlock → w'.heap[x]? = w.heap[x]?)) (fun i l' => b + 1 - i) (a + 1) (l) (s5 rfl rfl rfl rfl (gN rfl (by omega))) ?_ ?_
 ·exact ⟨lR _, .inr rfl, fun p q x y hp hpq hq => by omega, hd, Rng.refl _ _ _, Lw, hB, hT, hF⟩
 rintro i l2 w1 ⟨hi, hib, hso, hd, hrg, Lw, hB, hT, hF⟩
 refine cS (q0 (lP 3 tK rfl (q1 ?_)))
 refine cP _ rfl (fun c1 => ?_) (fun c1 => ?_)
 ·refine cK (xS (cS (cB (q0 (lP 2 tK rfl (q1 (cB ?_)))))))
  have hin : i < b := by omega
  have hlen := hrg.len
  refine c_loop2 (X := Nat) (Y := List Fld) (fun j l' => [(0, v), (1, .int .i64 (a : Int)), (2, .int .i64 (b : Int)), (3, .func (.func 99) #[] #[]), (8, .int .i64 (i : Nat)), (9, .int .i64 (j : Nat))]) (fun j l' w' => a ≤ j ∧ j ≤ i ∧ InsI l' a i j ∧ OwnSl 32 B M w' v l' ∧ Rng l l' a b ∧ Low M w' ∧ B ≤ w'.heap.size ∧ Stp B M M w w' ∧ (∀ x, x < w.heap.size → some x ≠ (v : Value).ownBlock → w'.heap[x]? = w.heap[x]?)) (fun j l' => j) (i) (l2) (s6 rfl rfl rfl rfl rfl rfl) ?_ ?_
  ·exact ⟨by omega, lR _, ins_start hso, hd, hrg, Lw, hB, hT, hF⟩
  rintro j l3 w2 ⟨haj, hji, hins, hd, hrg, Lw, hB, hT, hF⟩
  refine cS (cS ?_)
  refine a_beg (fun _ _ => True) rfl ?_
  intro w3 ew3
  replace hF : ∀ x, x < w.heap.size → some x ≠ (v : Value).ownBlock → w3.heap[x]? = w.heap[x]? := fun x hx hn => (ew3.block x (lT hx hT.upd.1)).trans (hF x hx hn)
  replace hT := hT.then (Stp.Y ew3 Lw hB)
  replace hd := hd.Y Lw hB ew3
  replace Lw := Lw.Y ew3
  replace hB := ew3.z hB
  have hS : True := trivial
  refine a_p 0 tK rfl rfl rfl rfl (by kernel_rfl) i3 hS ?_
  refine a_p 1 tK rfl rfl rfl rfl (by kernel_rfl) i3 hS ?_
  refine a_p 2 tK rfl rfl rfl rfl (by kernel_rfl) i3 hS ?_
  refine a_p 3 tK rfl rfl rfl rfl (by kernel_rfl) i3 hS ?_
  refine a_splitP 21 _ rfl (fun cj => ?_) (fun cj => ?_)
  ·obtain ⟨j0, rfl⟩ : ∃ j0, j = j0 + 1 := ⟨j - 1, by omega⟩
   have hlen3 := hrg.len
   have hj1 : j0 + 1 < l3.length := by omega
   have hj0 : j0 < l3.length := by omega
   refine a_p 4 tK rfl rfl rfl rfl (by kernel_rfl) i3 hS ?_
   refine a_p 5 tK rfl rfl rfl rfl (by kernel_rfl) i3 hS ?_
   refine a_p 6 tK rfl rfl rfl rfl (by kernel_rfl) i3 hS ?_
   refine a_ixO 7 tK hd (gE hj1) rfl rfl rfl (by omega) rfl rfl rfl rfl rfl rfl (by kernel_rfl) i4 hS ?_
   intro ibq1 iuq1 hobq1 hrq1 hatq1
   obtain ⟨szq1, kvq1, rfl, hyq1⟩ := fldg_open hrq1
   replace hatq1 : OAt _ _ _ [.string l3[j0 + 1].name, .int .u8 l3[j0 + 1].ty.op, .string l3[j0 + 1].ty.name, .int .i64 l3[j0 + 1].ty.n, kvq1] := hatq1
   refine a_p 9 tK rfl rfl rfl rfl (by kernel_rfl) i3 hS ?_
   refine a_p 10 tK rfl rfl rfl rfl (by kernel_rfl) i3 hS ?_
   refine a_ar 11 rfl rfl rfl rfl (IntWalk.i64_in _ (by omega)) rfl rfl (by kernel_rfl) i3 hS ?_
   refine a_ixO 12 tK hd (gE hj0) rfl rfl rfl (by omega) rfl rfl rfl rfl rfl rfl (by kernel_rfl) i4 hS ?_
   intro ibq2 iuq2 hobq2 hrq2 hatq2
   obtain ⟨szq2, kvq2, rfl, hyq2⟩ := fldg_open hrq2
   replace hatq2 : OAt _ _ _ [.string l3[j0].name, .int .u8 l3[j0].ty.op, .string l3[j0].ty.name, .int .i64 l3[j0].ty.n, kvq2] := hatq2
   refine a_all [8, 13] (by kernel_rfl) rfl (all_cons (i := 8) rfl ?_ (all_cons (i := 13) rfl ?_ all_nil))
   ·refine oL tK (fun j v hv => hatq1.cell j v hv) rfl rfl rfl rfl rfl rfl ?_
    refine ⟨hS, ?_⟩
    refine a_one 13 rfl (by kernel_rfl) (oL tK (fun j v hv => hatq2.cell j v hv) rfl rfl rfl rfl rfl rfl ?_)
    refine ⟨hS, ?_⟩
    refine a_one 14 rfl (by kernel_rfl) (o_dyn rfl fo99 rfl rfl rfl (byName_spec M _ _ _ _ _ hrq1 hrq2 Lw) ?_)
    rintro _ w4 ⟨rfl, ew4⟩
    replace hF : ∀ x, x < w.heap.size → some x ≠ (v : Value).ownBlock → w4.heap[x]? = w.heap[x]? := fun x hx hn => (ew4.block x (lT hx hT.upd.1)).trans (hF x hx hn)
    replace hT := hT.then (Stp.Y ew4 Lw hB)
    replace hd := hd.Y Lw hB ew4
    replace hrq1 := Rep.Y hrq1 ew4
    replace hrq2 := Rep.Y hrq2 ew4
    replace Lw := Lw.Y ew4
    replace hB := ew4.z hB
    refine ⟨hS, ?_⟩
    refine a_p 15 tK rfl rfl rfl rfl (by kernel_rfl) i3 hS ?_
    refine a_p 16 tK rfl rfl rfl rfl (by kernel_rfl) i3 hS ?_
    refine a_end (by kernel_rfl) ?_
    refine xS ?_
    refine cP _ rfl (fun hlt => ?_) (fun hlt => ?_)
    ·have hne : l3[j0].name ≠ l3[j0 + 1].name := fun e => by rw [e] at hlt; exact absurd hlt (by rw [cmpB_refl]; decide)
     refine cK (xS (cS (cB ?_)))
     refine a_beg (fun _ _ => True) rfl ?_
     intro w5 ew5
     replace hF : ∀ x, x < w.heap.size → some x ≠ (v : Value).ownBlock → w5.heap[x]? = w.heap[x]? := fun x hx hn => (ew5.block x (lT hx hT.upd.1)).trans (hF x hx hn)
     replace hT := hT.then (Stp.Y ew5 Lw hB)
     replace hd := hd.Y Lw hB ew5
     replace hrq1 := Rep.Y hrq1 ew5
     replace hrq2 := Rep.Y hrq2 ew5
     replace Lw := Lw.Y ew5
     replace hB := ew5.z hB
     have hS : True := trivial
     refine a_p 0 tK rfl rfl rfl rfl (by kernel_rfl) i3 hS ?_
     refine a_p 1 tK rfl rfl rfl rfl (by kernel_rfl) i3 hS ?_
     refine a_p 2 tK rfl rfl rfl rfl (by kernel_rfl) i3 hS ?_
     refine a_p 3 tK rfl rfl rfl rfl (by kernel_rfl) i3 hS ?_
     refine a_ar 4 rfl rfl rfl rfl (IntWalk.i64_in _ (by omega)) rfl rfl (by kernel_rfl) i3 hS ?_
     refine a_p 5 tK rfl rfl rfl rfl (by kernel_rfl) i3 hS ?_
     refine a_p 6 tK rfl rfl rfl rfl (by kernel_rfl) i3 hS ?_
     refine a_ar 7 rfl rfl rfl rfl (IntWalk.i64_in _ (by omega)) rfl rfl (by kernel_rfl) i3 hS ?_
     refine a_ixO 8 tK hd (gE hj0) rfl rfl rfl (by omega) rfl rfl rfl rfl rfl rfl (by kernel_rfl) i4 hS ?_
     intro ibq3 iuq3 hobq3 hrq3 hatq3
     obtain ⟨szq3, kvq3, rfl, hyq3⟩ := fldg_open hrq3
     replace hatq3 : OAt _ _ _ [.string l3[j0].name, .int .u8 l3[j0].ty.op, .string l3[j0].ty.name, .int .i64 l3[j0].ty.n, kvq3] := hatq3
     refine a_p 10 tK rfl rfl rfl rfl (by kernel_rfl) i3 hS ?_
     refine a_p 11 tK rfl rfl rfl rfl (by kernel_rfl) i3 hS ?_
     refine a_ixO 12 tK hd (gE hj1) rfl rfl rfl (by omega) rfl rfl rfl rfl rfl rfl (by kernel_rfl) i4 hS ?_
     intro ibq4 iuq4 hobq4 hrq4 hatq4
     obtain ⟨szq4, kvq4, rfl, hyq4⟩ := fldg_open hrq4
     replace hatq4 : OAt _ _ _ [.string l3[j0 + 1].name, .int .u8 l3[j0 + 1].ty.op, .string l3[j0 + 1].ty.name, .int .i64 l3[j0 + 1].ty.n, kvq4] := hatq4
     refine a_all [9, 13] (by kernel_rfl) rfl (all_cons (i := 9) rfl ?_ (all_cons (i := 13) rfl ?_ all_nil))
     ·refine oL tK (fun j v hv => hatq3.cell j v hv) rfl rfl rfl rfl rfl rfl ?_
      refine ⟨hS, ?_⟩
      refine a_one 13 rfl (by kernel_rfl) (oL tK (fun j v hv => hatq4.cell j v hv) rfl rfl rfl rfl rfl rfl ?_)
      refine ⟨hS, ?_⟩
      refine a_ixO 14 tK hd (gE hj1) rfl rfl rfl (by omega) rfl rfl rfl rfl rfl rfl (by kernel_rfl) i4 hS ?_
      intro ibq5 iuq5 hobq5 hrq5 hatq5
      obtain ⟨szq5, kvq5, rfl, hyq5⟩ := fldg_open hrq5
      replace hatq5 : OAt _ _ _ [.string l3[j0 + 1].name, .int .u8 l3[j0 + 1].ty.op, .string l3[j0 + 1].ty.name, .int .i64 l3[j0 + 1].ty.n, kvq5] := hatq5
      refine a_one 15 rfl (by kernel_rfl) (o_stO tK hd hobq5 (by first | omega | (simp; omega)) hrq3 Lw rfl rfl rfl rfl rfl rfl ?_)
      intro w6 hw6 sw6 frw6
      replace hF : ∀ x, x < w.heap.size → some x ≠ (v : Value).ownBlock → w6.heap[x]? = w.heap[x]? := fun x hx hn => (frw6 x (lT hx hT.upd.1) (fun e => hn (by rw [hobq5, e]))).trans (hF x hx hn)
      replace hT := hT.then sw6
      replace hrq1 := Rep.sp hrq1 sw6
      replace hrq2 := Rep.sp hrq2 sw6
      replace hrq3 := Rep.sp hrq3 sw6
      replace hrq4 := Rep.sp hrq4 sw6
      replace hrq5 := Rep.sp hrq5 sw6
      replace Lw := sw6.low
      replace hB := sw6.z hB
      refine ⟨hS, ?_⟩
      replace hd := hw6
      clear hw6
      refine a_ixO 16 tK hd (gE (by simpa using hj0)) rfl rfl rfl (by omega) rfl rfl rfl rfl rfl rfl (by kernel_rfl) i4 hS ?_
      intro ibq6 iuq6 hobq6 hrq6 hatq6
      refine a_one 17 rfl (by kernel_rfl) (o_stO tK hd hobq6 (by first | omega | (simp; omega)) hrq4 Lw rfl rfl rfl rfl rfl rfl ?_)
      intro w7 hw7 sw7 frw7
      replace hF : ∀ x, x < w.heap.size → some x ≠ (v : Value).ownBlock → w7.heap[x]? = w.heap[x]? := fun x hx hn => (frw7 x (lT hx hT.upd.1) (fun e => hn (by rw [hobq6, e]))).trans (hF x hx hn)
      replace hT := hT.then sw7
      replace hrq1 := Rep.sp hrq1 sw7
      replace hrq2 := Rep.sp hrq2 sw7
      replace hrq3 := Rep.sp hrq3 sw7
      replace hrq4 := Rep.sp hrq4 sw7
      replace hrq5 := Rep.sp hrq5 sw7
      replace Lw := sw7.low
      replace hB := sw7.z hB
      refine ⟨hS, ?_⟩
      replace hd := hw7
      clear hw7
      refine a_end (by kernel_rfl) ?_
      refine x_blk (xS (cG (lP 1 tK rfl ?_)))
      refine lC (o_ai rfl rfl rfl (by omega) rfl rfl ?_)
      refine lP 1 tK rfl (lN ?_)
      exact xN (j0) (((l3.set (j0 + 1) l3[j0]).set j0 l3[j0 + 1])) (s6 rfl rfl rfl rfl rfl (gN rfl (by omega))) ⟨by omega, by omega, ins_step hins (by omega) (by omega) hj1 hlt, hd, hrg.trans (swap_rng hj1 hne (by omega) (by omega)), Lw, hB, hT, hF⟩ (by omega)
     refine oL tK (fun j v hv => hatq4.cell j v hv) rfl rfl rfl rfl rfl rfl ?_
     refine ⟨hS, ?_⟩
     refine a_one 9 rfl (by kernel_rfl) (oL tK (fun j v hv => hatq3.cell j v hv) rfl rfl rfl rfl rfl rfl ?_)
     refine ⟨hS, ?_⟩
     refine a_ixO 14 tK hd (gE (by simpa using hj1)) rfl rfl rfl (by omega) rfl rfl rfl rfl rfl rfl (by kernel_rfl) i4 hS ?_
     intro ibq7 iuq7 hobq7 hrq7 hatq7
     refine a_one 15 rfl (by kernel_rfl) (o_stO tK hd hobq7 (by first | omega | (simp; omega)) hrq3 Lw rfl rfl rfl rfl rfl rfl ?_)
     intro w8 hw8 sw8 frw8
     replace hF : ∀ x, x < w.heap.size → some x ≠ (v : Value).ownBlock → w8.heap[x]? = w.heap[x]? := fun x hx hn => (frw8 x (lT hx hT.upd.1) (fun e => hn (by rw [hobq7, e]))).trans (hF x hx hn)
     replace hT := hT.then sw8
     replace hrq1 := Rep.sp hrq1 sw8
     replace hrq2 := Rep.sp hrq2 sw8
     replace hrq3 := Rep.sp hrq3 sw8
     replace hrq4 := Rep.sp hrq4 sw8
     replace Lw := sw8.low
     replace hB := sw8.z hB
     refine ⟨hS, ?_⟩
     replace hd := hw8
     clear hw8
     refine a_ixO 16 tK hd (gE (by simpa using hj0)) rfl rfl rfl (by omega) rfl rfl rfl rfl rfl rfl (by kernel_rfl) i4 hS ?_
     intro ibq8 iuq8 hobq8 hrq8 hatq8
     refine a_one 17 rfl (by kernel_rfl) (o_stO tK hd hobq8 (by first | omega | (simp; omega)) hrq4 Lw rfl rfl rfl rfl rfl rfl ?_)
     intro w9 hw9 sw9 frw9
     replace hF : ∀ x, x < w.heap.size → some x ≠ (v : Value).ownBlock → w9.heap[x]? = w.heap[x]? := fun x hx hn => (frw9 x (lT hx hT.upd.1) (fun e => hn (by rw [hobq8, e]))).trans (hF x hx hn)
     replace hT := hT.then sw9
     replace hrq1 := Rep.sp hrq1 sw9
     replace hrq2 := Rep.sp hrq2 sw9
     replace hrq3 := Rep.sp hrq3 sw9
     replace hrq4 := Rep.sp hrq4 sw9
     replace Lw := sw9.low
     replace hB := sw9.z hB
     refine ⟨hS, ?_⟩
     replace hd := hw9
     clear hw9
     refine a_end (by kernel_rfl) ?_
     refine x_blk (xS (cG (lP 1 tK rfl ?_)))
     refine lC (o_ai rfl rfl rfl (by omega) rfl rfl ?_)
     refine lP 1 tK rfl (lN ?_)
     exact xN (j0) (((l3.set (j0 + 1) l3[j0]).set j0 l3[j0 + 1])) (s6 rfl rfl rfl rfl rfl (gN rfl (by omega))) ⟨by omega, by omega, ins_step hins (by omega) (by omega) hj1 hlt, hd, hrg.trans (swap_rng hj1 hne (by omega) (by omega)), Lw, hB, hT, hF⟩ (by omega)
    have hsn := ins_stop hins (by omega) (by omega) hj1 hlt
    refine c_exit (xE (xE (x_blkE (x_blk (xS (cG (lP 1 tK rfl ?_)))))))
    refine lC (o_ai rfl rfl rfl (by omega) rfl rfl ?_)
    refine lP 1 tK rfl (lN ?_)
    exact xN (i + 1) (l3) (s5 rfl rfl rfl rfl rfl) ⟨by omega, by omega, hsn, hd, hrg, Lw, hB, hT, hF⟩ (by omega)
   refine oL tK (fun j v hv => hatq2.cell j v hv) rfl rfl rfl rfl rfl rfl ?_
   refine ⟨hS, ?_⟩
   refine a_one 8 rfl (by kernel_rfl) (oL tK (fun j v hv => hatq1.cell j v hv) rfl rfl rfl rfl rfl rfl ?_)
   refine ⟨hS, ?_⟩
   refine a_one 14 rfl (by kernel_rfl) (o_dyn rfl fo99 rfl rfl rfl (byName_spec M _ _ _ _ _ hrq1 hrq2 Lw) ?_)
   rintro _ w10 ⟨rfl, ew10⟩
   replace hF : ∀ x, x < w.heap.size → some x ≠ (v : Value).ownBlock → w10.heap[x]? = w.heap[x]? := fun x hx hn => (ew10.block x (lT hx hT.upd.1)).trans (hF x hx hn)
   replace hT := hT.then (Stp.Y ew10 Lw hB)
   replace hd := hd.Y Lw hB ew10
   replace hrq1 := Rep.Y hrq1 ew10
   replace hrq2 := Rep.Y hrq2 ew10
   replace Lw := Lw.Y ew10
   replace hB := ew10.z hB
   refine ⟨hS, ?_⟩
   refine a_p 15 tK rfl rfl rfl rfl (by kernel_rfl) i3 hS ?_
   refine a_p 16 tK rfl rfl rfl rfl (by kernel_rfl) i3 hS ?_
   refine a_end (by kernel_rfl) ?_
   refine xS ?_
   refine cP _ rfl (fun hlt => ?_) (fun hlt => ?_)
   ·have hne : l3[j0].name ≠ l3[j0 + 1].name := fun e => by rw [e] at hlt; exact absurd hlt (by rw [cmpB_refl]; decide)
    refine cK (xS (cS (cB ?_)))
    refine a_beg (fun _ _ => True) rfl ?_
    intro w11 ew11
    replace hF : ∀ x, x < w.heap.size → some x ≠ (v : Value).ownBlock → w11.heap[x]? = w.heap[x]? := fun x hx hn => (ew11.block x (lT hx hT.upd.1)).trans (hF x hx hn)
    replace hT := hT.then (Stp.Y ew11 Lw hB)
    replace hd := hd.Y Lw hB ew11
    replace hrq1 := Rep.Y hrq1 ew11
    replace hrq2 := Rep.Y hrq2 ew11
    replace Lw := Lw.Y ew11
    replace hB := ew11.z hB
    have hS : True := trivial
    refine a_p 0 tK rfl rfl rfl rfl (by kernel_rfl) i3 hS ?_
    refine a_p 1 tK rfl rfl rfl rfl (by kernel_rfl) i3 hS ?_
    refine a_p 2 tK rfl rfl rfl rfl (by kernel_rfl) i3 hS ?_
    refine a_p 3 tK rfl rfl rfl rfl (by kernel_rfl) i3 hS ?_
    refine a_ar 4 rfl rfl rfl rfl (IntWalk.i64_in _ (by omega)) rfl rfl (by kernel_rfl) i3 hS ?_
    refine a_p 5 tK rfl rfl rfl rfl (by kernel_rfl) i3 hS ?_
    refine a_p 6 tK rfl rfl rfl rfl (by kernel_rfl) i3 hS ?_
    refine a_ar 7 rfl rfl rfl rfl (IntWalk.i64_in _ (by omega)) rfl rfl (by kernel_rfl) i3 hS ?_
    refine a_ixO 8 tK hd (gE hj0) rfl rfl rfl (by omega) rfl rfl rfl rfl rfl rfl (by kernel_rfl) i4 hS ?_
    intro ibq9 iuq9 hobq9 hrq9 hatq9
    obtain ⟨szq9, kvq9, rfl, hyq9⟩ := fldg_open hrq9
    replace hatq9 : OAt _ _ _ [.string l3[j0].name, .int .u8 l3[j0].ty.op, .string l3[j0].ty.name, .int .i64 l3[j0].ty.n, kvq9] := hatq9
    refine a_p 10 tK rfl rfl rfl rfl (by kernel_rfl) i3 hS ?_
    refine a_p 11 tK rfl rfl rfl rfl (by kernel_rfl) i3 hS ?_
    refine a_ixO 12 tK hd (gE hj1) rfl rfl rfl (by omega) rfl rfl rfl rfl rfl rfl (by kernel_rfl) i4 hS ?_
    intro ibq10 iuq10 hobq10 hrq10 hatq10
    obtain ⟨szq10, kvq10, rfl, hyq10⟩ := fldg_open hrq10
    replace hatq10 : OAt _ _ _ [.string l3[j0 + 1].name, .int .u8 l3[j0 + 1].ty.op, .string l3[j0 + 1].ty.name, .int .i64 l3[j0 + 1].ty.n, kvq10] := hatq10
    refine a_all [9, 13] (by kernel_rfl) rfl (all_cons (i := 9) rfl ?_ (all_cons (i := 13) rfl ?_ all_nil))
    ·refine oL tK (fun j v hv => hatq9.cell j v hv) rfl rfl rfl rfl rfl rfl ?_
     refine ⟨hS, ?_⟩
     refine a_one 13 rfl (by kernel_rfl) (oL tK (fun j v hv => hatq10.cell j v hv) rfl rfl rfl rfl rfl rfl ?_)
     refine ⟨hS, ?_⟩
     refine a_ixO 14 tK hd (gE hj1) rfl rfl rfl (by omega) rfl rfl rfl rfl rfl rfl (by kernel_rfl) i4 hS ?_
     intro ibq11 iuq11 hobq11 hrq11 hatq11
     obtain ⟨szq11, kvq11, rfl, hyq11⟩ := fldg_open hrq11
     replace hatq11 : OAt _ _ _ [.string l3[j0 + 1].name, .int .u8 l3[j0 + 1].ty.op, .string l3[j0 + 1].ty.name, .int .i64 l3[j0 + 1].ty.n, kvq11] := hatq11
     refine a_one 15 rfl (by kernel_rfl) (o_stO tK hd hobq11 (by first | omega | (simp; omega)) hrq9 Lw rfl rfl rfl rfl rfl rfl ?_)
     intro w12 hw12 sw12 frw12
     replace hF : ∀ x, x < w.heap.size → some x ≠ (v : Value).ownBlock → w12.heap[x]? = w.heap[x]? := fun x hx hn => (frw12 x (lT hx hT.upd.1) (fun e => hn (by rw [hobq11, e]))).trans (hF x hx hn)
     replace hT := hT.then sw12
     replace hrq1 := Rep.sp hrq1 sw12
     replace hrq2 := Rep.sp hrq2 sw12
     replace hrq9 := Rep.sp hrq9 sw12
     replace hrq10 := Rep.sp hrq10 sw12
     replace hrq11 := Rep.sp hrq11 sw12
     replace Lw := sw12.low
     replace hB := sw12.z hB
     refine ⟨hS, ?_⟩
     replace hd := hw12
     clear hw12
     refine a_ixO 16 tK hd (gE (by simpa using hj0)) rfl rfl rfl (by omega) rfl rfl rfl rfl rfl rfl (by kernel_rfl) i4 hS ?_
     intro ibq12 iuq12 hobq12 hrq12 hatq12
     refine a_one 17 rfl (by kernel_rfl) (o_stO tK hd hobq12 (by first | omega | (simp; omega)) hrq10 Lw rfl rfl rfl rfl rfl rfl ?_)
     intro w13 hw13 sw13 frw13
     replace hF : ∀ x, x < w.heap.size → some x ≠ (v : Value).ownBlock → w13.heap[x]? = w.heap[x]? := fun x hx hn => (frw13 x (lT hx hT.upd.1) (fun e => hn (by rw [hobq12, e]))).trans (hF x hx hn)
     replace hT := hT.then sw13
     replace hrq1 := Rep.sp hrq1 sw13
     replace hrq2 := Rep.sp hrq2 sw13
     replace hrq9 := Rep.sp hrq9 sw13
     replace hrq10 := Rep.sp hrq10 sw13
     replace hrq11 := Rep.sp hrq11 sw13
     replace Lw := sw13.low
     replace hB := sw13.z hB
     refine ⟨hS, ?_⟩
     replace hd := hw13
     clear hw13
     refine a_end (by kernel_rfl) ?_
     refine x_blk (xS (cG (lP 1 tK rfl ?_)))
     refine lC (o_ai rfl rfl rfl (by omega) rfl rfl ?_)
     refine lP 1 tK rfl (lN ?_)
     exact xN (j0) (((l3.set (j0 + 1) l3[j0]).set j0 l3[j0 + 1])) (s6 rfl rfl rfl rfl rfl (gN rfl (by omega))) ⟨by omega, by omega, ins_step hins (by omega) (by omega) hj1 hlt, hd, hrg.trans (swap_rng hj1 hne (by omega) (by omega)), Lw, hB, hT, hF⟩ (by omega)
    refine oL tK (fun j v hv => hatq10.cell j v hv) rfl rfl rfl rfl rfl rfl ?_
    refine ⟨hS, ?_⟩
    refine a_one 9 rfl (by kernel_rfl) (oL tK (fun j v hv => hatq9.cell j v hv) rfl rfl rfl rfl rfl rfl ?_)
    refine ⟨hS, ?_⟩
    refine a_ixO 14 tK hd (gE (by simpa using hj1)) rfl rfl rfl (by omega) rfl rfl rfl rfl rfl rfl (by kernel_rfl) i4 hS ?_
    intro ibq13 iuq13 hobq13 hrq13 hatq13
    refine a_one 15 rfl (by kernel_rfl) (o_stO tK hd hobq13 (by first | omega | (simp; omega)) hrq9 Lw rfl rfl rfl rfl rfl rfl ?_)
    intro w14 hw14 sw14 frw14
    replace hF : ∀ x, x < w.heap.size → some x ≠ (v : Value).ownBlock → w14.heap[x]? = w.heap[x]? := fun x hx hn => (frw14 x (lT hx hT.upd.1) (fun e => hn (by rw [hobq13, e]))).trans (hF x hx hn)
    replace hT := hT.then sw14
    replace hrq1 := Rep.sp hrq1 sw14
    replace hrq2 := Rep.sp hrq2 sw14
    replace hrq9 := Rep.sp hrq9 sw14
    replace hrq10 := Rep.sp hrq10 sw14
    replace Lw := sw14.low
    replace hB := sw14.z hB
    refine ⟨hS, ?_⟩
    replace hd := hw14
    clear hw14
    refine a_ixO 16 tK hd (gE (by simpa using hj0)) rfl rfl rfl (by omega) rfl rfl rfl rfl rfl rfl (by kernel_rfl) i4 hS ?_
    intro ibq14 iuq14 hobq14 hrq14 hatq14
    refine a_one 17 rfl (by kernel_rfl) (o_stO tK hd hobq14 (by first | omega | (simp; omega)) hrq10 Lw rfl rfl rfl rfl rfl rfl ?_)
    intro w15 hw15 sw15 frw15
    replace hF : ∀ x, x < w.heap.size → some x ≠ (v : Value).ownBlock → w15.heap[x]? = w.heap[x]? := fun x hx hn => (frw15 x (lT hx hT.upd.1) (fun e => hn (by rw [hobq14, e]))).trans (hF x hx hn)
    replace hT := hT.then sw15
    replace hrq1 := Rep.sp hrq1 sw15
    replace hrq2 := Rep.sp hrq2 sw15
    replace hrq9 := Rep.sp hrq9 sw15
    replace hrq10 := Rep.sp hrq10 sw15
    replace Lw := sw15.low
    replace hB := sw15.z hB
    refine ⟨hS, ?_⟩
    replace hd := hw15
    clear hw15
    refine a_end (by kernel_rfl) ?_
    refine x_blk (xS (cG (lP 1 tK rfl ?_)))
    refine lC (o_ai rfl rfl rfl (by omega) rfl rfl ?_)
    refine lP 1 tK rfl (lN ?_)
    exact xN (j0) (((l3.set (j0 + 1) l3[j0]).set j0 l3[j0 + 1])) (s6 rfl rfl rfl rfl rfl (gN rfl (by omega))) ⟨by omega, by omega, ins_step hins (by omega) (by omega) hj1 hlt, hd, hrg.trans (swap_rng hj1 hne (by omega) (by omega)), Lw, hB, hT, hF⟩ (by omega)
   have hsn := ins_stop hins (by omega) (by omega) hj1 hlt
   refine c_exit (xE (xE (x_blkE (x_blk (xS (cG (lP 1 tK rfl ?_)))))))
   refine lC (o_ai rfl rfl rfl (by omega) rfl rfl ?_)
   refine lP 1 tK rfl (lN ?_)
   exact xN (i + 1) (l3) (s5 rfl rfl rfl rfl rfl) ⟨by omega, by omega, hsn, hd, hrg, Lw, hB, hT, hF⟩ (by omega)
  obtain rfl : j = a := by omega
  have hsn := ins_front hins
  refine aK 4 rfl rfl rfl (by kernel_rfl) i3 hS ?_
  refine aK 5 rfl rfl rfl (by kernel_rfl) i3 hS ?_
  refine aK 6 rfl rfl rfl (by kernel_rfl) i3 hS ?_
  refine aK 7 rfl rfl rfl (by kernel_rfl) i3 hS ?_
  refine aK 8 rfl rfl rfl (by kernel_rfl) i3 hS ?_
  refine aK 9 rfl rfl rfl (by kernel_rfl) i3 hS ?_
  refine aK 10 rfl rfl rfl (by kernel_rfl) i3 hS ?_
  refine aK 11 rfl rfl rfl (by kernel_rfl) i3 hS ?_
  refine aK 12 rfl rfl rfl (by kernel_rfl) i3 hS ?_
  refine aK 13 rfl rfl rfl (by kernel_rfl) i3 hS ?_
  refine aK 14 rfl rfl rfl (by kernel_rfl) i3 hS ?_
  refine aK 15 rfl rfl rfl (by kernel_rfl) i3 hS ?_
  refine a_p 16 tK rfl rfl rfl rfl (by kernel_rfl) i3 hS ?_
  refine a_end (by kernel_rfl) ?_
  refine xS (c_ifF rfl (c_exit (xE (xE (x_blkE (x_blk (xS (cG (lP 1 tK rfl ?_)))))))))
  refine lC (o_ai rfl rfl rfl (by omega) rfl rfl ?_)
  refine lP 1 tK rfl (lN ?_)
  exact xN (i + 1) (l3) (s5 rfl rfl rfl rfl rfl) ⟨by omega, by omega, hsn, hd, hrg, Lw, hB, hT, hF⟩ (by omega)
 refine c_exit (xE (xE (x_blkE ?_)))
 refine x_ret0n rfl ?_
 exact ⟨rfl, ⟨l2, hd, hrg, fun p q x y hp hpq hq => hso p q x y hp hpq (by omega)⟩, hT, hF⟩
end Go.Proofs.Ytpoahmeacjggfaa
namespace Rw
/-! ## One thing moved forward, or back, to its place among those in order -/
/-- It stands at place k and goes up: behind it up to i are lesser ones. -/
structure RunF (l : List Fld) (a k i b : Nat) : Prop where
  rest : ∀ (p q : Nat) (x y : Fld), a ≤ p → p < q → q < b → p ≠ k → q ≠ k → l[p]? = some x → l[q]? = some y → leN x.name y.name
  lo : ∀ (p : Nat) (x y : Fld), a ≤ p → p < k → l[p]? = some x → l[k]? = some y → leN x.name y.name
  mid : ∀ (q : Nat) (x y : Fld), k < q → q < i → l[k]? = some x → l[q]? = some y → cmpN y.name x.name < 0
  hi : ∀ (q : Nat) (x y : Fld), k < q → i ≤ q → q < b → l[k]? = some x → l[q]? = some y → leN x.name y.name
theorem cmpN_lt_of_le_lt {a b c : ByteArray} (h : leN a b) (k : cmpN b c < 0) : cmpN a c < 0 := by
  by_cases e : a = b
  · subst e; exact k
  · unfold leN at h
    have h1 : cmpN a b ≠ 0 := fun e' => e (cmpN_eq.1 e')
    have h2 := cmpN_flip a b
    exact cmpB_trans (b := b.data.toList) (by show cmpN a b < 0; omega) k
theorem cmpN_lt_of_lt_le {a b c : ByteArray} (h : cmpN a b < 0) (k : leN b c) : cmpN a c < 0 := by
  by_cases e : b = c
  · subst e; exact h
  · unfold leN at k
    have h1 : cmpN b c ≠ 0 := fun e' => e (cmpN_eq.1 e')
    have h2 := cmpN_flip b c
    exact cmpB_trans (b := b.data.toList) h (by show cmpN b c < 0; omega)
theorem leN_of_nlt {a b : ByteArray} (h : ¬ cmpN b a < 0) : leN a b := h
theorem runF_start {l : List Fld} {a b i : Nat} (hs : SrtOn l (a + 1) b) (hb : b ≤ l.length) (hab : a < b) (hi : a + 1 ≤ i) (hib : i ≤ b)
    (hl : ∀ x y, a + 1 < i → l[i - 1]? = some x → l[a]? = some y → cmpN x.name y.name < 0)
    (hr : ∀ x y, i < b → l[i]? = some x → l[a]? = some y → leN y.name x.name) : RunF l a a i b := by
  refine ⟨fun p q x y hp hpq hq hpa _ hx hy => hs p q x y (by omega) hpq hq hx hy, fun p x y hp hk => absurd hk (by omega), fun q x y hk hq hx hy => ?_, fun q x y hk hiq hq hx hy => ?_⟩
  · by_cases e : q = i - 1
    · subst e; exact hl y x (by omega) hy hx
    · have hlt : i - 1 < l.length := by omega
      exact cmpN_lt_of_le_lt (hs q (i - 1) y _ (by omega) (by omega) (by omega) hy (gE hlt)) (hl _ x (by omega) (gE hlt) hx)
  · by_cases e : q = i
    · subst e; exact hr y x (by omega) hy hx
    · have hlt : i < l.length := by omega
      exact leN_trans (hr _ x (by omega) (gE hlt) hx) (hs i q _ y (by omega) (by omega) hq (gE hlt) hy)
theorem runF_step {l : List Fld} {a k i b : Nat} (h : RunF l a k i b) (hk : k + 1 < i) (ha : a ≤ k) (hib : i ≤ b) (hj : k + 1 < l.length) : RunF ((l.set (k + 1) l[k]).set k l[k + 1]) a (k + 1) i b := by
  have hkk : l[k]? = some l[k] := gE (by omega)
  have hk1 : l[k + 1]? = some l[k + 1] := gE hj
  refine ⟨fun p q x y hp hpq hq hpk hqk hx hy => ?_, fun p x y hp hpk hx hy => ?_, fun q x y hkq hq hx hy => ?_, fun q x y hkq hiq hq hx hy => ?_⟩
  · rw [swap_get hj] at hx hy
    rw [if_neg hpk] at hx
    rw [if_neg hqk] at hy
    by_cases e : p = k
    · rw [if_pos e] at hx
      rw [if_neg (by omega)] at hy
      cases hx
      exact h.rest (k + 1) q _ y (by omega) (by omega) hq (by omega) (by omega) hk1 hy
    · rw [if_neg e] at hx
      by_cases e2 : q = k
      · rw [if_pos e2] at hy
        cases hy
        exact h.rest p (k + 1) x _ hp (by omega) (by omega) e (by omega) hx hk1
      · rw [if_neg e2] at hy
        exact h.rest p q x y hp hpq hq e e2 hx hy
  · rw [swap_get hj] at hx hy
    rw [if_neg (by omega), if_pos rfl] at hy
    cases hy
    by_cases e : p = k
    · rw [if_pos e] at hx
      cases hx
      exact leN_of_lt (h.mid (k + 1) _ _ (by omega) hk hkk hk1)
    · rw [if_neg e, if_neg (by omega)] at hx
      exact h.lo p x _ hp (by omega) hx hkk
  · rw [swap_get hj] at hx hy
    rw [if_neg (by omega), if_pos rfl] at hx
    rw [if_neg (by omega), if_neg (by omega)] at hy
    cases hx
    exact h.mid q _ y (by omega) hq hkk hy
  · rw [swap_get hj] at hx hy
    rw [if_neg (by omega), if_pos rfl] at hx
    rw [if_neg (by omega), if_neg (by omega)] at hy
    cases hx
    exact h.hi q _ y (by omega) hiq hq hkk hy
theorem runF_end {l : List Fld} {a k i b : Nat} (h : RunF l a k i b) (hk : i ≤ k + 1) : SrtOn l a b := fun p q x y hp hpq hq hx hy => by
  by_cases e : p = k
  · subst e; exact h.hi q x y hpq (by omega) hq hx hy
  · by_cases e2 : q = k
    · subst e2; exact h.lo p x y hp hpq hx hy
    · exact h.rest p q x y hp hpq hq e e2 hx hy
/-- It stands at place k and goes down: ahead of it from i on are greater ones. -/
structure RunB (l : List Fld) (a k i b : Nat) : Prop where
  rest : ∀ (p q : Nat) (x y : Fld), a ≤ p → p < q → q < b → p ≠ k → q ≠ k → l[p]? = some x → l[q]? = some y → leN x.name y.name
  hi : ∀ (q : Nat) (x y : Fld), k < q → q < b → l[k]? = some x → l[q]? = some y → leN x.name y.name
  mid : ∀ (p : Nat) (x y : Fld), i ≤ p → p < k → l[p]? = some x → l[k]? = some y → cmpN y.name x.name < 0
  lo : ∀ (p : Nat) (x y : Fld), a ≤ p → p < i → p < k → l[p]? = some x → l[k]? = some y → leN x.name y.name
theorem runB_start {l : List Fld} {a m i : Nat} (hs : SrtOn l a m) (hb : m < l.length) (ha : a ≤ i) (hi : i ≤ m)
    (hl : ∀ x y, a < i → l[i - 1]? = some x → l[m]? = some y → leN x.name y.name)
    (hr : ∀ x y, i < m → l[i]? = some x → l[m]? = some y → cmpN y.name x.name < 0) : RunB l a m i (m + 1) := by
  refine ⟨fun p q x y hp hpq hq hpm hqm hx hy => hs p q x y hp hpq (by omega) hx hy, fun q x y h1 h2 => by omega, fun p x y hip hpm hx hy => ?_, fun p x y hp hpi hpm hx hy => ?_⟩
  · by_cases e : p = i
    · subst e; exact hr x y hpm hx hy
    · have hlt : i < l.length := by omega
      exact cmpN_lt_of_lt_le (hr _ y (by omega) (gE hlt) hy) (hs i p _ x (by omega) (by omega) hpm (gE hlt) hx)
  · by_cases e : p = i - 1
    · subst e; exact hl x y (by omega) hx hy
    · have hlt : i - 1 < l.length := by omega
      exact leN_trans (hs p (i - 1) x _ hp (by omega) (by omega) hx (gE hlt)) (hl _ y (by omega) (gE hlt) hy)
theorem runB_step {l : List Fld} {a k i b : Nat} (h : RunB l a (k + 1) i b) (hk : i ≤ k) (ha : a ≤ i) (hb : k + 1 < b) (hj : k + 1 < l.length) : RunB ((l.set (k + 1) l[k]).set k l[k + 1]) a k i b := by
  have hkk : l[k]? = some l[k] := gE (by omega)
  have hk1 : l[k + 1]? = some l[k + 1] := gE hj
  refine ⟨fun p q x y hp hpq hq hpk hqk hx hy => ?_, fun q x y hkq hq hx hy => ?_, fun p x y hip hpk hx hy => ?_, fun p x y hp hpi hpk hx hy => ?_⟩
  · rw [swap_get hj] at hx hy
    rw [if_neg hpk] at hx
    rw [if_neg hqk] at hy
    by_cases e : p = k + 1
    · rw [if_pos e] at hx
      rw [if_neg (by omega)] at hy
      cases hx
      exact h.rest k q _ y (by omega) (by omega) hq (by omega) (by omega) hkk hy
    · rw [if_neg e] at hx
      by_cases e2 : q = k + 1
      · rw [if_pos e2] at hy
        cases hy
        exact h.rest p k x _ hp (by omega) (by omega) e (by omega) hx hkk
      · rw [if_neg e2] at hy
        exact h.rest p q x y hp hpq hq e e2 hx hy
  · rw [swap_get hj] at hx hy
    rw [if_pos rfl] at hx
    cases hx
    rw [if_neg (by omega)] at hy
    by_cases e : q = k + 1
    · rw [if_pos e] at hy
      cases hy
      exact leN_of_lt (h.mid k _ _ hk (by omega) hkk hk1)
    · rw [if_neg e] at hy
      exact h.hi q _ y (by omega) hq hk1 hy
  · rw [swap_get hj] at hx hy
    rw [if_neg (by omega), if_neg (by omega)] at hx
    rw [if_pos rfl] at hy
    cases hy
    exact h.mid p x _ hip (by omega) hx hk1
  · rw [swap_get hj] at hx hy
    rw [if_neg (by omega), if_neg (by omega)] at hx
    rw [if_pos rfl] at hy
    cases hy
    exact h.lo p x _ hp hpi (by omega) hx hk1
theorem runB_end {l : List Fld} {a k i b : Nat} (h : RunB l a k i b) (hk : k ≤ i) : SrtOn l a b := fun p q x y hp hpq hq hx hy => by
  by_cases e : p = k
  · subst e; exact h.hi q x y hpq hq hx hy
  · by_cases e2 : q = k
    · subst e2; exact h.lo p x y hp (by omega) hpq hx hy
    · exact h.rest p q x y hp hpq hq e e2 hx hy
/-! ## Two ranges change places -/
/-- n from a on and n from b on have changed places. -/
structure SwR (l k : List Fld) (a b n : Nat) : Prop where
  len : k.length = l.length
  get : ∀ p, k[p]? = if a ≤ p ∧ p < a + n then l[p - a + b]? else if b ≤ p ∧ p < b + n then l[p - b + a]? else l[p]?
theorem SwR.zero (l : List Fld) (a b : Nat) : SwR l l a b 0 := ⟨rfl, fun p => by rw [if_neg (by omega), if_neg (by omega)]⟩
theorem SwR.step {l k : List Fld} {a b n : Nat} (h : SwR l k a b n) (hab : a + n < b) (hb : b + n < l.length) (h1 : a + n < k.length) (h2 : b + n < k.length) : SwR l ((k.set (a + n) k[b + n]).set (b + n) k[a + n]) a b (n + 1) := by
  have e1 : some k[b + n] = l[b + n]? := by
    rw [← gE h2, h.get, if_neg (by omega), if_neg (by omega)]
  have e2 : some k[a + n] = l[a + n]? := by
    rw [← gE h1, h.get, if_neg (by omega), if_neg (by omega)]
  refine ⟨by simp [h.len], fun p => ?_⟩
  rw [List.getElem?_set, List.getElem?_set]
  simp only [List.length_set]
  by_cases p1 : b + n = p
  · subst p1
    rw [if_pos rfl, if_pos (by omega), if_neg (by omega), if_pos (by omega), e2]
    congr 1; omega
  · rw [if_neg p1]
    by_cases p2 : a + n = p
    · subst p2
      rw [if_pos rfl, if_pos h1, if_pos (by omega), e1]
      congr 1; omega
    · rw [if_neg p2, h.get]
      repeat' split
      all_goals first | rfl | (exfalso; omega) | (congr 1; omega)
/-- From a to b two neighbouring ranges, parted at m, have changed places. -/
structure Rot (l k : List Fld) (a m b : Nat) : Prop where
  len : k.length = l.length
  get : ∀ p, k[p]? = if p < a then l[p]? else if p < a + (b - m) then l[p + (m - a)]? else if p < b then l[p - (b - m)]? else l[p]?
theorem rot_last {l k : List Fld} {m i : Nat} (h : SwR l k (m - i) m i) (hi : i ≤ m) : Rot l k (m - i) m (m + i) := by
  refine ⟨h.len, fun p => ?_⟩
  rw [h.get]
  repeat' split
  all_goals first | rfl | (exfalso; omega) | (congr 1; omega)
theorem rot_up {l k r : List Fld} {m i j : Nat} (h : SwR l k (m - i) m j) (hij : j < i) (hi : i ≤ m) (hr : Rot k r (m - (i - j)) m (m + j)) : Rot l r (m - i) m (m + j) := by
  refine ⟨hr.len.trans h.len, fun p => ?_⟩
  rw [hr.get]
  simp only [h.get]
  repeat' split
  all_goals first | rfl | (exfalso; omega) | (congr 1; omega)
theorem rot_down {l k r : List Fld} {m i j : Nat} (h : SwR l k (m - i) (m + j - i) i) (hij : i < j) (hi : i ≤ m) (hr : Rot k r (m - i) m (m + (j - i))) : Rot l r (m - i) m (m + j) := by
  refine ⟨hr.len.trans h.len, fun p => ?_⟩
  rw [hr.get]
  simp only [h.get]
  repeat' split
  all_goals first | rfl | (exfalso; omega) | (congr 1; omega)
theorem rot_none {l : List Fld} {a m b : Nat} (ha : a ≤ m) (hb : m ≤ b) (h : a = m ∨ m = b) : Rot l l a m b := by
  refine ⟨rfl, fun p => ?_⟩
  repeat' split
  all_goals first | rfl | (exfalso; omega) | (congr 1; omega)
theorem StP.swap2 {X Y : List Fld} (h : ∀ x ∈ X, ∀ y ∈ Y, x.name ≠ y.name) : StP (X ++ Y) (Y ++ X) := fun s => by
  rw [List.filter_append, List.filter_append]
  by_cases e : X.filter (fun f => decide (f.name = s)) = []
  · rw [e]; simp
  · have : Y.filter (fun f => decide (f.name = s)) = [] := by
      rw [List.filter_eq_nil_iff]
      intro y hy hys
      obtain ⟨x, hx⟩ := List.exists_mem_of_ne_nil _ e
      obtain ⟨hx, hxs⟩ := List.mem_filter.1 hx
      exact h x hx y hy ((of_decide_eq_true hxs).trans (of_decide_eq_true hys).symm)
    rw [this]; simp
theorem parts4 (l : List Fld) {a m b : Nat} (ha : a ≤ m) (hb : m ≤ b) : l = l.take a ++ (((l.drop a).take (m - a) ++ (l.drop m).take (b - m)) ++ l.drop b) := by
  have e1 : l.drop m = (l.drop a).drop (m - a) := by rw [List.drop_drop]; congr 1; omega
  have e2 : l.drop b = (l.drop m).drop (b - m) := by rw [List.drop_drop]; congr 1; omega
  rw [List.append_assoc, e2, List.take_append_drop, e1, List.take_append_drop, List.take_append_drop]
theorem Rot.eq {l k : List Fld} {a m b : Nat} (h : Rot l k a m b) (ha : a ≤ m) (hb : m ≤ b) (hl : b ≤ l.length) : k = l.take a ++ (((l.drop m).take (b - m) ++ (l.drop a).take (m - a)) ++ l.drop b) := by
  apply List.ext_getElem?
  intro p
  rw [h.get]
  have t1 : (l.take a).length = a := by rw [List.length_take]; omega
  have t2 : ((l.drop m).take (b - m)).length = b - m := by rw [List.length_take, List.length_drop]; omega
  have t3 : ((l.drop a).take (m - a)).length = m - a := by rw [List.length_take, List.length_drop]; omega
  by_cases c1 : p < a
  · rw [if_pos c1, List.getElem?_append_left (by omega), List.getElem?_take, if_pos c1]
  · rw [if_neg c1, List.getElem?_append_right (by omega), t1]
    by_cases c2 : p < a + (b - m)
    · rw [if_pos c2, List.getElem?_append_left (by rw [List.length_append]; omega), List.getElem?_append_left (by omega), List.getElem?_take, if_pos (by omega), List.getElem?_drop]
      congr 1; omega
    · rw [if_neg c2]
      by_cases c3 : p < b
      · rw [if_pos c3, List.getElem?_append_left (by rw [List.length_append]; omega), List.getElem?_append_right (by omega), t2, List.getElem?_take, if_pos (by omega), List.getElem?_drop]
        congr 1; omega
      · rw [if_neg c3, List.getElem?_append_right (by rw [List.length_append]; omega), List.length_append, t2, t3, List.getElem?_drop]
        congr 1; omega
theorem Rot.rng {l k : List Fld} {a m b : Nat} (h : Rot l k a m b) (ha : a ≤ m) (hb : m ≤ b) (hl : b ≤ l.length)
    (hn : ∀ (p q : Nat) (x y : Fld), a ≤ p → p < m → m ≤ q → q < b → l[p]? = some x → l[q]? = some y → x.name ≠ y.name) : Rng l k a b := by
  refine ⟨h.len, fun j hj => ?_, ?_⟩
  · rw [h.get]
    repeat' split
    all_goals first | rfl | (exfalso; omega) | (congr 1; omega)
  · rw [h.eq ha hb hl]
    conv => lhs; rw [parts4 l ha hb]
    refine (StP.refl _).app ((StP.swap2 fun x hx y hy => ?_).app (StP.refl _))
    obtain ⟨p, hp⟩ := List.mem_iff_getElem?.1 hx
    obtain ⟨q, hq⟩ := List.mem_iff_getElem?.1 hy
    have hp2 : p < m - a := by
      have := (List.getElem?_eq_some_iff.1 hp).1
      rw [List.length_take] at this; omega
    have hq2 : q < b - m := by
      have := (List.getElem?_eq_some_iff.1 hq).1
      rw [List.length_take] at this; omega
    rw [List.getElem?_take, if_pos hp2, List.getElem?_drop] at hp
    rw [List.getElem?_take, if_pos hq2, List.getElem?_drop] at hq
    exact hn _ _ x y (by omega) (by omega) (by omega) (by omega) hp hq
/-! ## The merge -/
/-- What the search has found: it stands between lo and hi. -/
structure Cut (l : List Fld) (n lo0 hi0 lo hi : Nat) : Prop where
  lo : lo = lo0 ∨ (lo0 < lo ∧ ∀ x y, l[lo - 1]? = some x → l[n - lo]? = some y → leN x.name y.name)
  hi : hi = hi0 ∨ (hi < hi0 ∧ ∀ x y, l[hi]? = some x → l[n - 1 - hi]? = some y → cmpN y.name x.name < 0)
theorem get_eq {l : List Fld} {p q : Nat} {x : Fld} (hp : p < l.length) (e : p = q) (hx : l[q]? = some x) : x = l[p] := by
  subst e
  rw [gE hp] at hx
  exact (Option.some.inj hx).symm
/-- The search for the place of l[a] among those from m to b. -/
structure FindF (l : List Fld) (a m b i j : Nat) : Prop where
  lo : i = m ∨ (m < i ∧ ∀ x y, l[i - 1]? = some x → l[a]? = some y → cmpN x.name y.name < 0)
  hi : j = b ∨ (j < b ∧ ∀ x y, l[j]? = some x → l[a]? = some y → leN y.name x.name)
theorem FindF.start (l : List Fld) (a m b : Nat) : FindF l a m b m b := ⟨.inl rfl, .inl rfl⟩
theorem FindF.up {l : List Fld} {a m b i j h : Nat} (f : FindF l a m b i j) (hm : m ≤ h) (h1 : h < l.length) (h2 : a < l.length) (hlt : cmpN l[h].name l[a].name < 0) : FindF l a m b (h + 1) j :=
  ⟨.inr ⟨by omega, fun x y hx hy => by rw [get_eq h1 (by omega) hx, get_eq h2 rfl hy]; exact hlt⟩, f.hi⟩
theorem FindF.down {l : List Fld} {a m b i j h : Nat} (f : FindF l a m b i j) (hb : h < b) (h1 : h < l.length) (h2 : a < l.length) (hle : ¬ cmpN l[h].name l[a].name < 0) : FindF l a m b i h :=
  ⟨f.lo, .inr ⟨hb, fun x y hx hy => by rw [get_eq h1 rfl hx, get_eq h2 rfl hy]; exact hle⟩⟩
theorem FindF.run {l : List Fld} {a b i j : Nat} (f : FindF l a (a + 1) b i j) (hij : ¬ i < j) (hle : i ≤ j) (hs : SrtOn l (a + 1) b) (hb : b ≤ l.length) (hab : a + 1 < b) (hi : a + 1 ≤ i) (hib : j ≤ b) : RunF l a a i b := by
  obtain rfl : i = j := by omega
  refine runF_start hs hb (by omega) hi hib (fun x y h1 hx hy => ?_) (fun x y h1 hx hy => ?_)
  · rcases f.lo with e | ⟨_, e⟩
    · omega
    · exact e x y hx hy
  · rcases f.hi with e | ⟨_, e⟩
    · omega
    · exact e x y hx hy
/-- The search for the place of l[m] among those from a to m. -/
structure FindB (l : List Fld) (a m i j : Nat) : Prop where
  lo : i = a ∨ (a < i ∧ ∀ x y, l[i - 1]? = some x → l[m]? = some y → leN x.name y.name)
  hi : j = m ∨ (j < m ∧ ∀ x y, l[j]? = some x → l[m]? = some y → cmpN y.name x.name < 0)
theorem FindB.start (l : List Fld) (a m : Nat) : FindB l a m a m := ⟨.inl rfl, .inl rfl⟩
theorem FindB.up {l : List Fld} {a m i j h : Nat} (f : FindB l a m i j) (ha : a ≤ h) (h1 : h < l.length) (h2 : m < l.length) (hle : ¬ cmpN l[m].name l[h].name < 0) : FindB l a m (h + 1) j :=
  ⟨.inr ⟨by omega, fun x y hx hy => by rw [get_eq h1 (by omega) hx, get_eq h2 rfl hy]; exact hle⟩, f.hi⟩
theorem FindB.down {l : List Fld} {a m i j h : Nat} (f : FindB l a m i j) (hm : h < m) (h1 : h < l.length) (h2 : m < l.length) (hlt : cmpN l[m].name l[h].name < 0) : FindB l a m i h :=
  ⟨f.lo, .inr ⟨hm, fun x y hx hy => by rw [get_eq h1 rfl hx, get_eq h2 rfl hy]; exact hlt⟩⟩
theorem FindB.run {l : List Fld} {a m i j : Nat} (f : FindB l a m i j) (hij : ¬ i < j) (hle : i ≤ j) (hs : SrtOn l a m) (hb : m < l.length) (ha : a ≤ i) (hj : j ≤ m) : RunB l a m i (m + 1) := by
  obtain rfl : i = j := by omega
  refine runB_start hs hb ha hj (fun x y h1 hx hy => ?_) (fun x y h1 hx hy => ?_)
  · rcases f.lo with e | ⟨_, e⟩
    · omega
    · exact e x y hx hy
  · rcases f.hi with e | ⟨_, e⟩
    · omega
    · exact e x y hx hy
theorem Cut.start (l : List Fld) (n lo0 hi0 : Nat) : Cut l n lo0 hi0 lo0 hi0 := ⟨.inl rfl, .inl rfl⟩
theorem Cut.up {l : List Fld} {n lo0 hi0 lo hi c : Nat} (f : Cut l n lo0 hi0 lo hi) (hc : lo0 ≤ c) (h1 : c < l.length) (h2 : n - 1 - c < l.length) (hle : ¬ cmpN l[n - 1 - c].name l[c].name < 0) : Cut l n lo0 hi0 (c + 1) hi :=
  ⟨.inr ⟨by omega, fun x y hx hy => by rw [get_eq h1 (by omega) hx, get_eq h2 (by omega) hy]; exact hle⟩, f.hi⟩
theorem Cut.down {l : List Fld} {n lo0 hi0 lo hi c : Nat} (f : Cut l n lo0 hi0 lo hi) (hc : c < hi0) (h1 : c < l.length) (h2 : n - 1 - c < l.length) (hlt : cmpN l[n - 1 - c].name l[c].name < 0) : Cut l n lo0 hi0 lo c :=
  ⟨f.lo, .inr ⟨hc, fun x y hx hy => by rw [get_eq h1 rfl hx, get_eq h2 rfl hy]; exact hlt⟩⟩
/-- All that is needed of a merge's place: both parts in order, the place s found. -/
structure Mrg (l : List Fld) (a m b s : Nat) : Prop where
  am : a < m
  mb : m < b
  len : b ≤ l.length
  s1 : SrtOn l a m
  s2 : SrtOn l m b
  aS : a ≤ s
  sm : s ≤ m
  smid : s ≤ (a + b) / 2
  e1 : m ≤ (a + b) / 2 + m - s
  e2 : (a + b) / 2 + m - s ≤ b
  lo : ∀ x y, a < s → (a + b) / 2 + m - s < b → l[s - 1]? = some x → l[(a + b) / 2 + m - s]? = some y → leN x.name y.name
  hi : ∀ x y, s < m → m < (a + b) / 2 + m - s → l[s]? = some x → l[(a + b) / 2 + m - s - 1]? = some y → cmpN y.name x.name < 0
theorem mrg_of {l : List Fld} {a m b s lo0 hi0 : Nat} (am : a < m) (mb : m < b) (len : b ≤ l.length) (s1 : SrtOn l a m) (s2 : SrtOn l m b)
    (h0 : ((a + b) / 2 < m ∧ lo0 = (a + b) / 2 + m - b ∧ hi0 = (a + b) / 2) ∨ (m ≤ (a + b) / 2 ∧ lo0 = a ∧ hi0 = m)) (hs : lo0 ≤ s) (hs2 : s ≤ hi0) (hc : Cut l ((a + b) / 2 + m) lo0 hi0 s s) : Mrg l a m b s := by
  refine ⟨am, mb, len, s1, s2, by omega, by omega, by omega, by omega, by omega, fun x y h1 h2 hx hy => ?_, fun x y h1 h2 hx hy => ?_⟩
  · rcases hc.lo with e | ⟨_, e⟩
    · omega
    · exact e x y hx hy
  · rcases hc.hi with e | ⟨_, e⟩
    · omega
    · exact e x y hx (by rwa [show (a + b) / 2 + m - s - 1 = (a + b) / 2 + m - 1 - s by omega] at hy)
/-- Behind the rotation: four ranges in order, the first two nowhere above the last two. -/
structure Four (l : List Fld) (a s mid e b : Nat) : Prop where
  s1 : SrtOn l a s
  s2 : SrtOn l s mid
  s3 : SrtOn l mid e
  s4 : SrtOn l e b
  le : ∀ (p q : Nat) (x y : Fld), a ≤ p → p < mid → mid ≤ q → q < b → l[p]? = some x → l[q]? = some y → leN x.name y.name
theorem some_at {l : List Fld} {p : Nat} (h : p < l.length) : ∃ x, l[p]? = some x := ⟨_, gE h⟩
theorem SrtOn.le {l : List Fld} {a b : Nat} (h : SrtOn l a b) {p q : Nat} {x y : Fld} (hp : a ≤ p) (hpq : p ≤ q) (hq : q < b) (hx : l[p]? = some x) (hy : l[q]? = some y) : leN x.name y.name := by
  by_cases e : p = q
  · subst e; rw [hx] at hy; cases hy; exact leN_refl _
  · exact h p q x y hp (by omega) hq hx hy
theorem Mrg.apart {l : List Fld} {a m b s : Nat} (h : Mrg l a m b s) {p q : Nat} {x y : Fld} (hp : s ≤ p) (hpm : p < m) (hq : m ≤ q) (hqe : q < (a + b) / 2 + m - s) (hx : l[p]? = some x) (hy : l[q]? = some y) : cmpN y.name x.name < 0 := by
  have := h.len; have := h.e2; have := h.mb; have := h.aS
  obtain ⟨u, hu⟩ := some_at (l := l) (p := s) (by omega)
  obtain ⟨v, hv⟩ := some_at (l := l) (p := (a + b) / 2 + m - s - 1) (by omega)
  have h1 := h.hi u v (by omega) (by omega) hu hv
  have h2 := h.s1.le (by omega) hp hpm hu hx
  have h3 := h.s2.le (by omega) (show q ≤ (a + b) / 2 + m - s - 1 by omega) (by omega) hy hv
  exact cmpN_lt_of_le_lt h3 (cmpN_lt_of_lt_le h1 h2)
theorem Mrg.four {l k : List Fld} {a m b s : Nat} (h : Mrg l a m b s) (hr : Rot l k s m ((a + b) / 2 + m - s)) : Rng l k a b ∧ Four k a s ((a + b) / 2) ((a + b) / 2 + m - s) b := by
  have q1 := h.am; have q2 := h.mb; have q3 := h.len; have q4 := h.aS; have q5 := h.sm; have q6 := h.smid; have q7 := h.e1; have q8 := h.e2
  have hg : ∀ p, k[p]? = if p < s then l[p]? else if p < (a + b) / 2 then l[p + (m - s)]? else if p < (a + b) / 2 + m - s then l[p - ((a + b) / 2 - s)]? else l[p]? := fun p => by
    rw [hr.get]
    rw [show s + ((a + b) / 2 + m - s - m) = (a + b) / 2 by omega, show (a + b) / 2 + m - s - m = (a + b) / 2 - s by omega]
  refine ⟨(hr.rng h.sm h.e1 (by omega) fun p q x y hp hpm hq hqe hx hy e => ?_).wider h.aS h.e2, ?_, ?_, ?_, ?_, ?_⟩
  · have := h.apart hp hpm hq hqe hx hy
    rw [e, show cmpN y.name y.name = 0 from cmpN_eq.2 rfl] at this
    omega
  · intro p q x y hp hpq hq hx hy
    rw [hg, if_pos (by omega)] at hx hy
    exact h.s1 p q x y hp hpq (by omega) hx hy
  · intro p q x y hp hpq hq hx hy
    rw [hg, if_neg (by omega), if_pos (by omega)] at hx hy
    exact h.s2 _ _ x y (by omega) (by omega) (by omega) hx hy
  · intro p q x y hp hpq hq hx hy
    rw [hg, if_neg (by omega), if_neg (by omega), if_pos (by omega)] at hx hy
    exact h.s1 _ _ x y (by omega) (by omega) (by omega) hx hy
  · intro p q x y hp hpq hq hx hy
    rw [hg, if_neg (by omega), if_neg (by omega), if_neg (by omega)] at hx hy
    exact h.s2 _ _ x y (by omega) (by omega) (by omega) hx hy
  · intro p q x y hp hpm hq hqb hx hy
    rw [hg] at hx hy
    rw [if_neg (by omega), if_neg (by omega)] at hy
    by_cases c1 : p < s
    · rw [if_pos c1] at hx
      by_cases c2 : q < (a + b) / 2 + m - s
      · rw [if_pos c2] at hy
        exact h.s1 _ _ x y (by omega) (by omega) (by omega) hx hy
      · rw [if_neg c2] at hy
        obtain ⟨u, hu⟩ := some_at (l := l) (p := s - 1) (by omega)
        obtain ⟨v, hv⟩ := some_at (l := l) (p := (a + b) / 2 + m - s) (by omega)
        exact leN_trans (h.s1.le hp (by omega) (by omega) hx hu) (leN_trans (h.lo u v (by omega) (by omega) hu hv) (h.s2.le (by omega) (by omega) hqb hv hy))
    · rw [if_neg c1, if_pos hpm] at hx
      by_cases c2 : q < (a + b) / 2 + m - s
      · rw [if_pos c2] at hy
        exact leN_of_lt (h.apart (by omega) (by omega) (by omega) (by omega) hy hx)
      · rw [if_neg c2] at hy
        exact h.s2 _ _ x y (by omega) (by omega) hqb hx hy
theorem Rng.from {l k : List Fld} {a b : Nat} (h : Rng l k a b) (hab : a ≤ b) (hb : b ≤ l.length) {p : Nat} {x : Fld} (hp : a ≤ p) (hpb : p < b) (hx : k[p]? = some x) : ∃ q, a ≤ q ∧ q < b ∧ l[q]? = some x := by
  have el := parts4 l hab (lR b)
  have ek := parts4 k hab (lR b)
  simp only [Nat.sub_self, List.take_zero, List.append_nil] at el ek
  have t1 : l.take a = k.take a := by
    apply List.ext_getElem?; intro j
    rw [List.getElem?_take, List.getElem?_take]
    split
    · rw [h.out j (.inl (by assumption))]
    · rfl
  have t2 : l.drop b = k.drop b := by
    apply List.ext_getElem?; intro j
    rw [List.getElem?_drop, List.getElem?_drop, h.out _ (.inr (by omega))]
  have hst : StP ((l.drop a).take (b - a)) ((k.drop a).take (b - a)) := fun s => by
    have := h.st s
    rw [el, ek, t1, t2, List.filter_append, List.filter_append, List.filter_append, List.filter_append] at this
    exact List.append_cancel_right (List.append_cancel_left this)
  have hmem : x ∈ (k.drop a).take (b - a) := by
    refine List.mem_iff_getElem?.2 ⟨p - a, ?_⟩
    rw [List.getElem?_take, if_pos (by omega), List.getElem?_drop, show a + (p - a) = p by omega, hx]
  obtain ⟨q, hq⟩ := List.mem_iff_getElem?.1 (hst.symm.mem hmem)
  have hq2 : q < b - a := by
    have := (List.getElem?_eq_some_iff.1 hq).1
    rw [List.length_take] at this; omega
  rw [List.getElem?_take, if_pos hq2, List.getElem?_drop] at hq
  exact ⟨a + q, by omega, by omega, hq⟩
theorem Rng.srt {l k : List Fld} {a b c d : Nat} (h : Rng l k a b) (hs : SrtOn l c d) (ho : d ≤ a ∨ b ≤ c) : SrtOn k c d := fun p q x y hp hpq hq hx hy => by
  rw [h.out p (by omega)] at hx
  rw [h.out q (by omega)] at hy
  exact hs p q x y hp hpq hq hx hy
theorem Four.left {l k : List Fld} {a s mid e b : Nat} (h : Four l a s mid e b) (hm : a ≤ mid) (hmb : mid ≤ b) (he : mid ≤ e) (hl : b ≤ l.length) (hr : Rng l k a mid) (hs : SrtOn k a mid) : Four k a mid mid e b :=
  ⟨hs, fun p q x y h1 h2 h3 => by omega, hr.srt h.s3 (.inr (lR _)), hr.srt h.s4 (.inr he), fun p q x y hp hpm hq hqb hx hy => by
    obtain ⟨p', h1, h2, h3⟩ := hr.from hm (by omega) hp hpm hx
    rw [hr.out q (.inr hq)] at hy
    exact h.le p' q x y h1 h2 hq hqb h3 hy⟩
theorem Four.leftN {l : List Fld} {a s mid e b : Nat} (h : Four l a s mid e b) (hc : a = s ∨ s = mid) : Four l a mid mid e b := by
  refine ⟨?_, fun p q x y h1 h2 h3 => by omega, h.s3, h.s4, h.le⟩
  rcases hc with e | e
  · rw [e]; exact h.s2
  · rw [← e]; exact h.s1
theorem Four.right {l k : List Fld} {a mid e b : Nat} (h : Four l a mid mid e b) (hm : a ≤ mid) (hmb : mid ≤ b) (hl : b ≤ l.length) (hr : Rng l k mid b) (hs : SrtOn k mid b) : SrtOn k a b := fun p q x y hp hpq hq hx hy => by
  by_cases c1 : p < mid
  · rw [hr.out p (.inl c1)] at hx
    by_cases c2 : q < mid
    · rw [hr.out q (.inl c2)] at hy
      exact h.s1 p q x y hp hpq c2 hx hy
    · obtain ⟨q', h1, h2, h3⟩ := hr.from hmb (by omega) (by omega) hq hy
      exact h.le p q' x y hp c1 h1 h2 hx h3
  · exact hs p q x y (by omega) hpq hq hx hy
theorem Four.rightN {l : List Fld} {a mid e b : Nat} (h : Four l a mid mid e b) (hc : mid = e ∨ e = b) : SrtOn l a b := fun p q x y hp hpq hq hx hy => by
  have h3 : SrtOn l mid b := by
    rcases hc with c | c
    · rw [c]; exact h.s4
    · rw [← c]; exact h.s3
  by_cases c1 : p < mid
  · by_cases c2 : q < mid
    · exact h.s1 p q x y hp hpq c2 hx hy
    · exact h.le p q x y hp c1 (by omega) hq hx hy
  · exact h3 p q x y (by omega) hpq hq hx hy
/-! ## Blocks in order -/
theorem dvd_gap {n p a : Nat} (hp : n ∣ p) (ha : n ∣ a) (h : p < a) : p + n ≤ a := by
  have := Nat.le_of_dvd (by omega) (Nat.dvd_sub ha hp)
  omega
theorem SrtOn.mono {l : List Fld} {a b a' b' : Nat} (h : SrtOn l a b) (ha : a ≤ a') (hb : b' ≤ b) : SrtOn l a' b' := fun p q x y hp hpq hq => h p q x y (by omega) hpq (by omega)
theorem SrtOn.none {l : List Fld} {a b : Nat} (h : b ≤ a) : SrtOn l a b := fun p q x y hp hpq hq => by omega
/-- Each block of n is in order, up to the end e. -/
def Blk (l : List Fld) (n e : Nat) : Prop := ∀ p, n ∣ p → SrtOn l p (min (p + n) e)
/-- Those of n ahead of a are. -/
def Blk1 (l : List Fld) (n a : Nat) : Prop := ∀ p, n ∣ p → p < a → SrtOn l p (p + n)
theorem Blk1.zero {l : List Fld} {n : Nat} : Blk1 l n 0 := fun p _ h => by omega
theorem Blk1.step {l k : List Fld} {n a : Nat} (h : Blk1 l n a) (ha : n ∣ a) (hr : Rng l k a (a + n)) (hs : SrtOn k a (a + n)) : Blk1 k n (a + n) := fun p hp hlt => by
  by_cases c : p < a
  · exact hr.srt (h p hp c) (.inl (dvd_gap hp ha c))
  · by_cases c2 : a < p
    · have := dvd_gap ha hp c2; omega
    · rw [show p = a by omega]; exact hs
theorem Blk1.fin {l k : List Fld} {n a e : Nat} (h : Blk1 l n a) (ha : n ∣ a) (he : e < a + n) (hr : Rng l k a e) (hs : SrtOn k a e) : Blk k n e := fun p hp => by
  by_cases c : p < a
  · exact (hr.srt (h p hp c) (.inl (dvd_gap hp ha c))).mono (lR _) (Nat.min_le_left _ _)
  · by_cases c2 : a < p
    · have := dvd_gap ha hp c2
      exact SrtOn.none (by omega)
    · rw [show p = a by omega]; exact hs.mono (lR _) (Nat.min_le_right _ _)
/-- Blocks of n: those ahead of a have been merged by two. -/
structure B2 (l : List Fld) (n a e : Nat) : Prop where
  dv : 2 * n ∣ a
  lt : Blk1 l (2 * n) a
  ge : ∀ p, n ∣ p → a ≤ p → SrtOn l p (min (p + n) e)
theorem B2.start {l : List Fld} {n e : Nat} (h : Blk l n e) : B2 l n 0 e := ⟨Nat.dvd_zero _, Blk1.zero, fun p hp _ => h p hp⟩
theorem B2.dv1 {l : List Fld} {n a e : Nat} (h : B2 l n a e) : n ∣ a := Nat.dvd_trans ⟨2, by rw [Nat.mul_comm]⟩ h.dv
theorem B2.left {l : List Fld} {n a e : Nat} (h : B2 l n a e) (he : a + n ≤ e) : SrtOn l a (a + n) := by
  have := h.ge a h.dv1 (lR _)
  rwa [Nat.min_eq_left he] at this
theorem B2.right {l : List Fld} {n a e : Nat} (h : B2 l n a e) : SrtOn l (a + n) (min (a + 2 * n) e) := by
  have := h.ge (a + n) ((Nat.dvd_add_right h.dv1).2 (Nat.dvd_refl n)) (by omega)
  rwa [show a + n + n = a + 2 * n by omega] at this
theorem B2.step {l k : List Fld} {n a e : Nat} (h : B2 l n a e) (hr : Rng l k a (a + 2 * n)) (hs : SrtOn k a (a + 2 * n)) : B2 k n (a + 2 * n) e :=
  ⟨(Nat.dvd_add_right h.dv).2 (Nat.dvd_refl _), h.lt.step h.dv hr hs, fun p hp hap => hr.srt (h.ge p hp (by omega)) (.inr hap)⟩
theorem B2.fin {l k : List Fld} {n a e : Nat} (h : B2 l n a e) (he : e < a + 2 * n) (hr : Rng l k a e) (hs : SrtOn k a e) : Blk k (2 * n) e := h.lt.fin h.dv he hr hs
theorem B2.finN {l : List Fld} {n a e : Nat} (h : B2 l n a e) (he : e < a + 2 * n) (hm : e ≤ a + n) : Blk l (2 * n) e :=
  h.lt.fin h.dv he (Rng.refl _ _ _) ((h.ge a h.dv1 (lR _)).mono (lR _) (by omega))
theorem Blk.all {l : List Fld} {n e : Nat} (h : Blk l n e) (he : e ≤ n) : SrtOn l 0 e := (h 0 (Nat.dvd_zero _)).mono (lR _) (by omega)
theorem srt_of {l : List Fld} (h : SrtOn l 0 l.length) : Srt l := by
  unfold Srt
  rw [List.pairwise_iff_getElem]
  intro i j hi hj hij
  exact h i j _ _ (Nat.zero_le _) hij hj (gE hi) (gE hj)
end Rw
namespace Go.Proofs.Ytpoahmeacjggfaa
open Go Rw Go.RowKit
set_option maxRecDepth 100000
theorem swapRange_spec [TR : TRep] (M : Nat → Prop) (w : World) (B : Nat) (v : Value) (l : List Fld) (za zb zn : Int) (a b n : Nat) (ea : za = a) (eb : zb = b) (en : zn = n) (hab : a + n ≤ b) (hbn : b + n ≤ l.length) (hd : OwnSl 32 B M w v l) (hl : l.length < 140737488355328) (Lw : Low M w) (hB : B ≤ w.heap.size) :
  Calls Try.prog 139 #[v, .int .i64 za, .int .i64 zb, .int .i64 zn, .func (.func 99) #[] #[]] w (Ret fun r w' => r = .tuple #[] ∧ (∃ l', OwnSl 32 B M w' v l' ∧ SwR l l' a b n) ∧ Stp B M M w w' ∧ (∀ x, x < w.heap.size → some x ≠ v.ownBlock → w'.heap[x]? = w.heap[x]?)) := by
 subst ea; subst eb; subst en
 have hT : Stp B M M w w := Stp.refl Lw
 have hF : (∀ x, x < w.heap.size → some x ≠ v.ownBlock → w.heap[x]? = w.heap[x]?) := fun _ _ _ => rfl
 refine cN (n := 38) Try.func139 rfl rfl rfl ?_
 refine q0 (lP 1 tK rfl (q1 (cB ?_)))
 refine c_loop2 (X := Nat) (Y := List Fld) (fun i l' => [(0, v), (1, .int .i64 (a : Int)), (2, .int .i64 (b : Int)), (3, .int .i64 (n : Int)), (4, .func (.func 99) #[] #[]), (10, .int .i64 (i : Nat))]) (fun i l' w' => i ≤ n ∧ SwR l l' a b i ∧ OwnSl 32 B M w' v l' ∧ Low M w' ∧ B ≤ w'.heap.size ∧ Stp B M M w w' ∧ (∀ x, x < w.heap.size → some x ≠ (v : Value).ownBlock → w'.heap[x]? = w.heap[x]?)) (fun i l' => n - i) (0) (l) (s6 rfl rfl rfl rfl rfl rfl) ?_ ?_
 ·exact ⟨Nat.zero_le _, SwR.zero _ _ _, hd, Lw, hB, hT, hF⟩
 rintro i l2 w1 ⟨hi, hsw, hd, Lw, hB, hT, hF⟩
 refine cS (q0 (lP 3 tK rfl (q1 ?_)))
 refine cP _ rfl (fun hc => ?_) (fun hc => ?_)
 ·have hlen := hsw.len
  have ha1 : a + i < l2.length := by omega
  have hb1 : b + i < l2.length := by omega
  refine cK (xS (cS (cB ?_)))
  refine a_beg (fun _ _ => True) rfl ?_
  intro w2 ew2
  replace hF : ∀ x, x < w.heap.size → some x ≠ (v : Value).ownBlock → w2.heap[x]? = w.heap[x]? := fun x hx hn => (ew2.block x (lT hx hT.upd.1)).trans (hF x hx hn)
  replace hT := hT.then (Stp.Y ew2 Lw hB)
  replace hd := hd.Y Lw hB ew2
  replace Lw := Lw.Y ew2
  replace hB := ew2.z hB
  have hS : True := trivial
  refine a_p 0 tK rfl rfl rfl rfl (by kernel_rfl) i3 hS ?_
  refine a_p 1 tK rfl rfl rfl rfl (by kernel_rfl) i3 hS ?_
  refine a_p 2 tK rfl rfl rfl rfl (by kernel_rfl) i3 hS ?_
  refine a_ar 3 rfl rfl rfl rfl (IntWalk.i64_in _ (by omega)) rfl rfl (by kernel_rfl) i3 hS ?_
  refine a_p 4 tK rfl rfl rfl rfl (by kernel_rfl) i3 hS ?_
  refine a_p 5 tK rfl rfl rfl rfl (by kernel_rfl) i3 hS ?_
  refine a_p 6 tK rfl rfl rfl rfl (by kernel_rfl) i3 hS ?_
  refine a_ar 7 rfl rfl rfl rfl (IntWalk.i64_in _ (by omega)) rfl rfl (by kernel_rfl) i3 hS ?_
  refine a_p 8 tK rfl rfl rfl rfl (by kernel_rfl) i3 hS ?_
  refine a_p 9 tK rfl rfl rfl rfl (by kernel_rfl) i3 hS ?_
  refine a_p 10 tK rfl rfl rfl rfl (by kernel_rfl) i3 hS ?_
  refine a_ar 11 rfl rfl rfl rfl (IntWalk.i64_in _ (by omega)) rfl rfl (by kernel_rfl) i3 hS ?_
  refine a_ixO 12 tK hd (gE hb1) rfl rfl rfl (by omega) rfl rfl rfl rfl rfl rfl (by kernel_rfl) i4 hS ?_
  intro ibq1 iuq1 hobq1 hrq1 hatq1
  obtain ⟨szq1, kvq1, rfl, hyq1⟩ := fldg_open hrq1
  replace hatq1 : OAt _ _ _ [.string l2[b + i].name, .int .u8 l2[b + i].ty.op, .string l2[b + i].ty.name, .int .i64 l2[b + i].ty.n, kvq1] := hatq1
  refine a_p 14 tK rfl rfl rfl rfl (by kernel_rfl) i3 hS ?_
  refine a_p 15 tK rfl rfl rfl rfl (by kernel_rfl) i3 hS ?_
  refine a_p 16 tK rfl rfl rfl rfl (by kernel_rfl) i3 hS ?_
  refine a_ar 17 rfl rfl rfl rfl (IntWalk.i64_in _ (by omega)) rfl rfl (by kernel_rfl) i3 hS ?_
  refine a_ixO 18 tK hd (gE ha1) rfl rfl rfl (by omega) rfl rfl rfl rfl rfl rfl (by kernel_rfl) i4 hS ?_
  intro ibq2 iuq2 hobq2 hrq2 hatq2
  obtain ⟨szq2, kvq2, rfl, hyq2⟩ := fldg_open hrq2
  replace hatq2 : OAt _ _ _ [.string l2[a + i].name, .int .u8 l2[a + i].ty.op, .string l2[a + i].ty.name, .int .i64 l2[a + i].ty.n, kvq2] := hatq2
  refine a_all [13, 19] (by kernel_rfl) rfl (all_cons (i := 13) rfl ?_ (all_cons (i := 19) rfl ?_ all_nil))
  ·refine oL tK (fun j v hv => hatq1.cell j v hv) rfl rfl rfl rfl rfl rfl ?_
   refine ⟨hS, ?_⟩
   refine a_one 19 rfl (by kernel_rfl) (oL tK (fun j v hv => hatq2.cell j v hv) rfl rfl rfl rfl rfl rfl ?_)
   refine ⟨hS, ?_⟩
   refine a_ixO 20 tK hd (gE ha1) rfl rfl rfl (by omega) rfl rfl rfl rfl rfl rfl (by kernel_rfl) i4 hS ?_
   intro ibq3 iuq3 hobq3 hrq3 hatq3
   obtain ⟨szq3, kvq3, rfl, hyq3⟩ := fldg_open hrq3
   replace hatq3 : OAt _ _ _ [.string l2[a + i].name, .int .u8 l2[a + i].ty.op, .string l2[a + i].ty.name, .int .i64 l2[a + i].ty.n, kvq3] := hatq3
   refine a_one 21 rfl (by kernel_rfl) (o_stO tK hd hobq3 (by first | omega | (simp; omega)) hrq1 Lw rfl rfl rfl rfl rfl rfl ?_)
   intro w3 hw3 sw3 frw3
   replace hF : ∀ x, x < w.heap.size → some x ≠ (v : Value).ownBlock → w3.heap[x]? = w.heap[x]? := fun x hx hn => (frw3 x (lT hx hT.upd.1) (fun e => hn (by rw [hobq3, e]))).trans (hF x hx hn)
   replace hT := hT.then sw3
   replace hrq1 := Rep.sp hrq1 sw3
   replace hrq2 := Rep.sp hrq2 sw3
   replace hrq3 := Rep.sp hrq3 sw3
   replace Lw := sw3.low
   replace hB := sw3.z hB
   refine ⟨hS, ?_⟩
   replace hd := hw3
   clear hw3
   refine a_ixO 22 tK hd (gE (by simpa using hb1)) rfl rfl rfl (by omega) rfl rfl rfl rfl rfl rfl (by kernel_rfl) i4 hS ?_
   intro ibq4 iuq4 hobq4 hrq4 hatq4
   refine a_one 23 rfl (by kernel_rfl) (o_stO tK hd hobq4 (by first | omega | (simp; omega)) hrq2 Lw rfl rfl rfl rfl rfl rfl ?_)
   intro w4 hw4 sw4 frw4
   replace hF : ∀ x, x < w.heap.size → some x ≠ (v : Value).ownBlock → w4.heap[x]? = w.heap[x]? := fun x hx hn => (frw4 x (lT hx hT.upd.1) (fun e => hn (by rw [hobq4, e]))).trans (hF x hx hn)
   replace hT := hT.then sw4
   replace hrq1 := Rep.sp hrq1 sw4
   replace hrq2 := Rep.sp hrq2 sw4
   replace hrq3 := Rep.sp hrq3 sw4
   replace Lw := sw4.low
   replace hB := sw4.z hB
   refine ⟨hS, ?_⟩
   replace hd := hw4
   clear hw4
   refine a_end (by kernel_rfl) ?_
   refine x_blk (xS (cG (lP 1 tK rfl ?_)))
   refine lC (o_ai rfl rfl rfl (by omega) rfl rfl ?_)
   refine lP 1 tK rfl (lN ?_)
   exact xN (i + 1) (((l2.set (a + i) l2[b + i]).set (b + i) l2[a + i])) (s6 rfl rfl rfl rfl rfl (gN rfl (by omega))) ⟨by omega, hsw.step (by omega) (by omega) ha1 hb1, hd, Lw, hB, hT, hF⟩ (by omega)
  refine oL tK (fun j v hv => hatq2.cell j v hv) rfl rfl rfl rfl rfl rfl ?_
  refine ⟨hS, ?_⟩
  refine a_one 13 rfl (by kernel_rfl) (oL tK (fun j v hv => hatq1.cell j v hv) rfl rfl rfl rfl rfl rfl ?_)
  refine ⟨hS, ?_⟩
  refine a_ixO 20 tK hd (gE (by simpa using ha1)) rfl rfl rfl (by omega) rfl rfl rfl rfl rfl rfl (by kernel_rfl) i4 hS ?_
  intro ibq5 iuq5 hobq5 hrq5 hatq5
  refine a_one 21 rfl (by kernel_rfl) (o_stO tK hd hobq5 (by first | omega | (simp; omega)) hrq1 Lw rfl rfl rfl rfl rfl rfl ?_)
  intro w5 hw5 sw5 frw5
  replace hF : ∀ x, x < w.heap.size → some x ≠ (v : Value).ownBlock → w5.heap[x]? = w.heap[x]? := fun x hx hn => (frw5 x (lT hx hT.upd.1) (fun e => hn (by rw [hobq5, e]))).trans (hF x hx hn)
  replace hT := hT.then sw5
  replace hrq1 := Rep.sp hrq1 sw5
  replace hrq2 := Rep.sp hrq2 sw5
  replace Lw := sw5.low
  replace hB := sw5.z hB
  refine ⟨hS, ?_⟩
  replace hd := hw5
  clear hw5
  refine a_ixO 22 tK hd (gE (by simpa using hb1)) rfl rfl rfl (by omega) rfl rfl rfl rfl rfl rfl (by kernel_rfl) i4 hS ?_
  intro ibq6 iuq6 hobq6 hrq6 hatq6
  refine a_one 23 rfl (by kernel_rfl) (o_stO tK hd hobq6 (by first | omega | (simp; omega)) hrq2 Lw rfl rfl rfl rfl rfl rfl ?_)
  intro w6 hw6 sw6 frw6
  replace hF : ∀ x, x < w.heap.size → some x ≠ (v : Value).ownBlock → w6.heap[x]? = w.heap[x]? := fun x hx hn => (frw6 x (lT hx hT.upd.1) (fun e => hn (by rw [hobq6, e]))).trans (hF x hx hn)
  replace hT := hT.then sw6
  replace hrq1 := Rep.sp hrq1 sw6
  replace hrq2 := Rep.sp hrq2 sw6
  replace Lw := sw6.low
  replace hB := sw6.z hB
  refine ⟨hS, ?_⟩
  replace hd := hw6
  clear hw6
  refine a_end (by kernel_rfl) ?_
  refine x_blk (xS (cG (lP 1 tK rfl ?_)))
  refine lC (o_ai rfl rfl rfl (by omega) rfl rfl ?_)
  refine lP 1 tK rfl (lN ?_)
  exact xN (i + 1) (((l2.set (a + i) l2[b + i]).set (b + i) l2[a + i])) (s6 rfl rfl rfl rfl rfl (gN rfl (by omega))) ⟨by omega, hsw.step (by omega) (by omega) ha1 hb1, hd, Lw, hB, hT, hF⟩ (by omega)
 refine c_exit (xE (xE (x_blkE ?_)))
 refine x_ret0n rfl ?_
 obtain rfl : i = n := by omega
 exact ⟨rfl, ⟨l2, hd, hsw⟩, hT, hF⟩
theorem rotate_spec [TR : TRep] (M : Nat → Prop) (w : World) (B : Nat) (v : Value) (l : List Fld) (za zm zb : Int) (a m b : Nat) (ea : za = a) (em : zm = m) (eb : zb = b) (ham : a < m) (hmb : m < b) (hbl : b ≤ l.length) (hd : OwnSl 32 B M w v l) (hl : l.length < 140737488355328) (Lw : Low M w) (hB : B ≤ w.heap.size) :
  Calls Try.prog 138 #[v, .int .i64 za, .int .i64 zm, .int .i64 zb, .func (.func 99) #[] #[]] w (Ret fun r w' => r = .tuple #[] ∧ (∃ l', OwnSl 32 B M w' v l' ∧ Rot l l' a m b) ∧ Stp B M M w w' ∧ (∀ x, x < w.heap.size → some x ≠ v.ownBlock → w'.heap[x]? = w.heap[x]?)) := by
 subst ea; subst em; subst eb
 have hT : Stp B M M w w := Stp.refl Lw
 have hF : (∀ x, x < w.heap.size → some x ≠ v.ownBlock → w.heap[x]? = w.heap[x]?) := fun _ _ _ => rfl
 refine cN (n := 58) Try.func138 rfl rfl rfl ?_
 refine q0 (lP 2 tK rfl ?_)
 refine lC (o_ai rfl rfl rfl (by omega) rfl rfl ?_)
 refine lP 1 tK rfl (q1 (q0 (lP 2 tK rfl ?_)))
 refine lC (o_ai rfl rfl rfl (by omega) rfl rfl ?_)
 refine lP 1 tK rfl (q1 (cS (cB ?_)))
 refine c_loop3 (X := Nat) (Y := Nat) (Z := List Fld) (fun i j l' => [(0, v), (1, .int .i64 (a : Int)), (2, .int .i64 (m : Int)), (3, .int .i64 (b : Int)), (4, .func (.func 99) #[] #[]), (10, .int .i64 (i : Nat)), (11, .int .i64 (j : Nat))]) (fun i j l' w' => 0 < i ∧ 0 < j ∧ i ≤ m - a ∧ j ≤ b - m ∧ l'.length = l.length ∧ (∀ k, Rot l' k (m - i) m (m + j) → Rot l k a m b) ∧ OwnSl 32 B M w' v l' ∧ Low M w' ∧ B ≤ w'.heap.size ∧ Stp B M M w w' ∧ (∀ x, x < w.heap.size → some x ≠ (v : Value).ownBlock → w'.heap[x]? = w.heap[x]?)) (fun i j l' => i + j) (m - a) (b - m) (l) (s7 rfl rfl rfl rfl rfl (gN rfl (by omega)) (gN rfl (by omega))) ?_ ?_
 ·exact ⟨by omega, by omega, lR _, lR _, rfl, fun k hk => by rwa [show m - (m - a) = a by omega, show m + (b - m) = b by omega] at hk, hd, Lw, hB, hT, hF⟩
 rintro i j l2 w1 ⟨hi0, hj0, hi, hj, hlen, hrot, hd, Lw, hB, hT, hF⟩
 refine cS (q0 (lP 3 tK rfl (q1 ?_)))
 refine c_ifN _ rfl (fun hne => ?_) (fun hne => ?_)
 ·refine cK (xS (cB (q0 (lP 3 tK rfl (q1 ?_)))))
  refine cP _ rfl (fun hgt => ?_) (fun hgt => ?_)
  ·refine q0 (lP 3 tK rfl ?_)
   refine lC (o_ai rfl rfl rfl (by omega) rfl rfl ?_)
   refine lP 3 tK rfl ?_
   refine lC (oK fo139 rfl rfl rfl (swapRange_spec M _ B v l2 _ _ _ (m - i) m j (by omega) (by omega) (by omega) (by omega) (by omega) hd (by omega) Lw hB) ?_)
   rintro _ w2 ⟨rfl, ⟨l3, hdw2, hsw⟩, sw2, frw2⟩
   replace hF : ∀ x, x < w.heap.size → some x ≠ (v : Value).ownBlock → w2.heap[x]? = w.heap[x]? := fun x hx hn => (frw2 x (lT hx hT.upd.1) hn).trans (hF x hx hn)
   replace hT := hT.then sw2
   replace Lw := sw2.low
   replace hB := sw2.z hB
   replace hd := hdw2
   refine q1 (cG (lP 2 tK rfl ?_))
   refine lC (o_ai rfl rfl rfl (by omega) rfl rfl ?_)
   refine lP 1 tK rfl (q2 ?_)
   exact x_round3 (i - j) (j) (l3) (s7 rfl rfl rfl rfl rfl (gN rfl (by omega)) rfl) ⟨by omega, by omega, by omega, by omega, hsw.len.trans hlen, fun k hk => hrot k (rot_up hsw (by omega) (by omega) hk), hd, Lw, hB, hT, hF⟩ (by omega)
  refine q0 (lP 3 tK rfl ?_)
  refine lC (o_ai rfl rfl rfl (by omega) rfl rfl ?_)
  refine lP 2 tK rfl ?_
  refine lC (o_ai rfl rfl rfl (by omega) rfl rfl ?_)
  refine lP 1 tK rfl ?_
  refine lC (o_ai rfl rfl rfl (by omega) rfl rfl ?_)
  refine lP 2 tK rfl ?_
  refine lC (oK fo139 rfl rfl rfl (swapRange_spec M _ B v l2 _ _ _ (m - i) (m + j - i) i (by omega) (by omega) (by omega) (by omega) (by omega) hd (by omega) Lw hB) ?_)
  rintro _ w3 ⟨rfl, ⟨l3, hdw3, hsw⟩, sw3, frw3⟩
  replace hF : ∀ x, x < w.heap.size → some x ≠ (v : Value).ownBlock → w3.heap[x]? = w.heap[x]? := fun x hx hn => (frw3 x (lT hx hT.upd.1) hn).trans (hF x hx hn)
  replace hT := hT.then sw3
  replace Lw := sw3.low
  replace hB := sw3.z hB
  replace hd := hdw3
  refine q1 (cG (lP 2 tK rfl ?_))
  refine lC (o_ai rfl rfl rfl (by omega) rfl rfl ?_)
  refine lP 1 tK rfl (q2 ?_)
  exact x_round3 (i) (j - i) (l3) (s7 rfl rfl rfl rfl rfl rfl (gN rfl (by omega))) ⟨by omega, by omega, by omega, by omega, hsw.len.trans hlen, fun k hk => hrot k (rot_down hsw (by omega) (by omega) hk), hd, Lw, hB, hT, hF⟩ (by omega)
 refine c_exit (xE (xE (x_blkE (xS (cG (lP 3 tK rfl ?_))))))
 refine lC (o_ai rfl rfl rfl (by omega) rfl rfl ?_)
 refine lP 3 tK rfl ?_
 refine lC (oK fo139 rfl rfl rfl (swapRange_spec M _ B v l2 _ _ _ (m - i) m i (by omega) (by omega) (by omega) (by omega) (by omega) hd (by omega) Lw hB) ?_)
 rintro _ w4 ⟨rfl, ⟨l3, hdw4, hsw⟩, sw4, frw4⟩
 replace hF : ∀ x, x < w.heap.size → some x ≠ (v : Value).ownBlock → w4.heap[x]? = w.heap[x]? := fun x hx hn => (frw4 x (lT hx hT.upd.1) hn).trans (hF x hx hn)
 replace hT := hT.then sw4
 replace Lw := sw4.low
 replace hB := sw4.z hB
 replace hd := hdw4
 refine lN ?_
 refine x_ret0n rfl ?_
 obtain rfl : i = j := by omega
 exact ⟨rfl, ⟨l3, hd, hrot l3 (rot_last hsw (by omega))⟩, hT, hF⟩
theorem symMerge_all [TR : TRep] (d : Nat) : ∀ (M : Nat → Prop) (w : World) (B : Nat) (v : Value) (l : List Fld) (za zm zb : Int) (a m b : Nat) (_ : za = a) (_ : zm = m) (_ : zb = b) (_ : b - a ≤ d) (_ : a < m) (_ : m < b) (_ : b ≤ l.length) (_ : SrtOn l a m) (_ : SrtOn l m b) (_ : OwnSl 32 B M w v l) (_ : l.length < 140737488355328) (_ : Low M w) (_ : B ≤ w.heap.size),
  Calls Try.prog 135 #[v, .int .i64 za, .int .i64 zm, .int .i64 zb, .func (.func 99) #[] #[]] w (Ret fun r w' => r = .tuple #[] ∧ (∃ l', OwnSl 32 B M w' v l' ∧ Rng l l' a b ∧ SrtOn l' a b) ∧ Stp B M M w w' ∧ (∀ x, x < w.heap.size → some x ≠ v.ownBlock → w'.heap[x]? = w.heap[x]?)) := by
 induction d with
 | zero => intro M w B v l za zm zb a m b _ _ _ h1 h2 h3; exfalso; omega
 | succ d ih =>
 intro M w B v l za zm zb a m b ea em eb hda ham hmb hbl hs1 hs2 hd hl Lw hB
 subst ea; subst em; subst eb
 have hT : Stp B M M w w := Stp.refl Lw
 have hF : (∀ x, x < w.heap.size → some x ≠ v.ownBlock → w.heap[x]? = w.heap[x]?) := fun _ _ _ => rfl
 refine cN (n := 220) Try.func135 rfl rfl rfl ?_
 refine cS (q0 (lP 2 tK rfl ?_))
 refine lC (o_ai rfl rfl rfl (by omega) rfl rfl ?_)
 refine lP 1 tK rfl (q1 ?_)
 refine cP _ rfl (fun hc28 => ?_) (fun hc28 => ?_)
 ·refine q0 (lP 2 tK rfl (q1 (q0 (lP 2 tK rfl (q1 (cS (cB ?_)))))))
  obtain rfl : m = a + 1 := by omega
  refine c_loop2 (X := Nat) (Y := Nat) (fun i j => [(0, v), (1, .int .i64 (a : Int)), (2, .int .i64 ((a + 1 : Nat) : Int)), (3, .int .i64 (b : Int)), (4, .func (.func 99) #[] #[]), (10, .int .i64 (i : Nat)), (11, .int .i64 (j : Nat))]) (fun i j w' => a + 1 ≤ i ∧ i ≤ j ∧ j ≤ b ∧ FindF l a (a + 1) b i j ∧ OwnSl 32 B M w' v l ∧ Low M w' ∧ B ≤ w'.heap.size ∧ Stp B M M w w' ∧ (∀ x, x < w.heap.size → some x ≠ (v : Value).ownBlock → w'.heap[x]? = w.heap[x]?)) (fun i j => j - i) (a + 1) (b) (s7 rfl rfl rfl rfl rfl rfl rfl) ?_ ?_
  ·exact ⟨lR _, by omega, lR _, FindF.start _ _ _ _, hd, Lw, hB, hT, hF⟩
  rintro i j w1 ⟨hi, hij, hj, hfd, hd, Lw, hB, hT, hF⟩
  refine cS (q0 (lP 3 tK rfl (q1 ?_)))
  refine cP _ rfl (fun hc33 => ?_) (fun hc33 => ?_)
  ·refine cK (xS (cB (q0 (lP 2 tK rfl ?_))))
   refine lC (o_ai rfl rfl rfl (by omega) rfl rfl ?_)
   refine lC (o_conv tK rfl rfl rfl rfl rfl (IntWalk.u64_in _ (by omega)) rfl rfl ?_)
   refine lC (o_half (y := (((i + j) / 2 : Nat) : Int)) rfl rfl (by omega) (by omega) rfl rfl ?_)
   refine lC (o_conv (y := (((i + j) / 2 : Nat) : Int)) tK rfl rfl rfl rfl rfl (IntWalk.i64_in _ (by omega)) rfl rfl ?_)
   have hh : (i + j) / 2 < l.length := by omega
   have ha1 : a < l.length := by omega
   refine lP 1 tK rfl (q1 (cS ?_))
   refine a_beg (fun _ _ => True) rfl ?_
   intro w2 ew2
   replace hF : ∀ x, x < w.heap.size → some x ≠ (v : Value).ownBlock → w2.heap[x]? = w.heap[x]? := fun x hx hn => (ew2.block x (lT hx hT.upd.1)).trans (hF x hx hn)
   replace hT := hT.then (Stp.Y ew2 Lw hB)
   replace hd := hd.Y Lw hB ew2
   replace Lw := Lw.Y ew2
   replace hB := ew2.z hB
   have hS : True := trivial
   refine a_p 0 tK rfl rfl rfl rfl (by kernel_rfl) i3 hS ?_
   refine a_p 1 tK rfl rfl rfl rfl (by kernel_rfl) i3 hS ?_
   refine a_p 2 tK rfl rfl rfl rfl (by kernel_rfl) i3 hS ?_
   refine a_ixO 3 tK hd (gE hh) rfl rfl rfl (by omega) rfl rfl rfl rfl rfl rfl (by kernel_rfl) i4 hS ?_
   intro ibq1 iuq1 hobq1 hrq1 hatq1
   obtain ⟨szq1, kvq1, rfl, hyq1⟩ := fldg_open hrq1
   replace hatq1 : OAt _ _ _ [.string l[(i + j) / 2].name, .int .u8 l[(i + j) / 2].ty.op, .string l[(i + j) / 2].ty.name, .int .i64 l[(i + j) / 2].ty.n, kvq1] := hatq1
   refine a_p 5 tK rfl rfl rfl rfl (by kernel_rfl) i3 hS ?_
   refine a_p 6 tK rfl rfl rfl rfl (by kernel_rfl) i3 hS ?_
   refine a_ixO 7 tK hd (gE ha1) rfl rfl rfl (by omega) rfl rfl rfl rfl rfl rfl (by kernel_rfl) i4 hS ?_
   intro ibq2 iuq2 hobq2 hrq2 hatq2
   obtain ⟨szq2, kvq2, rfl, hyq2⟩ := fldg_open hrq2
   replace hatq2 : OAt _ _ _ [.string l[a].name, .int .u8 l[a].ty.op, .string l[a].ty.name, .int .i64 l[a].ty.n, kvq2] := hatq2
   refine a_all [4, 8] (by kernel_rfl) rfl (all_cons (i := 4) rfl ?_ (all_cons (i := 8) rfl ?_ all_nil))
   ·refine oL tK (fun j v hv => hatq1.cell j v hv) rfl rfl rfl rfl rfl rfl ?_
    refine ⟨hS, ?_⟩
    refine a_one 8 rfl (by kernel_rfl) (oL tK (fun j v hv => hatq2.cell j v hv) rfl rfl rfl rfl rfl rfl ?_)
    refine ⟨hS, ?_⟩
    refine a_one 9 rfl (by kernel_rfl) (o_dyn rfl fo99 rfl rfl rfl (byName_spec M _ _ _ _ _ hrq1 hrq2 Lw) ?_)
    rintro _ w3 ⟨rfl, ew3⟩
    replace hF : ∀ x, x < w.heap.size → some x ≠ (v : Value).ownBlock → w3.heap[x]? = w.heap[x]? := fun x hx hn => (ew3.block x (lT hx hT.upd.1)).trans (hF x hx hn)
    replace hT := hT.then (Stp.Y ew3 Lw hB)
    replace hd := hd.Y Lw hB ew3
    replace hrq1 := Rep.Y hrq1 ew3
    replace hrq2 := Rep.Y hrq2 ew3
    replace Lw := Lw.Y ew3
    replace hB := ew3.z hB
    refine ⟨hS, ?_⟩
    refine a_p 10 tK rfl rfl rfl rfl (by kernel_rfl) i3 hS ?_
    refine a_end (by kernel_rfl) ?_
    refine xS ?_
    refine cP _ rfl (fun hlt => ?_) (fun hlt => ?_)
    ·refine cG (lP 1 tK rfl ?_)
     refine lC (o_ai rfl rfl rfl (by omega) rfl rfl ?_)
     refine lP 1 tK rfl (q2 ?_)
     exact xN ((i + j) / 2 + 1) (j) (s7 rfl rfl rfl rfl rfl (gN rfl (by omega)) rfl) ⟨by omega, by omega, hj, hfd.up (by omega) hh ha1 hlt, hd, Lw, hB, hT, hF⟩ (by omega)
    refine cG (lP 2 tK rfl (q2 ?_))
    exact xN (i) ((i + j) / 2) (s7 rfl rfl rfl rfl rfl rfl rfl) ⟨hi, by omega, by omega, hfd.down (by omega) hh ha1 hlt, hd, Lw, hB, hT, hF⟩ (by omega)
   refine oL tK (fun j v hv => hatq2.cell j v hv) rfl rfl rfl rfl rfl rfl ?_
   refine ⟨hS, ?_⟩
   refine a_one 4 rfl (by kernel_rfl) (oL tK (fun j v hv => hatq1.cell j v hv) rfl rfl rfl rfl rfl rfl ?_)
   refine ⟨hS, ?_⟩
   refine a_one 9 rfl (by kernel_rfl) (o_dyn rfl fo99 rfl rfl rfl (byName_spec M _ _ _ _ _ hrq1 hrq2 Lw) ?_)
   rintro _ w4 ⟨rfl, ew4⟩
   replace hF : ∀ x, x < w.heap.size → some x ≠ (v : Value).ownBlock → w4.heap[x]? = w.heap[x]? := fun x hx hn => (ew4.block x (lT hx hT.upd.1)).trans (hF x hx hn)
   replace hT := hT.then (Stp.Y ew4 Lw hB)
   replace hd := hd.Y Lw hB ew4
   replace hrq1 := Rep.Y hrq1 ew4
   replace hrq2 := Rep.Y hrq2 ew4
   replace Lw := Lw.Y ew4
   replace hB := ew4.z hB
   refine ⟨hS, ?_⟩
   refine a_p 10 tK rfl rfl rfl rfl (by kernel_rfl) i3 hS ?_
   refine a_end (by kernel_rfl) ?_
   refine xS ?_
   refine cP _ rfl (fun hlt => ?_) (fun hlt => ?_)
   ·refine cG (lP 1 tK rfl ?_)
    refine lC (o_ai rfl rfl rfl (by omega) rfl rfl ?_)
    refine lP 1 tK rfl (q2 ?_)
    exact xN ((i + j) / 2 + 1) (j) (s7 rfl rfl rfl rfl rfl (gN rfl (by omega)) rfl) ⟨by omega, by omega, hj, hfd.up (by omega) hh ha1 hlt, hd, Lw, hB, hT, hF⟩ (by omega)
   refine cG (lP 2 tK rfl (q2 ?_))
   exact xN (i) ((i + j) / 2) (s7 rfl rfl rfl rfl rfl rfl rfl) ⟨hi, by omega, by omega, hfd.down (by omega) hh ha1 hlt, hd, Lw, hB, hT, hF⟩ (by omega)
  refine c_exit (xE (xE (x_blkE (xS (cS (q0 (lP 2 tK rfl (q1 (cB ?_)))))))))
  have hrun := hfd.run (by omega) hij hs2 hbl hmb hi hj
  refine c_loop2 (X := Nat) (Y := List Fld) (fun k l' => [(0, v), (1, .int .i64 (a : Int)), (2, .int .i64 ((a + 1 : Nat) : Int)), (3, .int .i64 (b : Int)), (4, .func (.func 99) #[] #[]), (10, .int .i64 (i : Nat)), (13, .int .i64 (k : Nat))]) (fun k l' w' => a ≤ k ∧ k + 1 ≤ i ∧ RunF l' a k i b ∧ Rng l l' a b ∧ OwnSl 32 B M w' v l' ∧ Low M w' ∧ B ≤ w'.heap.size ∧ Stp B M M w w' ∧ (∀ x, x < w.heap.size → some x ≠ (v : Value).ownBlock → w'.heap[x]? = w.heap[x]?)) (fun k l' => b - k) (a) (l) (s7 rfl rfl rfl rfl rfl rfl rfl) ?_ ?_
  ·exact ⟨lR _, hi, hrun, Rng.refl _ _ _, hd, Lw, hB, hT, hF⟩
  rintro k l3 w5 ⟨hak, hki, hrn, hrg, hd, Lw, hB, hT, hF⟩
  refine cS (q0 (lP 2 tK rfl ?_))
  refine lC (o_ai rfl rfl rfl (by omega) rfl rfl ?_)
  refine lP 1 tK rfl (q1 ?_)
  refine cP _ rfl (fun hc58 => ?_) (fun hc58 => ?_)
  ·have hlen3 := hrg.len
   have hk1 : k + 1 < l3.length := by omega
   have hk0 : k < l3.length := by omega
   have hne : l3[k].name ≠ l3[k + 1].name := fun e => by
    have := hrn.mid (k + 1) l3[k] l3[k + 1] (by omega) (by omega) (gE hk0) (gE hk1)
    rw [e, show cmpN l3[k + 1].name l3[k + 1].name = 0 from cmpN_eq.2 rfl] at this
    omega
   refine cK (xS (cS (cB ?_)))
   refine a_beg (fun _ _ => True) rfl ?_
   intro w6 ew6
   replace hF : ∀ x, x < w.heap.size → some x ≠ (v : Value).ownBlock → w6.heap[x]? = w.heap[x]? := fun x hx hn => (ew6.block x (lT hx hT.upd.1)).trans (hF x hx hn)
   replace hT := hT.then (Stp.Y ew6 Lw hB)
   replace hd := hd.Y Lw hB ew6
   replace Lw := Lw.Y ew6
   replace hB := ew6.z hB
   have hS : True := trivial
   refine a_p 0 tK rfl rfl rfl rfl (by kernel_rfl) i3 hS ?_
   refine a_p 1 tK rfl rfl rfl rfl (by kernel_rfl) i3 hS ?_
   refine a_p 2 tK rfl rfl rfl rfl (by kernel_rfl) i3 hS ?_
   refine a_p 3 tK rfl rfl rfl rfl (by kernel_rfl) i3 hS ?_
   refine a_ar 4 rfl rfl rfl rfl (IntWalk.i64_in _ (by omega)) rfl rfl (by kernel_rfl) i3 hS ?_
   refine a_p 5 tK rfl rfl rfl rfl (by kernel_rfl) i3 hS ?_
   refine a_p 6 tK rfl rfl rfl rfl (by kernel_rfl) i3 hS ?_
   refine a_ar 7 rfl rfl rfl rfl (IntWalk.i64_in _ (by omega)) rfl rfl (by kernel_rfl) i3 hS ?_
   refine a_ixO 8 tK hd (gE hk1) rfl rfl rfl (by omega) rfl rfl rfl rfl rfl rfl (by kernel_rfl) i4 hS ?_
   intro ibq3 iuq3 hobq3 hrq3 hatq3
   obtain ⟨szq3, kvq3, rfl, hyq3⟩ := fldg_open hrq3
   replace hatq3 : OAt _ _ _ [.string l3[k + 1].name, .int .u8 l3[k + 1].ty.op, .string l3[k + 1].ty.name, .int .i64 l3[k + 1].ty.n, kvq3] := hatq3
   refine a_p 10 tK rfl rfl rfl rfl (by kernel_rfl) i3 hS ?_
   refine a_p 11 tK rfl rfl rfl rfl (by kernel_rfl) i3 hS ?_
   refine a_ixO 12 tK hd (gE hk0) rfl rfl rfl (by omega) rfl rfl rfl rfl rfl rfl (by kernel_rfl) i4 hS ?_
   intro ibq4 iuq4 hobq4 hrq4 hatq4
   obtain ⟨szq4, kvq4, rfl, hyq4⟩ := fldg_open hrq4
   replace hatq4 : OAt _ _ _ [.string l3[k].name, .int .u8 l3[k].ty.op, .string l3[k].ty.name, .int .i64 l3[k].ty.n, kvq4] := hatq4
   refine a_all [9, 13] (by kernel_rfl) rfl (all_cons (i := 9) rfl ?_ (all_cons (i := 13) rfl ?_ all_nil))
   ·refine oL tK (fun j v hv => hatq3.cell j v hv) rfl rfl rfl rfl rfl rfl ?_
    refine ⟨hS, ?_⟩
    refine a_one 13 rfl (by kernel_rfl) (oL tK (fun j v hv => hatq4.cell j v hv) rfl rfl rfl rfl rfl rfl ?_)
    refine ⟨hS, ?_⟩
    refine a_ixO 14 tK hd (gE hk0) rfl rfl rfl (by omega) rfl rfl rfl rfl rfl rfl (by kernel_rfl) i4 hS ?_
    intro ibq5 iuq5 hobq5 hrq5 hatq5
    obtain ⟨szq5, kvq5, rfl, hyq5⟩ := fldg_open hrq5
    replace hatq5 : OAt _ _ _ [.string l3[k].name, .int .u8 l3[k].ty.op, .string l3[k].ty.name, .int .i64 l3[k].ty.n, kvq5] := hatq5
    refine a_one 15 rfl (by kernel_rfl) (o_stO tK hd hobq5 (by first | omega | (simp; omega)) hrq3 Lw rfl rfl rfl rfl rfl rfl ?_)
    intro w7 hw7 sw7 frw7
    replace hF : ∀ x, x < w.heap.size → some x ≠ (v : Value).ownBlock → w7.heap[x]? = w.heap[x]? := fun x hx hn => (frw7 x (lT hx hT.upd.1) (fun e => hn (by rw [hobq5, e]))).trans (hF x hx hn)
    replace hT := hT.then sw7
    replace hrq3 := Rep.sp hrq3 sw7
    replace hrq4 := Rep.sp hrq4 sw7
    replace hrq5 := Rep.sp hrq5 sw7
    replace Lw := sw7.low
    replace hB := sw7.z hB
    refine ⟨hS, ?_⟩
    replace hd := hw7
    clear hw7
    refine a_ixO 16 tK hd (gE (by simpa using hk1)) rfl rfl rfl (by omega) rfl rfl rfl rfl rfl rfl (by kernel_rfl) i4 hS ?_
    intro ibq6 iuq6 hobq6 hrq6 hatq6
    refine a_one 17 rfl (by kernel_rfl) (o_stO tK hd hobq6 (by first | omega | (simp; omega)) hrq4 Lw rfl rfl rfl rfl rfl rfl ?_)
    intro w8 hw8 sw8 frw8
    replace hF : ∀ x, x < w.heap.size → some x ≠ (v : Value).ownBlock → w8.heap[x]? = w.heap[x]? := fun x hx hn => (frw8 x (lT hx hT.upd.1) (fun e => hn (by rw [hobq6, e]))).trans (hF x hx hn)
    replace hT := hT.then sw8
    replace hrq3 := Rep.sp hrq3 sw8
    replace hrq4 := Rep.sp hrq4 sw8
    replace hrq5 := Rep.sp hrq5 sw8
    replace Lw := sw8.low
    replace hB := sw8.z hB
    refine ⟨hS, ?_⟩
    replace hd := hw8
    clear hw8
    refine a_end (by kernel_rfl) ?_
    refine x_blk (xS (cG (lP 1 tK rfl ?_)))
    refine lC (o_ai rfl rfl rfl (by omega) rfl rfl ?_)
    refine lP 1 tK rfl (lN ?_)
    exact xN (k + 1) (((l3.set k l3[k + 1]).set (k + 1) l3[k])) (s7 rfl rfl rfl rfl rfl rfl (gN rfl (by omega))) ⟨by omega, by omega, by rw [List.set_comm _ _ (by omega)]; exact runF_step hrn (by omega) hak (by omega) hk1, hrg.trans (by rw [List.set_comm _ _ (by omega)]; exact swap_rng hk1 hne (by omega) (by omega)), hd, Lw, hB, hT, hF⟩ (by omega)
   refine oL tK (fun j v hv => hatq4.cell j v hv) rfl rfl rfl rfl rfl rfl ?_
   refine ⟨hS, ?_⟩
   refine a_one 9 rfl (by kernel_rfl) (oL tK (fun j v hv => hatq3.cell j v hv) rfl rfl rfl rfl rfl rfl ?_)
   refine ⟨hS, ?_⟩
   refine a_ixO 14 tK hd (gE (by simpa using hk0)) rfl rfl rfl (by omega) rfl rfl rfl rfl rfl rfl (by kernel_rfl) i4 hS ?_
   intro ibq7 iuq7 hobq7 hrq7 hatq7
   refine a_one 15 rfl (by kernel_rfl) (o_stO tK hd hobq7 (by first | omega | (simp; omega)) hrq3 Lw rfl rfl rfl rfl rfl rfl ?_)
   intro w9 hw9 sw9 frw9
   replace hF : ∀ x, x < w.heap.size → some x ≠ (v : Value).ownBlock → w9.heap[x]? = w.heap[x]? := fun x hx hn => (frw9 x (lT hx hT.upd.1) (fun e => hn (by rw [hobq7, e]))).trans (hF x hx hn)
   replace hT := hT.then sw9
   replace hrq3 := Rep.sp hrq3 sw9
   replace hrq4 := Rep.sp hrq4 sw9
   replace Lw := sw9.low
   replace hB := sw9.z hB
   refine ⟨hS, ?_⟩
   replace hd := hw9
   clear hw9
   refine a_ixO 16 tK hd (gE (by simpa using hk1)) rfl rfl rfl (by omega) rfl rfl rfl rfl rfl rfl (by kernel_rfl) i4 hS ?_
   intro ibq8 iuq8 hobq8 hrq8 hatq8
   refine a_one 17 rfl (by kernel_rfl) (o_stO tK hd hobq8 (by first | omega | (simp; omega)) hrq4 Lw rfl rfl rfl rfl rfl rfl ?_)
   intro w10 hw10 sw10 frw10
   replace hF : ∀ x, x < w.heap.size → some x ≠ (v : Value).ownBlock → w10.heap[x]? = w.heap[x]? := fun x hx hn => (frw10 x (lT hx hT.upd.1) (fun e => hn (by rw [hobq8, e]))).trans (hF x hx hn)
   replace hT := hT.then sw10
   replace hrq3 := Rep.sp hrq3 sw10
   replace hrq4 := Rep.sp hrq4 sw10
   replace Lw := sw10.low
   replace hB := sw10.z hB
   refine ⟨hS, ?_⟩
   replace hd := hw10
   clear hw10
   refine a_end (by kernel_rfl) ?_
   refine x_blk (xS (cG (lP 1 tK rfl ?_)))
   refine lC (o_ai rfl rfl rfl (by omega) rfl rfl ?_)
   refine lP 1 tK rfl (lN ?_)
   exact xN (k + 1) (((l3.set k l3[k + 1]).set (k + 1) l3[k])) (s7 rfl rfl rfl rfl rfl rfl (gN rfl (by omega))) ⟨by omega, by omega, by rw [List.set_comm _ _ (by omega)]; exact runF_step hrn (by omega) hak (by omega) hk1, hrg.trans (by rw [List.set_comm _ _ (by omega)]; exact swap_rng hk1 hne (by omega) (by omega)), hd, Lw, hB, hT, hF⟩ (by omega)
  refine c_exit (xE (xE (x_blkE (xS (cR (xR ?_))))))
  refine x_ret0 rfl ?_
  exact ⟨rfl, ⟨l3, hd, hrg, runF_end hrn (by omega)⟩, hT, hF⟩
 refine cK (xS (cS (q0 (lP 2 tK rfl ?_))))
 refine lC (o_ai rfl rfl rfl (by omega) rfl rfl ?_)
 refine lP 1 tK rfl (q1 ?_)
 refine cP _ rfl (fun hc80 => ?_) (fun hc80 => ?_)
 ·refine q0 (lP 2 tK rfl (q1 (q0 (lP 2 tK rfl (q1 (cS (cB ?_)))))))
  obtain rfl : b = m + 1 := by omega
  refine c_loop2 (X := Nat) (Y := Nat) (fun i j => [(0, v), (1, .int .i64 (a : Int)), (2, .int .i64 (m : Int)), (3, .int .i64 ((m + 1 : Nat) : Int)), (4, .func (.func 99) #[] #[]), (14, .int .i64 (i : Nat)), (15, .int .i64 (j : Nat))]) (fun i j w' => a ≤ i ∧ i ≤ j ∧ j ≤ m ∧ FindB l a m i j ∧ OwnSl 32 B M w' v l ∧ Low M w' ∧ B ≤ w'.heap.size ∧ Stp B M M w w' ∧ (∀ x, x < w.heap.size → some x ≠ (v : Value).ownBlock → w'.heap[x]? = w.heap[x]?)) (fun i j => j - i) (a) (m) (s7 rfl rfl rfl rfl rfl rfl rfl) ?_ ?_
  ·exact ⟨lR _, by omega, lR _, FindB.start _ _ _, hd, Lw, hB, hT, hF⟩
  rintro i j w11 ⟨hi, hij, hj, hfd, hd, Lw, hB, hT, hF⟩
  refine cS (q0 (lP 3 tK rfl (q1 ?_)))
  refine cP _ rfl (fun hc85 => ?_) (fun hc85 => ?_)
  ·refine cK (xS (cB (q0 (lP 2 tK rfl ?_))))
   refine lC (o_ai rfl rfl rfl (by omega) rfl rfl ?_)
   refine lC (o_conv tK rfl rfl rfl rfl rfl (IntWalk.u64_in _ (by omega)) rfl rfl ?_)
   refine lC (o_half (y := (((i + j) / 2 : Nat) : Int)) rfl rfl (by omega) (by omega) rfl rfl ?_)
   refine lC (o_conv (y := (((i + j) / 2 : Nat) : Int)) tK rfl rfl rfl rfl rfl (IntWalk.i64_in _ (by omega)) rfl rfl ?_)
   have hh : (i + j) / 2 < l.length := by omega
   have hm1 : m < l.length := by omega
   refine lP 1 tK rfl (q1 (cS ?_))
   refine a_beg (fun _ _ => True) rfl ?_
   intro w12 ew12
   replace hF : ∀ x, x < w.heap.size → some x ≠ (v : Value).ownBlock → w12.heap[x]? = w.heap[x]? := fun x hx hn => (ew12.block x (lT hx hT.upd.1)).trans (hF x hx hn)
   replace hT := hT.then (Stp.Y ew12 Lw hB)
   replace hd := hd.Y Lw hB ew12
   replace Lw := Lw.Y ew12
   replace hB := ew12.z hB
   have hS : True := trivial
   refine a_p 0 tK rfl rfl rfl rfl (by kernel_rfl) i3 hS ?_
   refine a_p 1 tK rfl rfl rfl rfl (by kernel_rfl) i3 hS ?_
   refine a_p 2 tK rfl rfl rfl rfl (by kernel_rfl) i3 hS ?_
   refine a_ixO 3 tK hd (gE hm1) rfl rfl rfl (by omega) rfl rfl rfl rfl rfl rfl (by kernel_rfl) i4 hS ?_
   intro ibq9 iuq9 hobq9 hrq9 hatq9
   obtain ⟨szq9, kvq9, rfl, hyq9⟩ := fldg_open hrq9
   replace hatq9 : OAt _ _ _ [.string l[m].name, .int .u8 l[m].ty.op, .string l[m].ty.name, .int .i64 l[m].ty.n, kvq9] := hatq9
   refine a_p 5 tK rfl rfl rfl rfl (by kernel_rfl) i3 hS ?_
   refine a_p 6 tK rfl rfl rfl rfl (by kernel_rfl) i3 hS ?_
   refine a_ixO 7 tK hd (gE hh) rfl rfl rfl (by omega) rfl rfl rfl rfl rfl rfl (by kernel_rfl) i4 hS ?_
   intro ibq10 iuq10 hobq10 hrq10 hatq10
   obtain ⟨szq10, kvq10, rfl, hyq10⟩ := fldg_open hrq10
   replace hatq10 : OAt _ _ _ [.string l[(i + j) / 2].name, .int .u8 l[(i + j) / 2].ty.op, .string l[(i + j) / 2].ty.name, .int .i64 l[(i + j) / 2].ty.n, kvq10] := hatq10
   refine a_all [4, 8] (by kernel_rfl) rfl (all_cons (i := 4) rfl ?_ (all_cons (i := 8) rfl ?_ all_nil))
   ·refine oL tK (fun j v hv => hatq9.cell j v hv) rfl rfl rfl rfl rfl rfl ?_
    refine ⟨hS, ?_⟩
    refine a_one 8 rfl (by kernel_rfl) (oL tK (fun j v hv => hatq10.cell j v hv) rfl rfl rfl rfl rfl rfl ?_)
    refine ⟨hS, ?_⟩
    refine a_one 9 rfl (by kernel_rfl) (o_dyn rfl fo99 rfl rfl rfl (byName_spec M _ _ _ _ _ hrq9 hrq10 Lw) ?_)
    rintro _ w13 ⟨rfl, ew13⟩
    replace hF : ∀ x, x < w.heap.size → some x ≠ (v : Value).ownBlock → w13.heap[x]? = w.heap[x]? := fun x hx hn => (ew13.block x (lT hx hT.upd.1)).trans (hF x hx hn)
    replace hT := hT.then (Stp.Y ew13 Lw hB)
    replace hd := hd.Y Lw hB ew13
    replace hrq9 := Rep.Y hrq9 ew13
    replace hrq10 := Rep.Y hrq10 ew13
    replace Lw := Lw.Y ew13
    replace hB := ew13.z hB
    refine ⟨hS, ?_⟩
    refine a_p 10 tK rfl rfl rfl rfl (by kernel_rfl) i3 hS ?_
    refine a_p 11 tK rfl rfl rfl rfl (by kernel_rfl) i3 hS ?_
    refine a_end (by kernel_rfl) ?_
    refine xS ?_
    refine c_ifN _ rfl (fun hlt => ?_) (fun hlt => ?_)
    ·refine cG (lP 1 tK rfl ?_)
     refine lC (o_ai rfl rfl rfl (by omega) rfl rfl ?_)
     refine lP 1 tK rfl (q2 ?_)
     exact xN ((i + j) / 2 + 1) (j) (s7 rfl rfl rfl rfl rfl (gN rfl (by omega)) rfl) ⟨by omega, by omega, hj, hfd.up (by omega) hh hm1 hlt, hd, Lw, hB, hT, hF⟩ (by omega)
    refine cG (lP 2 tK rfl (q2 ?_))
    exact xN (i) ((i + j) / 2) (s7 rfl rfl rfl rfl rfl rfl rfl) ⟨hi, by omega, by omega, hfd.down (by omega) hh hm1 hlt, hd, Lw, hB, hT, hF⟩ (by omega)
   refine oL tK (fun j v hv => hatq10.cell j v hv) rfl rfl rfl rfl rfl rfl ?_
   refine ⟨hS, ?_⟩
   refine a_one 4 rfl (by kernel_rfl) (oL tK (fun j v hv => hatq9.cell j v hv) rfl rfl rfl rfl rfl rfl ?_)
   refine ⟨hS, ?_⟩
   refine a_one 9 rfl (by kernel_rfl) (o_dyn rfl fo99 rfl rfl rfl (byName_spec M _ _ _ _ _ hrq9 hrq10 Lw) ?_)
   rintro _ w14 ⟨rfl, ew14⟩
   replace hF : ∀ x, x < w.heap.size → some x ≠ (v : Value).ownBlock → w14.heap[x]? = w.heap[x]? := fun x hx hn => (ew14.block x (lT hx hT.upd.1)).trans (hF x hx hn)
   replace hT := hT.then (Stp.Y ew14 Lw hB)
   replace hd := hd.Y Lw hB ew14
   replace hrq9 := Rep.Y hrq9 ew14
   replace hrq10 := Rep.Y hrq10 ew14
   replace Lw := Lw.Y ew14
   replace hB := ew14.z hB
   refine ⟨hS, ?_⟩
   refine a_p 10 tK rfl rfl rfl rfl (by kernel_rfl) i3 hS ?_
   refine a_p 11 tK rfl rfl rfl rfl (by kernel_rfl) i3 hS ?_
   refine a_end (by kernel_rfl) ?_
   refine xS ?_
   refine c_ifN _ rfl (fun hlt => ?_) (fun hlt => ?_)
   ·refine cG (lP 1 tK rfl ?_)
    refine lC (o_ai rfl rfl rfl (by omega) rfl rfl ?_)
    refine lP 1 tK rfl (q2 ?_)
    exact xN ((i + j) / 2 + 1) (j) (s7 rfl rfl rfl rfl rfl (gN rfl (by omega)) rfl) ⟨by omega, by omega, hj, hfd.up (by omega) hh hm1 hlt, hd, Lw, hB, hT, hF⟩ (by omega)
   refine cG (lP 2 tK rfl (q2 ?_))
   exact xN (i) ((i + j) / 2) (s7 rfl rfl rfl rfl rfl rfl rfl) ⟨hi, by omega, by omega, hfd.down (by omega) hh hm1 hlt, hd, Lw, hB, hT, hF⟩ (by omega)
  refine c_exit (xE (xE (x_blkE (xS (cS (q0 (lP 2 tK rfl (q1 (cB ?_)))))))))
  have hrun := hfd.run (by omega) hij hs1 (by omega) hi hj
  refine c_loop2 (X := Nat) (Y := List Fld) (fun k l' => [(0, v), (1, .int .i64 (a : Int)), (2, .int .i64 (m : Int)), (3, .int .i64 ((m + 1 : Nat) : Int)), (4, .func (.func 99) #[] #[]), (14, .int .i64 (i : Nat)), (17, .int .i64 (k : Nat))]) (fun k l' w' => i ≤ k ∧ k ≤ m ∧ RunB l' a k i (m + 1) ∧ Rng l l' a (m + 1) ∧ OwnSl 32 B M w' v l' ∧ Low M w' ∧ B ≤ w'.heap.size ∧ Stp B M M w w' ∧ (∀ x, x < w.heap.size → some x ≠ (v : Value).ownBlock → w'.heap[x]? = w.heap[x]?)) (fun k l' => k) (m) (l) (s7 rfl rfl rfl rfl rfl rfl rfl) ?_ ?_
  ·exact ⟨by omega, lR _, hrun, Rng.refl _ _ _, hd, Lw, hB, hT, hF⟩
  rintro k l3 w15 ⟨hik, hkm, hrn, hrg, hd, Lw, hB, hT, hF⟩
  refine cS (q0 (lP 3 tK rfl (q1 ?_)))
  refine cP _ rfl (fun hc110 => ?_) (fun hc110 => ?_)
  ·obtain ⟨k0, rfl⟩ : ∃ k0, k = k0 + 1 := ⟨k - 1, by omega⟩
   have hlen3 := hrg.len
   have hk1 : k0 + 1 < l3.length := by omega
   have hk0 : k0 < l3.length := by omega
   have hne : l3[k0].name ≠ l3[k0 + 1].name := fun e => by
    have := hrn.mid k0 l3[k0] l3[k0 + 1] (by omega) (by omega) (gE hk0) (gE hk1)
    rw [e, show cmpN l3[k0 + 1].name l3[k0 + 1].name = 0 from cmpN_eq.2 rfl] at this
    omega
   refine cK (xS (cS (cB ?_)))
   refine a_beg (fun _ _ => True) rfl ?_
   intro w16 ew16
   replace hF : ∀ x, x < w.heap.size → some x ≠ (v : Value).ownBlock → w16.heap[x]? = w.heap[x]? := fun x hx hn => (ew16.block x (lT hx hT.upd.1)).trans (hF x hx hn)
   replace hT := hT.then (Stp.Y ew16 Lw hB)
   replace hd := hd.Y Lw hB ew16
   replace Lw := Lw.Y ew16
   replace hB := ew16.z hB
   have hS : True := trivial
   refine a_p 0 tK rfl rfl rfl rfl (by kernel_rfl) i3 hS ?_
   refine a_p 1 tK rfl rfl rfl rfl (by kernel_rfl) i3 hS ?_
   refine a_p 2 tK rfl rfl rfl rfl (by kernel_rfl) i3 hS ?_
   refine a_p 3 tK rfl rfl rfl rfl (by kernel_rfl) i3 hS ?_
   refine a_ar 4 rfl rfl rfl rfl (IntWalk.i64_in _ (by omega)) rfl rfl (by kernel_rfl) i3 hS ?_
   refine a_p 5 tK rfl rfl rfl rfl (by kernel_rfl) i3 hS ?_
   refine a_p 6 tK rfl rfl rfl rfl (by kernel_rfl) i3 hS ?_
   refine a_ar 7 rfl rfl rfl rfl (IntWalk.i64_in _ (by omega)) rfl rfl (by kernel_rfl) i3 hS ?_
   refine a_ixO 8 tK hd (gE hk0) rfl rfl rfl (by omega) rfl rfl rfl rfl rfl rfl (by kernel_rfl) i4 hS ?_
   intro ibq11 iuq11 hobq11 hrq11 hatq11
   obtain ⟨szq11, kvq11, rfl, hyq11⟩ := fldg_open hrq11
   replace hatq11 : OAt _ _ _ [.string l3[k0].name, .int .u8 l3[k0].ty.op, .string l3[k0].ty.name, .int .i64 l3[k0].ty.n, kvq11] := hatq11
   refine a_p 10 tK rfl rfl rfl rfl (by kernel_rfl) i3 hS ?_
   refine a_p 11 tK rfl rfl rfl rfl (by kernel_rfl) i3 hS ?_
   refine a_ixO 12 tK hd (gE hk1) rfl rfl rfl (by omega) rfl rfl rfl rfl rfl rfl (by kernel_rfl) i4 hS ?_
   intro ibq12 iuq12 hobq12 hrq12 hatq12
   obtain ⟨szq12, kvq12, rfl, hyq12⟩ := fldg_open hrq12
   replace hatq12 : OAt _ _ _ [.string l3[k0 + 1].name, .int .u8 l3[k0 + 1].ty.op, .string l3[k0 + 1].ty.name, .int .i64 l3[k0 + 1].ty.n, kvq12] := hatq12
   refine a_all [9, 13] (by kernel_rfl) rfl (all_cons (i := 9) rfl ?_ (all_cons (i := 13) rfl ?_ all_nil))
   ·refine oL tK (fun j v hv => hatq11.cell j v hv) rfl rfl rfl rfl rfl rfl ?_
    refine ⟨hS, ?_⟩
    refine a_one 13 rfl (by kernel_rfl) (oL tK (fun j v hv => hatq12.cell j v hv) rfl rfl rfl rfl rfl rfl ?_)
    refine ⟨hS, ?_⟩
    refine a_ixO 14 tK hd (gE hk1) rfl rfl rfl (by omega) rfl rfl rfl rfl rfl rfl (by kernel_rfl) i4 hS ?_
    intro ibq13 iuq13 hobq13 hrq13 hatq13
    obtain ⟨szq13, kvq13, rfl, hyq13⟩ := fldg_open hrq13
    replace hatq13 : OAt _ _ _ [.string l3[k0 + 1].name, .int .u8 l3[k0 + 1].ty.op, .string l3[k0 + 1].ty.name, .int .i64 l3[k0 + 1].ty.n, kvq13] := hatq13
    refine a_one 15 rfl (by kernel_rfl) (o_stO tK hd hobq13 (by first | omega | (simp; omega)) hrq11 Lw rfl rfl rfl rfl rfl rfl ?_)
    intro w17 hw17 sw17 frw17
    replace hF : ∀ x, x < w.heap.size → some x ≠ (v : Value).ownBlock → w17.heap[x]? = w.heap[x]? := fun x hx hn => (frw17 x (lT hx hT.upd.1) (fun e => hn (by rw [hobq13, e]))).trans (hF x hx hn)
    replace hT := hT.then sw17
    replace hrq11 := Rep.sp hrq11 sw17
    replace hrq12 := Rep.sp hrq12 sw17
    replace hrq13 := Rep.sp hrq13 sw17
    replace Lw := sw17.low
    replace hB := sw17.z hB
    refine ⟨hS, ?_⟩
    replace hd := hw17
    clear hw17
    refine a_ixO 16 tK hd (gE (by simpa using hk0)) rfl rfl rfl (by omega) rfl rfl rfl rfl rfl rfl (by kernel_rfl) i4 hS ?_
    intro ibq14 iuq14 hobq14 hrq14 hatq14
    refine a_one 17 rfl (by kernel_rfl) (o_stO tK hd hobq14 (by first | omega | (simp; omega)) hrq12 Lw rfl rfl rfl rfl rfl rfl ?_)
    intro w18 hw18 sw18 frw18
    replace hF : ∀ x, x < w.heap.size → some x ≠ (v : Value).ownBlock → w18.heap[x]? = w.heap[x]? := fun x hx hn => (frw18 x (lT hx hT.upd.1) (fun e => hn (by rw [hobq14, e]))).trans (hF x hx hn)
    replace hT := hT.then sw18
    replace hrq11 := Rep.sp hrq11 sw18
    replace hrq12 := Rep.sp hrq12 sw18
    replace hrq13 := Rep.sp hrq13 sw18
    replace Lw := sw18.low
    replace hB := sw18.z hB
    refine ⟨hS, ?_⟩
    replace hd := hw18
    clear hw18
    refine a_end (by kernel_rfl) ?_
    refine x_blk (xS (cG (lP 1 tK rfl ?_)))
    refine lC (o_ai rfl rfl rfl (by omega) rfl rfl ?_)
    refine lP 1 tK rfl (lN ?_)
    exact xN (k0) (((l3.set (k0 + 1) l3[k0]).set k0 l3[k0 + 1])) (s7 rfl rfl rfl rfl rfl rfl (gN rfl (by omega))) ⟨by omega, by omega, runB_step hrn (by omega) hi (by omega) hk1, hrg.trans (swap_rng hk1 hne (by omega) (by omega)), hd, Lw, hB, hT, hF⟩ (by omega)
   refine oL tK (fun j v hv => hatq12.cell j v hv) rfl rfl rfl rfl rfl rfl ?_
   refine ⟨hS, ?_⟩
   refine a_one 9 rfl (by kernel_rfl) (oL tK (fun j v hv => hatq11.cell j v hv) rfl rfl rfl rfl rfl rfl ?_)
   refine ⟨hS, ?_⟩
   refine a_ixO 14 tK hd (gE (by simpa using hk1)) rfl rfl rfl (by omega) rfl rfl rfl rfl rfl rfl (by kernel_rfl) i4 hS ?_
   intro ibq15 iuq15 hobq15 hrq15 hatq15
   refine a_one 15 rfl (by kernel_rfl) (o_stO tK hd hobq15 (by first | omega | (simp; omega)) hrq11 Lw rfl rfl rfl rfl rfl rfl ?_)
   intro w19 hw19 sw19 frw19
   replace hF : ∀ x, x < w.heap.size → some x ≠ (v : Value).ownBlock → w19.heap[x]? = w.heap[x]? := fun x hx hn => (frw19 x (lT hx hT.upd.1) (fun e => hn (by rw [hobq15, e]))).trans (hF x hx hn)
   replace hT := hT.then sw19
   replace hrq11 := Rep.sp hrq11 sw19
   replace hrq12 := Rep.sp hrq12 sw19
   replace Lw := sw19.low
   replace hB := sw19.z hB
   refine ⟨hS, ?_⟩
   replace hd := hw19
   clear hw19
   refine a_ixO 16 tK hd (gE (by simpa using hk0)) rfl rfl rfl (by omega) rfl rfl rfl rfl rfl rfl (by kernel_rfl) i4 hS ?_
   intro ibq16 iuq16 hobq16 hrq16 hatq16
   refine a_one 17 rfl (by kernel_rfl) (o_stO tK hd hobq16 (by first | omega | (simp; omega)) hrq12 Lw rfl rfl rfl rfl rfl rfl ?_)
   intro w20 hw20 sw20 frw20
   replace hF : ∀ x, x < w.heap.size → some x ≠ (v : Value).ownBlock → w20.heap[x]? = w.heap[x]? := fun x hx hn => (frw20 x (lT hx hT.upd.1) (fun e => hn (by rw [hobq16, e]))).trans (hF x hx hn)
   replace hT := hT.then sw20
   replace hrq11 := Rep.sp hrq11 sw20
   replace hrq12 := Rep.sp hrq12 sw20
   replace Lw := sw20.low
   replace hB := sw20.z hB
   refine ⟨hS, ?_⟩
   replace hd := hw20
   clear hw20
   refine a_end (by kernel_rfl) ?_
   refine x_blk (xS (cG (lP 1 tK rfl ?_)))
   refine lC (o_ai rfl rfl rfl (by omega) rfl rfl ?_)
   refine lP 1 tK rfl (lN ?_)
   exact xN (k0) (((l3.set (k0 + 1) l3[k0]).set k0 l3[k0 + 1])) (s7 rfl rfl rfl rfl rfl rfl (gN rfl (by omega))) ⟨by omega, by omega, runB_step hrn (by omega) hi (by omega) hk1, hrg.trans (swap_rng hk1 hne (by omega) (by omega)), hd, Lw, hB, hT, hF⟩ (by omega)
  refine c_exit (xE (xE (x_blkE (xS (cR (xR ?_))))))
  refine x_ret0 rfl ?_
  exact ⟨rfl, ⟨l3, hd, hrg, runB_end hrn (by omega)⟩, hT, hF⟩
 refine cK (xS (q0 (lP 2 tK rfl ?_)))
 refine lC (o_ai rfl rfl rfl (by omega) rfl rfl ?_)
 refine lC (o_conv tK rfl rfl rfl rfl rfl (IntWalk.u64_in _ (by omega)) rfl rfl ?_)
 refine lC (o_half (y := (((a + b) / 2 : Nat) : Int)) rfl rfl (by omega) (by omega) rfl rfl ?_)
 refine lC (o_conv (y := (((a + b) / 2 : Nat) : Int)) tK rfl rfl rfl rfl rfl (IntWalk.i64_in _ (by omega)) rfl rfl ?_)
 refine lP 1 tK rfl (q1 (q0 (lP 2 tK rfl ?_)))
 refine lC (o_ai rfl rfl rfl (by omega) rfl rfl ?_)
 refine lP 1 tK rfl (q1 (q0 (lP 2 tK rfl (q1 ?_))))
 refine c_cut2 (X := Nat) (Y := Nat) (fun lo0 hi0 => [(0, v), (1, .int .i64 (a : Int)), (2, .int .i64 (m : Int)), (3, .int .i64 (b : Int)), (4, .func (.func 99) #[] #[]), (18, .int .i64 (((a + b) / 2 : Nat) : Int)), (19, .int .i64 (((a + b) / 2 + m : Nat) : Int)), (20, .int .i64 (lo0 : Nat)), (21, .int .i64 (hi0 : Nat))]) (fun lo0 hi0 w' => w = w' ∧ (((a + b) / 2 < m ∧ lo0 = (a + b) / 2 + m - b ∧ hi0 = (a + b) / 2) ∨ (m ≤ (a + b) / 2 ∧ lo0 = a ∧ hi0 = m))) ?_ ?_
 ·refine q0 (lP 3 tK rfl (q1 ?_))
  refine cP _ rfl (fun hc140 => ?_) (fun hc140 => ?_)
  ·refine q0 (lP 2 tK rfl ?_)
   refine lC (o_ai rfl rfl rfl (by omega) rfl rfl ?_)
   refine lP 1 tK rfl (q1 (cG (lP 2 tK rfl (lN ?_))))
   exact x_cut2 ((a + b) / 2 + m - b) ((a + b) / 2) (s9 rfl rfl rfl rfl rfl (gN rfl (by omega)) (gN rfl (by omega)) (gN rfl (by omega)) (gN rfl (by omega))) ⟨rfl, by omega⟩
  refine q0 (lP 2 tK rfl (q1 (cG (lP 2 tK rfl (lN ?_)))))
  exact x_cut2 (a) (m) (s9 rfl rfl rfl rfl rfl (gN rfl (by omega)) (gN rfl (by omega)) (gN rfl (by omega)) (gN rfl (by omega))) ⟨rfl, by omega⟩
 rintro lo0 hi0 _ ⟨rfl, hlh⟩
 refine q0 (lP 1 tK rfl ?_)
 refine lC (o_ai rfl rfl rfl (by omega) rfl rfl ?_)
 refine lP 1 tK rfl (q1 (cS (cB ?_)))
 refine c_loop2 (X := Nat) (Y := Nat) (fun lo hi => [(0, v), (1, .int .i64 (a : Int)), (2, .int .i64 (m : Int)), (3, .int .i64 (b : Int)), (4, .func (.func 99) #[] #[]), (18, .int .i64 (((a + b) / 2 : Nat) : Int)), (19, .int .i64 (((a + b) / 2 + m : Nat) : Int)), (20, .int .i64 (lo : Nat)), (21, .int .i64 (hi : Nat)), (22, .int .i64 (((a + b) / 2 + m - 1 : Nat) : Int))]) (fun lo hi w' => lo0 ≤ lo ∧ lo ≤ hi ∧ hi ≤ hi0 ∧ Cut l ((a + b) / 2 + m) lo0 hi0 lo hi ∧ OwnSl 32 B M w' v l ∧ Low M w' ∧ B ≤ w'.heap.size ∧ Stp B M M w w' ∧ (∀ x, x < w.heap.size → some x ≠ (v : Value).ownBlock → w'.heap[x]? = w.heap[x]?)) (fun lo hi => hi - lo) (lo0) (hi0) (s10 rfl rfl rfl rfl rfl rfl rfl rfl rfl (gN rfl (by omega))) ?_ ?_
 ·exact ⟨lR _, by omega, lR _, Cut.start _ _ _ _, hd, Lw, hB, hT, hF⟩
 rintro lo hi w21 ⟨hlo, hle, hhi, hcut, hd, Lw, hB, hT, hF⟩
 refine cS (q0 (lP 3 tK rfl (q1 ?_)))
 refine cP _ rfl (fun hc151 => ?_) (fun hc151 => ?_)
 ·refine cK (xS (cB (q0 (lP 2 tK rfl ?_))))
  refine lC (o_ai rfl rfl rfl (by omega) rfl rfl ?_)
  refine lC (o_conv tK rfl rfl rfl rfl rfl (IntWalk.u64_in _ (by omega)) rfl rfl ?_)
  refine lC (o_half (y := (((lo + hi) / 2 : Nat) : Int)) rfl rfl (by omega) (by omega) rfl rfl ?_)
  refine lC (o_conv (y := (((lo + hi) / 2 : Nat) : Int)) tK rfl rfl rfl rfl rfl (IntWalk.i64_in _ (by omega)) rfl rfl ?_)
  have hh : (lo + hi) / 2 < l.length := by omega
  have hp : (a + b) / 2 + m - 1 - (lo + hi) / 2 < l.length := by omega
  refine lP 1 tK rfl (q1 (cS ?_))
  refine a_beg (fun _ _ => True) rfl ?_
  intro w22 ew22
  replace hF : ∀ x, x < w.heap.size → some x ≠ (v : Value).ownBlock → w22.heap[x]? = w.heap[x]? := fun x hx hn => (ew22.block x (lT hx hT.upd.1)).trans (hF x hx hn)
  replace hT := hT.then (Stp.Y ew22 Lw hB)
  replace hd := hd.Y Lw hB ew22
  replace Lw := Lw.Y ew22
  replace hB := ew22.z hB
  have hS : True := trivial
  refine a_p 0 tK rfl rfl rfl rfl (by kernel_rfl) i3 hS ?_
  refine a_p 1 tK rfl rfl rfl rfl (by kernel_rfl) i3 hS ?_
  refine a_p 2 tK rfl rfl rfl rfl (by kernel_rfl) i3 hS ?_
  refine a_p 3 tK rfl rfl rfl rfl (by kernel_rfl) i3 hS ?_
  refine a_ar 4 rfl rfl rfl rfl (IntWalk.i64_in _ (by omega)) rfl rfl (by kernel_rfl) i3 hS ?_
  refine a_ixO 5 tK hd (gE hp) rfl rfl rfl (by omega) rfl rfl rfl rfl rfl rfl (by kernel_rfl) i4 hS ?_
  intro ibq17 iuq17 hobq17 hrq17 hatq17
  obtain ⟨szq17, kvq17, rfl, hyq17⟩ := fldg_open hrq17
  replace hatq17 : OAt _ _ _ [.string l[(a + b) / 2 + m - 1 - (lo + hi) / 2].name, .int .u8 l[(a + b) / 2 + m - 1 - (lo + hi) / 2].ty.op, .string l[(a + b) / 2 + m - 1 - (lo + hi) / 2].ty.name, .int .i64 l[(a + b) / 2 + m - 1 - (lo + hi) / 2].ty.n, kvq17] := hatq17
  refine a_p 7 tK rfl rfl rfl rfl (by kernel_rfl) i3 hS ?_
  refine a_p 8 tK rfl rfl rfl rfl (by kernel_rfl) i3 hS ?_
  refine a_ixO 9 tK hd (gE hh) rfl rfl rfl (by omega) rfl rfl rfl rfl rfl rfl (by kernel_rfl) i4 hS ?_
  intro ibq18 iuq18 hobq18 hrq18 hatq18
  obtain ⟨szq18, kvq18, rfl, hyq18⟩ := fldg_open hrq18
  replace hatq18 : OAt _ _ _ [.string l[(lo + hi) / 2].name, .int .u8 l[(lo + hi) / 2].ty.op, .string l[(lo + hi) / 2].ty.name, .int .i64 l[(lo + hi) / 2].ty.n, kvq18] := hatq18
  refine a_all [6, 10] (by kernel_rfl) rfl (all_cons (i := 6) rfl ?_ (all_cons (i := 10) rfl ?_ all_nil))
  ·refine oL tK (fun j v hv => hatq17.cell j v hv) rfl rfl rfl rfl rfl rfl ?_
   refine ⟨hS, ?_⟩
   refine a_one 10 rfl (by kernel_rfl) (oL tK (fun j v hv => hatq18.cell j v hv) rfl rfl rfl rfl rfl rfl ?_)
   refine ⟨hS, ?_⟩
   refine a_one 11 rfl (by kernel_rfl) (o_dyn rfl fo99 rfl rfl rfl (byName_spec M _ _ _ _ _ hrq17 hrq18 Lw) ?_)
   rintro _ w23 ⟨rfl, ew23⟩
   replace hF : ∀ x, x < w.heap.size → some x ≠ (v : Value).ownBlock → w23.heap[x]? = w.heap[x]? := fun x hx hn => (ew23.block x (lT hx hT.upd.1)).trans (hF x hx hn)
   replace hT := hT.then (Stp.Y ew23 Lw hB)
   replace hd := hd.Y Lw hB ew23
   replace hrq17 := Rep.Y hrq17 ew23
   replace hrq18 := Rep.Y hrq18 ew23
   replace Lw := Lw.Y ew23
   replace hB := ew23.z hB
   refine ⟨hS, ?_⟩
   refine a_p 12 tK rfl rfl rfl rfl (by kernel_rfl) i3 hS ?_
   refine a_p 13 tK rfl rfl rfl rfl (by kernel_rfl) i3 hS ?_
   refine a_end (by kernel_rfl) ?_
   refine xS ?_
   refine c_ifN _ rfl (fun hlt => ?_) (fun hlt => ?_)
   ·refine cG (lP 1 tK rfl ?_)
    refine lC (o_ai rfl rfl rfl (by omega) rfl rfl ?_)
    refine lP 1 tK rfl (q2 ?_)
    exact xN ((lo + hi) / 2 + 1) (hi) (s10 rfl rfl rfl rfl rfl rfl rfl (gN rfl (by omega)) rfl rfl) ⟨by omega, by omega, hhi, hcut.up (by omega) hh hp hlt, hd, Lw, hB, hT, hF⟩ (by omega)
   refine cG (lP 2 tK rfl (q2 ?_))
   exact xN (lo) ((lo + hi) / 2) (s10 rfl rfl rfl rfl rfl rfl rfl rfl rfl rfl) ⟨hlo, by omega, by omega, hcut.down (by omega) hh hp hlt, hd, Lw, hB, hT, hF⟩ (by omega)
  refine oL tK (fun j v hv => hatq18.cell j v hv) rfl rfl rfl rfl rfl rfl ?_
  refine ⟨hS, ?_⟩
  refine a_one 6 rfl (by kernel_rfl) (oL tK (fun j v hv => hatq17.cell j v hv) rfl rfl rfl rfl rfl rfl ?_)
  refine ⟨hS, ?_⟩
  refine a_one 11 rfl (by kernel_rfl) (o_dyn rfl fo99 rfl rfl rfl (byName_spec M _ _ _ _ _ hrq17 hrq18 Lw) ?_)
  rintro _ w24 ⟨rfl, ew24⟩
  replace hF : ∀ x, x < w.heap.size → some x ≠ (v : Value).ownBlock → w24.heap[x]? = w.heap[x]? := fun x hx hn => (ew24.block x (lT hx hT.upd.1)).trans (hF x hx hn)
  replace hT := hT.then (Stp.Y ew24 Lw hB)
  replace hd := hd.Y Lw hB ew24
  replace hrq17 := Rep.Y hrq17 ew24
  replace hrq18 := Rep.Y hrq18 ew24
  replace Lw := Lw.Y ew24
  replace hB := ew24.z hB
  refine ⟨hS, ?_⟩
  refine a_p 12 tK rfl rfl rfl rfl (by kernel_rfl) i3 hS ?_
  refine a_p 13 tK rfl rfl rfl rfl (by kernel_rfl) i3 hS ?_
  refine a_end (by kernel_rfl) ?_
  refine xS ?_
  refine c_ifN _ rfl (fun hlt => ?_) (fun hlt => ?_)
  ·refine cG (lP 1 tK rfl ?_)
   refine lC (o_ai rfl rfl rfl (by omega) rfl rfl ?_)
   refine lP 1 tK rfl (q2 ?_)
   exact xN ((lo + hi) / 2 + 1) (hi) (s10 rfl rfl rfl rfl rfl rfl rfl (gN rfl (by omega)) rfl rfl) ⟨by omega, by omega, hhi, hcut.up (by omega) hh hp hlt, hd, Lw, hB, hT, hF⟩ (by omega)
  refine cG (lP 2 tK rfl (q2 ?_))
  exact xN (lo) ((lo + hi) / 2) (s10 rfl rfl rfl rfl rfl rfl rfl rfl rfl rfl) ⟨hlo, by omega, by omega, hcut.down (by omega) hh hp hlt, hd, Lw, hB, hT, hF⟩ (by omega)
 obtain rfl : lo = hi := by omega
 have hmr := mrg_of ham hmb hbl hs1 hs2 hlh hlo hhi hcut
 have z1 := hmr.sm
 have z2 := hmr.e1
 have z3 := hmr.e2
 have z4 := hmr.aS
 have z5 := hmr.smid
 refine c_exit (xE (xE (x_blkE (xS (q0 (lP 2 tK rfl ?_))))))
 refine lC (o_ai rfl rfl rfl (by omega) rfl rfl ?_)
 refine lP 1 tK rfl (q1 ?_)
 refine c_cut (X := List Fld) (fun l' => [(0, v), (1, .int .i64 (a : Int)), (2, .int .i64 (m : Int)), (3, .int .i64 (b : Int)), (4, .func (.func 99) #[] #[]), (18, .int .i64 (((a + b) / 2 : Nat) : Int)), (20, .int .i64 (lo : Nat)), (24, .int .i64 (((a + b) / 2 + m - lo : Nat) : Int))]) (fun l' w' => Rng l l' a b ∧ Four l' a lo ((a + b) / 2) ((a + b) / 2 + m - lo) b ∧ OwnSl 32 B M w' v l' ∧ Low M w' ∧ B ≤ w'.heap.size ∧ Stp B M M w w' ∧ (∀ x, x < w.heap.size → some x ≠ (v : Value).ownBlock → w'.heap[x]? = w.heap[x]?)) ?_ ?_
 ·refine q0 (lP 4 tK rfl ?_)
  refine lS 181 _ rfl (fun c1 => ?_) (fun c1 => ?_)
  ·refine lP 4 tK rfl (q1 ?_)
   refine cP _ rfl (fun c2 => ?_) (fun c2 => ?_)
   ·refine cG (lP 5 tK rfl ?_)
    refine lC (oK fo138 rfl rfl rfl (rotate_spec M _ B v l _ _ _ lo m ((a + b) / 2 + m - lo) (by omega) (by omega) (by omega) (by omega) (by omega) (by omega) hd hl Lw hB) ?_)
    rintro _ w26 ⟨rfl, ⟨l1, hdw26, hrot⟩, sw26, frw26⟩
    replace hF : ∀ x, x < w.heap.size → some x ≠ (v : Value).ownBlock → w26.heap[x]? = w.heap[x]? := fun x hx hn => (frw26 x (lT hx hT.upd.1) hn).trans (hF x hx hn)
    replace hT := hT.then sw26
    replace Lw := sw26.low
    replace hB := sw26.z hB
    replace hd := hdw26
    refine lN ?_
    exact x_cut (l1) (s8 rfl rfl rfl rfl rfl rfl rfl (gN rfl (by omega))) ⟨(hmr.four hrot).1, (hmr.four hrot).2, hd, Lw, hB, hT, hF⟩
   refine cK ?_
   exact x_cut (l) (s8 rfl rfl rfl rfl rfl rfl rfl (gN rfl (by omega))) ⟨(hmr.four (rot_none (by omega) (by omega) (by omega))).1, (hmr.four (rot_none (by omega) (by omega) (by omega))).2, hd, Lw, hB, hT, hF⟩
  refine lP 4 tK rfl (q1 (c_ifF rfl (cK ?_)))
  exact x_cut (l) (s8 rfl rfl rfl rfl rfl rfl rfl (gN rfl (by omega))) ⟨(hmr.four (rot_none (by omega) (by omega) (by omega))).1, (hmr.four (rot_none (by omega) (by omega) (by omega))).2, hd, Lw, hB, hT, hF⟩
 rintro l1 w25 ⟨hrg, hfour, hd, Lw, hB, hT, hF⟩
 have hlen1 := hrg.len
 refine c_cut (X := List Fld) (fun l' => [(0, v), (1, .int .i64 (a : Int)), (2, .int .i64 (m : Int)), (3, .int .i64 (b : Int)), (4, .func (.func 99) #[] #[]), (18, .int .i64 (((a + b) / 2 : Nat) : Int)), (24, .int .i64 (((a + b) / 2 + m - lo : Nat) : Int))]) (fun l' w' => Rng l l' a b ∧ Four l' a ((a + b) / 2) ((a + b) / 2) ((a + b) / 2 + m - lo) b ∧ OwnSl 32 B M w' v l' ∧ Low M w' ∧ B ≤ w'.heap.size ∧ Stp B M M w w' ∧ (∀ x, x < w.heap.size → some x ≠ (v : Value).ownBlock → w'.heap[x]? = w.heap[x]?)) ?_ ?_
 ·refine q0 (lP 4 tK rfl ?_)
  refine lS 195 _ rfl (fun c3 => ?_) (fun c3 => ?_)
  ·refine lP 4 tK rfl (q1 ?_)
   refine cP _ rfl (fun c4 => ?_) (fun c4 => ?_)
   ·refine cG (lP 5 tK rfl ?_)
    refine lC (oK fo135 rfl rfl rfl (ih M _ B v l1 _ _ _ a lo ((a + b) / 2) (by omega) (by omega) (by omega) (by omega) (by omega) (by omega) (by omega) hfour.s1 hfour.s2 hd (by omega) Lw hB) ?_)
    rintro _ w28 ⟨rfl, ⟨l2, hdw28, hr2, ho2⟩, sw28, frw28⟩
    replace hF : ∀ x, x < w.heap.size → some x ≠ (v : Value).ownBlock → w28.heap[x]? = w.heap[x]? := fun x hx hn => (frw28 x (lT hx hT.upd.1) hn).trans (hF x hx hn)
    replace hT := hT.then sw28
    replace Lw := sw28.low
    replace hB := sw28.z hB
    replace hd := hdw28
    refine lN ?_
    exact x_cut (l2) (s7 rfl rfl rfl rfl rfl rfl rfl) ⟨hrg.trans (hr2.wider (lR _) (by omega)), hfour.left (by omega) (by omega) (by omega) (by omega) hr2 ho2, hd, Lw, hB, hT, hF⟩
   refine cK ?_
   exact x_cut (l1) (s7 rfl rfl rfl rfl rfl rfl rfl) ⟨hrg, hfour.leftN (by omega), hd, Lw, hB, hT, hF⟩
  refine lP 4 tK rfl (q1 (c_ifF rfl (cK ?_)))
  exact x_cut (l1) (s7 rfl rfl rfl rfl rfl rfl rfl) ⟨hrg, hfour.leftN (by omega), hd, Lw, hB, hT, hF⟩
 clear hrg hfour hlen1
 rintro l2 w27 ⟨hrg, hfour, hd, Lw, hB, hT, hF⟩
 have hlen2 := hrg.len
 refine q0 (lP 4 tK rfl ?_)
 refine lS 209 _ rfl (fun c5 => ?_) (fun c5 => ?_)
 ·refine lP 4 tK rfl (q1 ?_)
  refine cP _ rfl (fun c6 => ?_) (fun c6 => ?_)
  ·refine cG (lP 5 tK rfl ?_)
   refine lC (oK fo135 rfl rfl rfl (ih M _ B v l2 _ _ _ ((a + b) / 2) ((a + b) / 2 + m - lo) b (by omega) (by omega) (by omega) (by omega) (by omega) (by omega) (by omega) hfour.s3 hfour.s4 hd (by omega) Lw hB) ?_)
   rintro _ w29 ⟨rfl, ⟨l3, hdw29, hr3, ho3⟩, sw29, frw29⟩
   replace hF : ∀ x, x < w.heap.size → some x ≠ (v : Value).ownBlock → w29.heap[x]? = w.heap[x]? := fun x hx hn => (frw29 x (lT hx hT.upd.1) hn).trans (hF x hx hn)
   replace hT := hT.then sw29
   replace Lw := sw29.low
   replace hB := sw29.z hB
   replace hd := hdw29
   refine lN ?_
   refine x_ret0n rfl ?_
   exact ⟨rfl, ⟨l3, hd, hrg.trans (hr3.wider (by omega) (lR _)), hfour.right (by omega) (by omega) (by omega) hr3 ho3⟩, hT, hF⟩
  refine cK ?_
  refine x_ret0n rfl ?_
  exact ⟨rfl, ⟨l2, hd, hrg, hfour.rightN (by omega)⟩, hT, hF⟩
 refine lP 4 tK rfl (q1 (c_ifF rfl (cK ?_)))
 refine x_ret0n rfl ?_
 exact ⟨rfl, ⟨l2, hd, hrg, hfour.rightN (by omega)⟩, hT, hF⟩
theorem stable_spec [TR : TRep] (M : Nat → Prop) (w : World) (B : Nat) (v : Value) (l : List Fld) (hd : OwnSl 32 B M w v l) (hl : l.length < 140737488355328) (Lw : Low M w) (hB : B ≤ w.heap.size) :
  Calls Try.prog 123 #[v, .int .i64 (l.length : Int), .func (.func 99) #[] #[]] w (Ret fun r w' => r = .tuple #[] ∧ (∃ l', OwnSl 32 B M w' v l' ∧ Rng l l' 0 l.length ∧ SrtOn l' 0 l.length) ∧ Stp B M M w w' ∧ (∀ x, x < w.heap.size → some x ≠ v.ownBlock → w'.heap[x]? = w.heap[x]?)) := by
 have hT : Stp B M M w w := Stp.refl Lw
 have hF : (∀ x, x < w.heap.size → some x ≠ v.ownBlock → w.heap[x]? = w.heap[x]?) := fun _ _ _ => rfl
 refine cN (n := 63) Try.func123 rfl rfl rfl ?_
 refine q0 (lP 1 tK rfl (q1 (q0 (lP 3 tK rfl (q1 (cS (cB ?_)))))))
 refine c_loop2 (X := Nat) (Y := List Fld) (fun a l' => [(0, v), (1, .int .i64 (l.length : Int)), (2, .func (.func 99) #[] #[]), (6, .int .i64 20), (7, .int .i64 (a : Nat)), (8, .int .i64 ((a + 20 : Nat) : Int))]) (fun a l' w' => 20 ∣ a ∧ a ≤ l.length ∧ Blk1 l' 20 a ∧ Rng l l' 0 l.length ∧ OwnSl 32 B M w' v l' ∧ Low M w' ∧ B ≤ w'.heap.size ∧ Stp B M M w w' ∧ (∀ x, x < w.heap.size → some x ≠ (v : Value).ownBlock → w'.heap[x]? = w.heap[x]?)) (fun a l' => l.length - a) (0) (l) (s6 rfl rfl rfl rfl (gN rfl rfl) (gN rfl (by omega))) ?_ ?_
 ·exact ⟨Nat.dvd_zero _, Nat.zero_le _, Blk1.zero, Rng.refl _ _ _, hd, Lw, hB, hT, hF⟩
 rintro a l2 w1 ⟨hdv, hal, hbk, hrg, hd, Lw, hB, hT, hF⟩
 have hlen := hrg.len
 refine cS (q0 (lP 3 tK rfl (q1 ?_)))
 refine cP _ rfl (fun hc => ?_) (fun hc => ?_)
 ·refine cK (xS (cB (q0 (lP 4 tK rfl ?_))))
  refine lC (oK fo134 rfl rfl rfl (insertion_spec M _ B v l2 a (a + 20) hd (by omega) (by omega) (by omega) Lw hB) ?_)
  rintro _ w2 ⟨rfl, ⟨l3, hdw2, hr3, ho3⟩, sw2, frw2⟩
  replace hF : ∀ x, x < w.heap.size → some x ≠ (v : Value).ownBlock → w2.heap[x]? = w.heap[x]? := fun x hx hn => (frw2 x (lT hx hT.upd.1) hn).trans (hF x hx hn)
  replace hT := hT.then sw2
  replace Lw := sw2.low
  replace hB := sw2.z hB
  replace hd := hdw2
  refine q1 (q0 (lP 2 tK rfl (q1 (cG (lP 2 tK rfl ?_)))))
  refine lC (o_ai rfl rfl rfl (by omega) rfl rfl ?_)
  refine lP 1 tK rfl (q2 ?_)
  exact xN (a + 20) (l3) (s6 rfl rfl rfl rfl rfl (gN rfl (by omega))) ⟨(Nat.dvd_add_right hdv).2 (Nat.dvd_refl _), by omega, hbk.step hdv hr3 ho3, hrg.trans (hr3.wider (Nat.zero_le _) (by omega)), hd, Lw, hB, hT, hF⟩ (by omega)
 refine c_exit (xE (xE (x_blkE (xS (q0 (lP 4 tK rfl ?_))))))
 refine lC (oK fo134 rfl rfl rfl (insertion_spec M _ B v l2 a l.length hd (by omega) (by omega) (by omega) Lw hB) ?_)
 rintro _ w3 ⟨rfl, ⟨l3, hdw3, hr3, ho3⟩, sw3, frw3⟩
 replace hF : ∀ x, x < w.heap.size → some x ≠ (v : Value).ownBlock → w3.heap[x]? = w.heap[x]? := fun x hx hn => (frw3 x (lT hx hT.upd.1) hn).trans (hF x hx hn)
 replace hT := hT.then sw3
 replace Lw := sw3.low
 replace hB := sw3.z hB
 replace hd := hdw3
 have hblk := hbk.fin hdv (by omega) hr3 ho3
 replace hrg := hrg.trans (hr3.wider (Nat.zero_le _) (lR _))
 replace hlen := hrg.len
 refine q1 (cB ?_)
 refine c_loop2 (X := Nat) (Y := List Fld) (fun bs l' => [(0, v), (1, .int .i64 (l.length : Int)), (2, .func (.func 99) #[] #[]), (6, .int .i64 (bs : Nat))]) (fun bs l' w' => 0 < bs ∧ bs < 281474976710657 ∧ Blk l' bs l.length ∧ Rng l l' 0 l.length ∧ OwnSl 32 B M w' v l' ∧ Low M w' ∧ B ≤ w'.heap.size ∧ Stp B M M w w' ∧ (∀ x, x < w.heap.size → some x ≠ (v : Value).ownBlock → w'.heap[x]? = w.heap[x]?)) (fun bs l' => l.length - bs) (20) (l3) (s4 rfl rfl rfl rfl) ?_ ?_
 ·exact ⟨by omega, by omega, hblk, hrg, hd, Lw, hB, hT, hF⟩
 clear hrg hlen
 rintro bs l4 w4 ⟨hb0, hb1, hblk, hrg, hd, Lw, hB, hT, hF⟩
 have hlen := hrg.len
 refine cS (q0 (lP 3 tK rfl (q1 ?_)))
 refine cP _ rfl (fun hc => ?_) (fun hc => ?_)
 ·refine cK (xS (cB (q0 (lP 1 tK rfl ?_))))
  refine lC (o_ai rfl rfl rfl (by omega) rfl rfl ?_)
  refine lP 2 tK rfl (q1 (cS (cB ?_)))
  refine c_loop2 (X := Nat) (Y := List Fld) (fun a l' => [(0, v), (1, .int .i64 (l.length : Int)), (2, .func (.func 99) #[] #[]), (6, .int .i64 (bs : Nat)), (7, .int .i64 (a : Nat)), (8, .int .i64 ((a + 2 * bs : Nat) : Int))]) (fun a l' w' => a ≤ l.length ∧ B2 l' bs a l.length ∧ Rng l l' 0 l.length ∧ OwnSl 32 B M w' v l' ∧ Low M w' ∧ B ≤ w'.heap.size ∧ Stp B M M w w' ∧ (∀ x, x < w.heap.size → some x ≠ (v : Value).ownBlock → w'.heap[x]? = w.heap[x]?)) (fun a l' => l.length - a) (0) (l4) (s6 rfl rfl rfl rfl (gN rfl rfl) (gN rfl (by omega))) ?_ ?_
  ·exact ⟨Nat.zero_le _, B2.start hblk, hrg, hd, Lw, hB, hT, hF⟩
  clear hrg hlen
  rintro a l5 w5 ⟨hal, hb2, hrg, hd, Lw, hB, hT, hF⟩
  have hlen := hrg.len
  refine cS (q0 (lP 3 tK rfl (q1 ?_)))
  refine cP _ rfl (fun hc => ?_) (fun hc => ?_)
  ·refine cK (xS (cB (q0 (lP 4 tK rfl ?_))))
   refine lC (o_ai rfl rfl rfl (by omega) rfl rfl ?_)
   refine lP 2 tK rfl ?_
   have hR := hb2.right
   rw [Nat.min_eq_left (by omega)] at hR
   refine lC (oK fo135 rfl rfl rfl (symMerge_all _ M _ B v l5 _ _ _ a (a + bs) (a + 2 * bs) (by omega) (by omega) (by omega) (lR _) (by omega) (by omega) (by omega) (hb2.left (by omega)) hR hd (by omega) Lw hB) ?_)
   rintro _ w6 ⟨rfl, ⟨l6, hdw6, hr6, ho6⟩, sw6, frw6⟩
   replace hF : ∀ x, x < w.heap.size → some x ≠ (v : Value).ownBlock → w6.heap[x]? = w.heap[x]? := fun x hx hn => (frw6 x (lT hx hT.upd.1) hn).trans (hF x hx hn)
   replace hT := hT.then sw6
   replace Lw := sw6.low
   replace hB := sw6.z hB
   replace hd := hdw6
   refine q1 (q0 (lP 2 tK rfl (q1 (cG (lP 2 tK rfl ?_)))))
   refine lC (o_ai rfl rfl rfl (by omega) rfl rfl ?_)
   refine lC (o_ai rfl rfl rfl (by omega) rfl rfl ?_)
   refine lP 1 tK rfl (q2 ?_)
   exact xN (a + 2 * bs) (l6) (s6 rfl rfl rfl rfl rfl (gN rfl (by omega))) ⟨by omega, hb2.step hr6 ho6, hrg.trans (hr6.wider (Nat.zero_le _) (by omega)), hd, Lw, hB, hT, hF⟩ (by omega)
  refine c_exit (xE (xE (x_blkE (xS (cS (q0 (lP 2 tK rfl ?_)))))))
  refine lC (o_ai rfl rfl rfl (by omega) rfl rfl ?_)
  refine lP 1 tK rfl (q1 (q0 (lP 3 tK rfl (q1 ?_))))
  refine cP _ rfl (fun hc => ?_) (fun hc => ?_)
  ·refine cG (lP 5 tK rfl ?_)
   have hR := hb2.right
   rw [Nat.min_eq_right (by omega)] at hR
   refine lC (oK fo135 rfl rfl rfl (symMerge_all _ M _ B v l5 _ _ _ a (a + bs) l.length (by omega) (by omega) (by omega) (lR _) (by omega) (by omega) (by omega) (hb2.left (by omega)) hR hd (by omega) Lw hB) ?_)
   rintro _ w7 ⟨rfl, ⟨l6, hdw7, hr6, ho6⟩, sw7, frw7⟩
   replace hF : ∀ x, x < w.heap.size → some x ≠ (v : Value).ownBlock → w7.heap[x]? = w.heap[x]? := fun x hx hn => (frw7 x (lT hx hT.upd.1) hn).trans (hF x hx hn)
   replace hT := hT.then sw7
   replace Lw := sw7.low
   replace hB := sw7.z hB
   replace hd := hdw7
   refine q1 (cG (lP 1 tK rfl ?_))
   refine lC (o_ai rfl rfl rfl (by omega) rfl rfl ?_)
   refine lP 1 tK rfl (q2 ?_)
   exact xN (2 * bs) (l6) (s4 rfl rfl rfl (gN rfl (by omega))) ⟨by omega, by omega, hb2.fin (by omega) hr6 ho6, hrg.trans (hr6.wider (Nat.zero_le _) (lR _)), hd, Lw, hB, hT, hF⟩ (by omega)
  refine cK (xS (cG (lP 1 tK rfl ?_)))
  refine lC (o_ai rfl rfl rfl (by omega) rfl rfl ?_)
  refine lP 1 tK rfl (q2 ?_)
  exact xN (2 * bs) (l5) (s4 rfl rfl rfl (gN rfl (by omega))) ⟨by omega, by omega, hb2.finN (by omega) (by omega), hrg, hd, Lw, hB, hT, hF⟩ (by omega)
 refine c_exit (xE (xE (x_blkE ?_)))
 refine x_ret0n rfl ?_
 exact ⟨rfl, ⟨l4, hd, hrg, hblk.all (by omega)⟩, hT, hF⟩
theorem sortStable_spec [TR : TRep] (M : Nat → Prop) (w : World) (B : Nat) (v : Value) (l : List Fld) (hd : OwnSl 32 B M w v l) (hl : l.length < 140737488355328) (Lw : Low M w) (hB : B ≤ w.heap.size) :
  Calls Try.prog 98 #[v, .func (.func 99) #[] #[]] w (Ret fun r w' => r = .tuple #[] ∧ (∃ l', OwnSl 32 B M w' v l' ∧ l'.length = l.length ∧ StP l l' ∧ Srt l') ∧ Stp B M M w w' ∧ (∀ x, x < w.heap.size → some x ≠ v.ownBlock → w'.heap[x]? = w.heap[x]?)) := by
 have hT : Stp B M M w w := Stp.refl Lw
 have hF : (∀ x, x < w.heap.size → some x ≠ v.ownBlock → w.heap[x]? = w.heap[x]?) := fun _ _ _ => rfl
 refine cN (n := 9) Try.func98 rfl rfl rfl ?_
 refine cG (lP 2 tK rfl ?_)
 refine lC (o_lenO tK hd rfl rfl rfl rfl rfl ?_)
 refine lP 1 tK rfl ?_
 refine lC (oK fo123 rfl rfl rfl (stable_spec M _ B v l hd hl Lw hB) ?_)
 rintro _ w1 ⟨rfl, ⟨l2, hdw1, hrg, hso⟩, sw1, frw1⟩
 replace hF : ∀ x, x < w.heap.size → some x ≠ (v : Value).ownBlock → w1.heap[x]? = w.heap[x]? := fun x hx hn => (frw1 x (lT hx hT.upd.1) hn).trans (hF x hx hn)
 replace hT := hT.then sw1
 replace Lw := sw1.low
 replace hB := sw1.z hB
 replace hd := hdw1
 refine lN ?_
 refine x_ret0n rfl ?_
 exact ⟨rfl, ⟨l2, hd, hrg.len, hrg.st, srt_of (by rw [hrg.len]; exact hso)⟩, hT, hF⟩
end Go.Proofs.Ytpoahmeacjggfaa
namespace Rw
/-- A row's fields, in their order, and its tail. -/
def spineF : Ty → List Fld × Ty
  | .mk op s n l => match l.map fun x => (x, spineF x) with
    | [k, r] => bif decide (op = 11) then (⟨s, k.1⟩ :: r.2.1, r.2.2) else ([], .mk op s n l)
    | _ => ([], .mk op s n l)
theorem spineF_eq (t : Ty) : spineF t = match t.kids.map fun x => (x, spineF x) with
    | [k, r] => bif decide (t.op = 11) then (⟨t.name, k.1⟩ :: r.2.1, r.2.2) else ([], t)
    | _ => ([], t) := by
  cases t; rw [spineF]; rfl
theorem spine_no {t : Ty} (h : t.op ≠ 11) : spineF t = ([], t) := by
  rw [spineF_eq, show decide (t.op = 11) = false from dF h]
  split <;> rfl
theorem spine_yes {t k r : Ty} (h : t.op = 11) (hk : t.kids = [k, r]) : spineF t = (⟨t.name, k⟩ :: (spineF r).1, (spineF r).2) := by
  rw [spineF_eq, hk, h]; rfl
theorem shape_row {t : Ty} {c : UInt8} (h : shapeF t c = true) (ho : t.op = 11) : ∃ k r, t.kids = [k, r] ∧ shapeF k 116 = true ∧ shapeF r 114 = true := by
  have hk : kidsOf t.op = some ⟨#[116, 114]⟩ := by rw [ho]; rfl
  rw [shape_some hk] at h
  simp only [Bool.and_eq_true] at h
  have h2 := h.2.2
  rcases e : t.kids with _ | ⟨k, _ | ⟨r, _ | ⟨x, l⟩⟩⟩ <;> rw [e] at h2 <;> simp [all2] at h2
  exact ⟨k, r, rfl, h2.1, h2.2⟩
theorem shape_pos {t : Ty} {c : UInt8} (h : shapeF t c = true) : ∃ ks, kidsOf t.op = some ks ∧ t.kids.length = ks.size ∧ (∀ (j : Nat) x d, t.kids[j]? = some x → ks.data[j]? = some d → shapeF x d = true) ∧ headOk t.op t.name t.n = true ∧ (decide (8 ≤ t.op) == decide ((c.toNat : Int) = 114)) = true := by
  cases hk : kidsOf t.op with
  | none => rw [shape_none hk] at h; cases h
  | some ks =>
    have hl : t.kids.length = ks.size := by
      by_cases e : t.kids.length = ks.size
      · exact e
      · rw [shape_len hk e] at h; cases h
    refine ⟨ks, rfl, hl, fun j x d hx hd => ?_, ?_, ?_⟩
    · have hi := (List.getElem?_eq_some_iff.1 hx).1
      have hx2 : t.kids[j] = x := by rw [gE hi] at hx; exact Option.some.inj hx
      cases e : shapeF x d with
      | true => rfl
      | false => rw [shape_kid hk hi hd (by rw [hx2]; exact e)] at h; cases h
    · rw [shape_some hk] at h
      simp only [Bool.and_eq_true] at h
      exact h.2.1
    · rw [shape_some hk] at h
      simp only [Bool.and_eq_true] at h
      exact h.1
theorem spine_len (t : Ty) : (spineF t).1.length < psz t := by
  induction t using Ty.ind with
  | h t ih =>
    rw [spineF_eq, psz_eq]
    split
    · rename_i k r e
      have e1 : t.kids = [k.1, r.1] := by
        have := congrArg (List.map Prod.fst) e
        simpa [List.map_map, Function.comp_def] using this
      have e2 : r.2 = spineF r.1 := by
        rw [e1] at e
        simp at e
        rw [← e.2]
      have := ih r.1 (by rw [e1]; simp)
      rw [e1, pszs_cons, pszs_cons, e2]
      cases decide (t.op = 11)
      · simp
      · simp only [cond_true, List.length_cons]; omega
    · simp
/-- Put behind those whose names aren't greater. -/
def insF (f : Fld) : List Fld → List Fld
  | [] => [f]
  | x :: r => if cmpN f.name x.name < 0 then f :: x :: r else x :: insF f r
/-- Fields put in order. -/
def fieldsF (l : List Fld) : List Fld := l.foldl (fun acc f => insF f acc) []
theorem insF_mem {f y : Fld} : ∀ {l : List Fld}, y ∈ insF f l → y = f ∨ y ∈ l
  | [], h => by simp [insF] at h; exact .inl h
  | x :: r, h => by
    unfold insF at h
    split at h
    · rcases List.mem_cons.1 h with e | e
      · exact .inl e
      · exact .inr e
    · rcases List.mem_cons.1 h with e | e
      · exact .inr (by rw [e]; exact List.mem_cons_self)
      · rcases insF_mem e with e | e
        · exact .inl e
        · exact .inr (List.mem_cons_of_mem _ e)
theorem insF_srt {f : Fld} : ∀ {l : List Fld}, Srt l → Srt (insF f l)
  | [], _ => by unfold insF Srt; simp
  | x :: r, h => by
    have h' := List.pairwise_cons.1 h
    unfold insF
    split
    · rename_i hlt
      refine List.pairwise_cons.2 ⟨fun y hy => ?_, h⟩
      rcases List.mem_cons.1 hy with e | e
      · rw [e]; exact leN_of_lt hlt
      · exact leN_trans (leN_of_lt hlt) (h'.1 y e)
    · rename_i hnl
      refine List.pairwise_cons.2 ⟨fun y hy => ?_, insF_srt h'.2⟩
      rcases insF_mem hy with e | e
      · rw [e]; exact leN_of_nlt hnl
      · exact h'.1 y e
theorem insF_st {f : Fld} : ∀ {l : List Fld}, Srt l → StP (l ++ [f]) (insF f l)
  | [], _ => StP.refl _
  | x :: r, h => by
    have h' := List.pairwise_cons.1 h
    unfold insF
    split
    · rename_i hlt
      refine StP.swap2 fun y hy z hz e => ?_
      obtain rfl : z = f := by simpa using hz
      have h1 : cmpN z.name y.name < 0 := by
        rcases List.mem_cons.1 hy with e | e
        · rw [e]; exact hlt
        · exact cmpN_lt_of_lt_le hlt (h'.1 y e)
      rw [e, show cmpN z.name z.name = 0 from cmpN_eq.2 rfl] at h1
      omega
    · exact (StP.refl [x]).app (insF_st h'.2)
theorem fieldsF_gen : ∀ (l acc : List Fld), Srt acc → Srt (l.foldl (fun acc f => insF f acc) acc) ∧ StP (acc ++ l) (l.foldl (fun acc f => insF f acc) acc)
  | [], acc, h => ⟨h, by simpa using StP.refl acc⟩
  | f :: l, acc, h => by
    obtain ⟨h1, h2⟩ := fieldsF_gen l (insF f acc) (insF_srt h)
    refine ⟨h1, ?_⟩
    have h3 : StP (acc ++ [f] ++ l) (insF f acc ++ l) := (insF_st h).app (StP.refl _)
    rw [List.append_assoc] at h3
    exact h3.trans h2
theorem fieldsF_srt (l : List Fld) : Srt (fieldsF l) := (fieldsF_gen l [] (by simp [Srt])).1
theorem fieldsF_st (l : List Fld) : StP l (fieldsF l) := (fieldsF_gen l [] (by simp [Srt])).2
theorem fieldsF_uniq {l k : List Fld} (h : Srt k) (g : StP l k) : k = fieldsF l := srt_uniq h (fieldsF_srt l) (g.symm.trans (fieldsF_st l))
theorem insF_len (f : Fld) : ∀ l : List Fld, (insF f l).length = l.length + 1
  | [] => rfl
  | x :: r => by
    unfold insF
    split
    · rfl
    · simp [insF_len f r]
theorem fieldsF_len (l : List Fld) : (fieldsF l).length = l.length := by
  have : ∀ (l acc : List Fld), (l.foldl (fun acc f => insF f acc) acc).length = acc.length + l.length := by
    intro l
    induction l with
    | nil => intro acc; simp
    | cons f l ih => intro acc; rw [List.foldl_cons, ih, insF_len]; simp; omega
  have h := this l []
  rwa [List.length_nil, Nat.zero_add] at h
/-- Sorted fields and tail, by the program: of what is no row, none. -/
def flatF (t : Ty) : List Fld × Ty := bif rowB t then (fieldsF (spineF t).1, (spineF t).2) else ([], .mk 0 ⟨#[]⟩ 0 [])
def tyNone : Ty := .mk 8 ⟨#[]⟩ 0 []
def tyA : Ty := .mk 2 ⟨#[]⟩ 0 []
def tyB : Ty := .mk 1 ⟨#[]⟩ 0 []
def tyRow : Ty := .mk 11 ⟨#[98]⟩ 0 [tyB, .mk 11 ⟨#[97]⟩ 0 [tyA, tyNone]]
theorem psz_row : psz tyRow ≤ 2000000 := by simp [psz_eq, pszs_cons, pszs_nil, tyRow, tyA, tyB, tyNone, Ty.kids]
theorem rowB_row : rowB tyRow = true := by
  simp [rowB, onceB, partsL_eq, shapeF_eq, tyRow, tyA, tyB, tyNone, Ty.kids, Ty.op, Ty.name, Ty.n, kidsOf, headOk, all2]
  exact ⟨by decide, by decide⟩
theorem flat_row : flatF tyRow = ([⟨⟨#[97]⟩, tyA⟩, ⟨⟨#[98]⟩, tyB⟩], tyNone) := by
  have h : spineF tyRow = ([⟨⟨#[98]⟩, tyB⟩, ⟨⟨#[97]⟩, tyA⟩], tyNone) := by
    rw [spine_yes (k := tyB) (r := .mk 11 ⟨#[97]⟩ 0 [tyA, tyNone]) rfl rfl, spine_yes (k := tyA) (r := tyNone) rfl rfl, spine_no (by decide)]
    rfl
  rw [flatF, rowB_row, h]
  rfl
/-- The row that has these fields ahead of a tail. -/
def ofF (l : List Fld) (e : Ty) : Ty := l.foldr (fun f r => .mk 11 f.name 0 [f.ty, r]) e
theorem ofF_cons (f : Fld) (l : List Fld) (e : Ty) : ofF (f :: l) e = .mk 11 f.name 0 [f.ty, ofF l e] := rfl
theorem take_snoc {l : List Fld} {i : Nat} (h : i < l.length) : l.take (i + 1) = l.take i ++ [l[i]] := List.take_succ_eq_append_getElem h
end Rw
namespace Go.Proofs.Ytpoahmeacjggfaa
open Go Rw Go.RowKit
set_option maxRecDepth 100000
theorem flat_gen [TR : TRep] (t : Ty) (M : Nat → Prop) (w : World) (v : Value) (hsh : shapeF t 114 = true) (ht : Rep.R M w v t) (hlow0 : Low M w) (hsz : psz t ≤ 2000000) :
  Calls Try.prog 69 #[v] w (Ret fun r w' => ∃ x tv M', r = .tuple #[x, tv] ∧ OwnSl 32 w.heap.size M' w' x (fieldsF (spineF t).1) ∧ Rep.R M' w' tv (spineF t).2 ∧ Stp w.heap.size M M' w w') := by
 have Lw := hlow0
 have hB := lR w.heap.size
 have hE := Below.refl w.heap.size w
 have hsub : ∀ b, M b → M b := fun _ h => h
 obtain ⟨kv, rfl, op, nm, n64, hk⟩ := tyg_open ht
 have hT : Stp w.heap.size M M w w := Stp.refl Lw
 have hsl := spine_len t
 refine cN (n := 26) Try.func69 rfl rfl rfl ?_
 refine q0 ?_
 refine lC (o_box rfl rfl rfl ?_)
 intro b1 w1 qb1 ew1 hb1
 have sw1 := Stp.add ew1 Lw hB (lQ qb1.symm) hb1.lt
 have h1 : MB w.heap.size (Rw.Add M b1) w1 b1 25 [.int .u8 t.op, .string t.name, .int .i64 t.n, kv] := MB.mk' hb1 qb1 hB
 replace hT := hT.then sw1
 replace hE := hE.trans sw1.below
 replace ht := Rep.sp ht sw1
 replace hk := hk.sp sw1
 replace hsub := sw1.sb hsub
 replace Lw := sw1.low
 replace hB := sw1.z hB
 refine lP 1 tK rfl ?_
 refine lC (o_new tK rfl rfl rfl ?_)
 intro b3 w2 qb3 ew2 hb3
 have ne_h1_h3 : b1 ≠ b3 := by have := h1.lt; omega
 have sw2 := Stp.add ew2 Lw hB (lQ qb3.symm) hb3.lt
 have h3 : MB w.heap.size (Rw.Add (Rw.Add M b1) b3) w2 b3 25 [.int .u8 0, .string ⟨#[]⟩, .int .i64 0, .slice none 0 0] := MB.mk' hb3 qb3 hB
 replace hT := hT.then sw2
 replace h1 := h1.sp sw2 (ew2.block b1 h1.lt)
 replace hE := hE.trans sw2.below
 replace ht := Rep.sp ht sw2
 replace hk := hk.sp sw2
 replace hsub := sw2.sb hsub
 replace Lw := sw2.low
 replace hB := sw2.z hB
 refine q1 (q0 (lP 1 tK rfl (q1 (cS (cB ?_)))))
 have d_ho_h1 : ∀ x, (.slice none 0 0 : Value).ownBlock = some x → x ≠ b1 := fun x hx => by simp [Value.ownBlock] at hx
 have d_ho_h3 : ∀ x, (.slice none 0 0 : Value).ownBlock = some x → x ≠ b3 := fun x hx => by simp [Value.ownBlock] at hx
 refine c_loop5 (X := Ty) (Y := Value) (Z := Value) (U := Nat → Prop) (V := List Fld) (fun t2 kv v M1 acc => [(1, .pointer (some ⟨b1, 0, none⟩)), (3, .pointer (some ⟨b3, 0, none⟩)), (4, v)]) (fun t2 kv v M1 acc w' => shapeF t2 114 = true ∧ acc ++ (spineF t2).1 = (spineF t).1 ∧ (spineF t2).2 = (spineF t).2 ∧ OwnSl 32 w.heap.size M1 w' v acc ∧ MB w.heap.size M1 w' b1 25 [.int .u8 t2.op, .string t2.name, .int .i64 t2.n, kv] ∧ MB w.heap.size M1 w' b3 25 [.int .u8 0, .string ⟨#[]⟩, .int .i64 0, .slice none 0 0] ∧ (∀ x, (v : Value).ownBlock = some x → x ≠ b1) ∧ (∀ x, (v : Value).ownBlock = some x → x ≠ b3) ∧ Rep.R M1 w' (.agg #[.int .u8 t2.op, .string t2.name, .int .i64 t2.n, kv]) t2 ∧ Stp w.heap.size M M1 w w' ∧ Low M1 w' ∧ (∀ b, M b → M1 b) ∧ Below w.heap.size w w' ∧ w.heap.size ≤ w'.heap.size) (fun t2 kv v M1 acc => psz t2) (t) (kv) (.slice none 0 0) ((Rw.Add (Rw.Add M b1) b3)) ([]) (s3 rfl rfl rfl) ?_ ?_
 ·exact ⟨hsh, rfl, rfl, own_nil, h1, h3, d_ho_h1, d_ho_h3, ht, hT, Lw, hsub, hE, hB⟩
 clear hk
 rintro t2 kv v M1 acc w3 ⟨hs2, hacc, htl, ho, h1, h3, d_ho_h1, d_ho_h3, ht, hT, Lw, hsub, hE, hB⟩
 obtain ⟨kv0, hkv0, op2, nm2, n2, hk⟩ := tyg_open ht
 obtain rfl : kv = kv0 := by simpa using hkv0
 refine cS (q0 (lP 1 tK rfl ?_))
 refine lC (oD tK (h1.cell 0 _ rfl) rfl rfl rfl rfl rfl ?_)
 refine lP 1 tK rfl (q1 ?_)
 refine cP _ rfl (fun hc => ?_) (fun hc => ?_)
 ·obtain ⟨k, r, hks, hsk, hsr⟩ := shape_row hs2 (by omega)
  have hsp := spine_yes (by omega) hks
  have hlen : acc.length < (spineF t).1.length := by rw [← hacc, hsp, List.length_append, List.length_cons]; omega
  refine cK (xS (cB (cS ?_)))
  refine a_beg Ext rfl ?_
  intro w4 ew4
  replace hT := hT.then (Stp.Y ew4 Lw hB)
  replace ho := ho.Y Lw hB ew4
  replace h1 := h1.Y Lw hB ew4
  replace h3 := h3.Y Lw hB ew4
  replace hE := ew4.bl hE hB
  replace ht := Rep.Y ht ew4
  replace hk := hk.Y ew4
  replace Lw := Lw.Y ew4
  replace hB := ew4.z hB
  have hS : Ext w4 w4 := ext_refl _
  have D_h1 := h1.box
  have D_h3 := h3.box
  have D_hk := hk
  refine a_p 0 tK rfl rfl rfl rfl (by kernel_rfl) i3 hS ?_
  refine a_p 1 tK rfl rfl rfl rfl (by kernel_rfl) i3 hS ?_
  refine a_ld 2 tK (fun _ hs => (D_h1.Y hs).cell 1 _ rfl) rfl rfl rfl rfl rfl rfl (by kernel_rfl) i3 hS ?_
  refine a_p 3 tK rfl rfl rfl rfl (by kernel_rfl) i3 hS ?_
  refine a_ld 4 tK (fun _ hs => (D_h1.Y hs).cell 3 _ rfl) rfl rfl rfl rfl rfl rfl (by kernel_rfl) i3 hS ?_
  refine a_ixS 5 tK D_hk (show t2.kids[0]? = some k by rw [hks]; rfl) rfl rfl rfl rfl rfl rfl rfl rfl rfl rfl (by kernel_rfl) i4 hS ?_
  intro ebx eox eux hyx hX
  obtain ⟨kvx, rfl, opx, nmx, n64x, hkx⟩ := tyg_open hyx
  replace hX : At M1 w4 ebx eox [.int .u8 k.op, .string k.name, .int .i64 k.n, kvx] := hX
  refine a_lds 6 tK (fun _ hs j v hv => (hX.Y hs).cell j v hv) rfl rfl rfl rfl rfl rfl rfl (by kernel_rfl) i3 hS ?_
  refine a_build (cells := [.string t2.name, .int .u8 k.op, .string k.name, .int .i64 k.n, kvx]) (css := [[.string t2.name], [.int .u8 k.op, .string k.name, .int .i64 k.n, kvx]]) 7 bd32 rfl rfl rfl rfl rfl rfl (by kernel_rfl) i3 hS ?_
  have hfd := fldg_mk (name := t2.name) (t := k) nm2 hyx
  refine a_one 8 rfl (by kernel_rfl) (o_bs tK rfl rfl rfl rfl rfl rfl rfl (sz1 rfl) rfl rfl rfl ?_)
  intro bw5 w5 qbw5 ew5 hbw5
  have nbw5 := nO Lw qbw5
  replace hS := hS.then ew5
  replace hT := hT.then (Stp.Y ew5 Lw hB)
  replace ho := ho.Y Lw hB ew5
  replace h1 := h1.Y Lw hB ew5
  replace h3 := h3.Y Lw hB ew5
  replace hE := ew5.bl hE hB
  replace ht := Rep.Y ht ew5
  replace hk := hk.Y ew5
  replace hyx := Rep.Y hyx ew5
  replace hkx := hkx.Y ew5
  replace hX := hX.Y ew5
  replace hfd := Rep.Y hfd ew5
  replace Lw := Lw.Y ew5
  replace hB := ew5.z hB
  refine ⟨hS, ?_⟩
  refine a_barS Ext 9 rfl (by kernel_rfl) (by kernel_rfl) (o_app1 tK ho hbw5 nbw5 hfd Lw hB rfl rfl rfl rfl rfl rfl rfl (by omega) (by show (_ + _) * 72 ≤ _; omega) rfl rfl ?_)
  intro vw6 w6 Mw6 hw6 sw6 frw6 blw6
  have zd_ho_h1 := d_ho_h1
  replace d_ho_h1 : ∀ x, (vw6 : Value).ownBlock = some x → x ≠ b1 := fun x hx => (blw6 x hx).elim (d_ho_h1 x) (fun h e => by have := h1.lt; omega)
  have zd_ho_h3 := d_ho_h3
  replace d_ho_h3 : ∀ x, (vw6 : Value).ownBlock = some x → x ≠ b3 := fun x hx => (blw6 x hx).elim (d_ho_h3 x) (fun h e => by have := h3.lt; omega)
  replace hT := hT.then sw6
  replace h1 := h1.sp sw6 (frw6 b1 h1.lt (fun e => zd_ho_h1 _ e.symm rfl))
  replace h3 := h3.sp sw6 (frw6 b3 h3.lt (fun e => zd_ho_h3 _ e.symm rfl))
  replace hE := hE.trans sw6.below
  replace ht := Rep.sp ht sw6
  replace hk := hk.sp sw6
  replace hyx := Rep.sp hyx sw6
  replace hkx := hkx.sp sw6
  replace hX := hX.sp sw6
  replace hfd := Rep.sp hfd sw6
  replace hsub := sw6.sb hsub
  replace Lw := sw6.low
  replace hB := sw6.z hB
  replace hS : Ext w6 w6 := ext_refl _
  replace ho := hw6
  clear hw6
  have D_h1 := h1.box
  have D_h3 := h3.box
  have D_hk := hk
  have D_hkx := hkx
  have D_hatx := hX
  refine a_p 10 tK rfl rfl rfl rfl (by kernel_rfl) i3 hS ?_
  refine a_end (by kernel_rfl) ?_
  refine xS (cG (lP 1 tK rfl ?_))
  refine lC (oD tK (h1.cell 3 _ rfl) rfl rfl rfl rfl rfl ?_)
  refine lC (o_ixS tK hk (show t2.kids[1]? = some r by rw [hks]; rfl) rfl rfl rfl rfl rfl rfl rfl rfl rfl ?_)
  intro eby eoy euy hyy haty
  obtain ⟨kvy, rfl, opy, nmy, n64y, hky⟩ := tyg_open hyy
  replace haty : At Mw6 w6 eby eoy [.int .u8 r.op, .string r.name, .int .i64 r.n, kvy] := haty
  refine lC (oL tK (fun j v hv => haty.cell j v hv) rfl rfl rfl rfl rfl rfl ?_)
  refine lC (o_st tK h1.box rfl rfl rfl rfl (Rep.one hyy) rfl rfl ?_)
  intro w7 hw7 qw7 bew7
  have uw7 : UpdB _ _ _ := ⟨qw7, bew7⟩
  have sw7 := uw7.sp h1.inM Lw h1.ge
  have frw7 := qw7.2
  replace hT := hT.then sw7
  replace ho := ho.sp sw7 (fun x hx => frw7 x (ho.lt x hx).2 (d_ho_h1 x hx))
  replace h3 := h3.sp sw7 (frw7 b3 h3.lt ne_h1_h3.symm)
  replace hE := hE.trans sw7.below
  replace ht := Rep.sp ht sw7
  replace hk := hk.sp sw7
  replace hyx := Rep.sp hyx sw7
  replace hkx := hkx.sp sw7
  replace hX := hX.sp sw7
  replace hfd := Rep.sp hfd sw7
  replace hyy := Rep.sp hyy sw7
  replace hky := hky.sp sw7
  replace haty := haty.sp sw7
  replace hsub := sw7.sb hsub
  replace Lw := sw7.low
  replace hB := sw7.z hB
  replace h1 : MB w.heap.size _ w7 b1 _ [.int .u8 r.op, .string r.name, .int .i64 r.n, kvy] := ⟨hw7, h1.inM, h1.ge⟩
  refine q2 ?_
  exact x_round5 (r) (kvy) (vw6) (Mw6) (acc ++ [⟨t2.name, k⟩]) (s3 rfl rfl rfl) ⟨hsr, by rw [List.append_assoc, ← hacc, hsp]; rfl, by rw [← htl, hsp], ho, h1, h3, d_ho_h1, d_ho_h3, hyy, hT, Lw, hsub, hE, hB⟩ (by rw [psz_eq t2, hks, pszs_cons, pszs_cons]; omega)
 have hne : t2.op ≠ 11 := by omega
 rw [spine_no hne] at hacc htl
 simp only [List.append_nil] at hacc htl
 have hla : acc.length = (spineF t).1.length := by rw [hacc]
 refine c_exit (xE (xE (x_blkE (xS (q0 (lP 1 tK rfl ?_))))))
 refine lC (oK fo98 rfl rfl rfl (sortStable_spec M1 _ w.heap.size v acc ho (by omega) Lw hB) ?_)
 rintro _ w8 ⟨rfl, ⟨l2, ho2, hll, hst, hsr⟩, sw8, frw8⟩
 obtain rfl := fieldsF_uniq hsr hst
 replace hT := hT.then sw8
 replace h1 := h1.sp sw8 (frw8 b1 h1.lt (fun e => d_ho_h1 _ e.symm rfl))
 replace h3 := h3.sp sw8 (frw8 b3 h3.lt (fun e => d_ho_h3 _ e.symm rfl))
 replace hE := hE.trans sw8.below
 replace ht := Rep.sp ht sw8
 replace hk := hk.sp sw8
 replace hsub := sw8.sb hsub
 replace Lw := sw8.low
 replace hB := sw8.z hB
 replace ho := ho2
 refine q1 (cS ?_)
 refine a_beg Ext rfl ?_
 intro w9 ew9
 replace hT := hT.then (Stp.Y ew9 Lw hB)
 replace ho := ho.Y Lw hB ew9
 replace h1 := h1.Y Lw hB ew9
 replace h3 := h3.Y Lw hB ew9
 replace hE := ew9.bl hE hB
 replace ht := Rep.Y ht ew9
 replace hk := hk.Y ew9
 replace Lw := Lw.Y ew9
 replace hB := ew9.z hB
 have hS : Ext w9 w9 := ext_refl _
 have D_h1 := h1.box
 have D_h3 := h3.box
 have D_hk := hk
 refine a_p 0 tK rfl rfl rfl rfl (by kernel_rfl) i3 hS ?_
 refine a_lds 1 tK (fun _ hs j v hv => (D_h1.Y hs).cell j v hv) rfl rfl rfl rfl rfl rfl rfl (by kernel_rfl) i3 hS ?_
 refine a_p 2 tK rfl rfl rfl rfl (by kernel_rfl) i3 hS ?_
 refine a_barS Ext 3 rfl (by kernel_rfl) (by kernel_rfl) (o_st tK h3.box rfl rfl rfl rfl (Rep.one ht) rfl rfl ?_)
 intro w10 hw10 qw10 bew10
 have uw10 : UpdB _ _ _ := ⟨qw10, bew10⟩
 have sw10 := uw10.sp h3.inM Lw h3.ge
 have frw10 := qw10.2
 replace hT := hT.then sw10
 replace ho := ho.sp sw10 (fun x hx => frw10 x (ho.lt x hx).2 (d_ho_h3 x hx))
 replace h1 := h1.sp sw10 (frw10 b1 h1.lt ne_h1_h3)
 replace hE := hE.trans sw10.below
 replace ht := Rep.sp ht sw10
 replace hk := hk.sp sw10
 replace hsub := sw10.sb hsub
 replace Lw := sw10.low
 replace hB := sw10.z hB
 replace hS : Ext w10 w10 := ext_refl _
 replace h3 : MB w.heap.size _ w10 b3 _ [.int .u8 t2.op, .string t2.name, .int .i64 t2.n, kv] := ⟨hw10, h3.inM, h3.ge⟩
 have D_h1 := h1.box
 have D_h3 := h3.box
 have D_hk := hk
 refine a_end (by kernel_rfl) ?_
 refine xS (cR ?_)
 refine x_ret2ts tK (fun j v hv => h3.cell j v hv) rfl rfl rfl rfl rfl rfl ?_
 rw [hacc] at ho
 exact ⟨_, _, _, rfl, ho, by rw [← htl]; exact ht, hT⟩
theorem flat_spec (t : Ty) (M : Nat → Prop) (w : World) (v : Value) (hsh : shapeF t 114 = true) (ht : Rep.R M w v t) (hlow0 : Low M w) (hsz : psz t ≤ 2000000) :
  Calls Try.prog 69 #[v] w (Ret fun r w' => ∃ x tv M', r = .tuple #[x, tv] ∧ OwnSl 32 w.heap.size M' w' x (fieldsF (spineF t).1) ∧ Rep.R M' w' tv (spineF t).2 ∧ Stp w.heap.size M M' w w') := flat_gen (TR := stdT) t M w v hsh ht hlow0 hsz
theorem Flat_spec (t : Ty) (M : Nat → Prop) (w : World) (v : Value) (ht : Rep.R M w v t) (hlow0 : Low M w) (hsz : psz t ≤ 2000000) :
  Calls Try.prog 25 #[v] w (Ret fun r w' => (∃ x tv, r = .tuple #[x, tv] ∧ Sl M w' x (flatF t).1 ∧ Rep.R M w' tv (flatF t).2) ∧ Ext w w') := by
 have Lw := hlow0
 have hB := lR w.heap.size
 have hE := Below.refl w.heap.size w
 have hsub : ∀ b, M b → M b := fun _ h => h
 obtain ⟨kv, rfl, op, nm, n64, hk⟩ := tO ht
 have hsl := spine_len t
 have hfl0 := fieldsF_len (spineF t).1
 refine cN (n := 18) Try.func25 rfl rfl rfl ?_
 refine q0 ?_
 refine lC (o_box rfl rfl rfl ?_)
 intro b1 w1 hb_b1 ew1 h1
 replace h1 : Box _ b1 25 [.int .u8 t.op, .string t.name, .int .i64 t.n, kv] := h1
 replace h1 := h1.at (nO Lw hb_b1)
 replace hE := ew1.bl hE hB
 replace ht := Rep.Y ht ew1
 replace hk := hk.Y ew1
 replace Lw := Lw.Y ew1
 replace hB := ew1.z hB
 refine lP 1 tK rfl ?_
 refine lC (o_new tK rfl rfl rfl ?_)
 intro b3 w2 qb3 ew2 hb3
 have sw2 := Stp.add ew2 Lw hB (lQ qb3.symm) hb3.lt
 have h3 : MB w.heap.size (Rw.Add M b3) w2 b3 25 [.int .u8 0, .string ⟨#[]⟩, .int .i64 0, .slice none 0 0] := MB.mk' hb3 qb3 hB
 replace hE := hE.trans sw2.below
 replace ht := Rep.sp ht sw2
 replace hk := hk.sp sw2
 replace h1 := h1.sp sw2
 replace hsub := sw2.sb hsub
 replace Lw := sw2.low
 replace hB := sw2.z hB
 refine q1 (cS (q0 ?_))
 refine lC (oL tK (fun j v hv => h1.cell j v hv) rfl rfl rfl rfl rfl rfl ?_)
 refine lC (oK fo18 rfl rfl rfl (kRow_spec t _ _ _ ht Lw) ?_)
 rintro _ w3 ⟨rfl, ew3⟩
 replace h3 := h3.Y Lw hB ew3
 replace hE := ew3.bl hE hB
 replace ht := Rep.Y ht ew3
 replace hk := hk.Y ew3
 replace h1 := h1.Y ew3
 replace Lw := Lw.Y ew3
 replace hB := ew3.z hB
 refine lP 1 tK rfl (q1 ?_)
 refine c_ifB _ rfl (fun hc => ?_) (fun hc => ?_)
 ·have hB0 : rowB t = false := by rw [← rowB_law]; exact hc
  refine q0 ?_
  refine lC (o_build (cells := [.int .u8 0, .string ⟨#[]⟩, .int .i64 0, .slice none 0 0]) (css := []) bd25 rfl rfl rfl rfl rfl ?_)
  refine lP 1 tK rfl ?_
  refine lC (o_st tK h3.box rfl rfl rfl rfl (by intro u hu; simp [Value.cells] at hu; rcases hu with rfl | rfl | rfl | rfl <;> rfl) rfl rfl ?_)
  intro w4 hw4 qw4 bew4
  have uw4 : UpdB _ _ _ := ⟨qw4, bew4⟩
  have sw4 := uw4.sp h3.inM Lw h3.ge
  have frw4 := qw4.2
  replace hE := hE.trans sw4.below
  replace ht := Rep.sp ht sw4
  replace hk := hk.sp sw4
  replace h1 := h1.sp sw4
  replace hsub := sw4.sb hsub
  replace Lw := sw4.low
  replace hB := sw4.z hB
  replace h3 : MB w.heap.size _ w4 b3 _ [.int .u8 0, .string ⟨#[]⟩, .int .i64 0, .slice none 0 0] := ⟨hw4, h3.inM, h3.ge⟩
  refine q1 (cR (xR ?_))
  refine x_ret2ts tK (fun j v hv => h3.cell j v hv) rfl rfl rfl rfl rfl rfl ?_
  refine ⟨⟨_, _, rfl, ?_, ?_⟩, hE⟩
  ·rw [flatF, hB0]; exact sl_nil
  ·rw [flatF, hB0]; exact ty_mk (by decide) (by decide) ⟨by decide, by decide⟩ sl_nil
 have hB0 : rowB t = true := by rw [← rowB_law]; exact hc
 have hsh : shapeF t 114 = true := by unfold rowB at hB0; rw [Bool.and_eq_true] at hB0; exact hB0.1
 refine cK (xS (q0 ?_))
 refine lC (oL tK (fun j v hv => h1.cell j v hv) rfl rfl rfl rfl rfl rfl ?_)
 refine lC (oK fo67 rfl rfl rfl (copied_spec t _ _ _ ht Lw hsz) ?_)
 rintro vr w5 ⟨hr, ew5⟩
 replace h3 := h3.Y Lw hB ew5
 replace hE := ew5.bl hE hB
 replace ht := Rep.Y ht ew5
 replace hk := hk.Y ew5
 replace h1 := h1.Y ew5
 replace Lw := Lw.Y ew5
 replace hB := ew5.z hB
 refine lC (oK fo69 rfl rfl rfl (flat_spec t _ _ _ hsh hr Lw hsz) ?_)
 rintro _ w6 ⟨xv, tv, M2, rfl, ho2, htl, sw6⟩
 have ew6 : Ext w5 w6 := sw6.below
 have hfl := ho2.sl (by omega) Lw sw6.sub
 have htv := Rep.wk htl (fun b _ hb => sw6.sub b hb)
 replace h3 := h3.Y Lw hB ew6
 replace hE := ew6.bl hE hB
 replace ht := Rep.Y ht ew6
 replace hk := hk.Y ew6
 replace h1 := h1.Y ew6
 replace hr := Rep.Y hr ew6
 replace Lw := Lw.Y ew6
 replace hB := ew6.z hB
 obtain ⟨kve, rfl, ope, nme, n64e, hke⟩ := tO htv
 refine lP 3 tK rfl ?_
 refine lC (o_new tK rfl rfl rfl ?_)
 intro b5 w7 qb5 ew7 hb5
 have nb5 := nO Lw qb5
 refine lP 1 tK rfl ?_
 refine lC (o_st tK hb5 rfl rfl rfl rfl (Rep.one htv) rfl rfl ?_)
 intro w8 h5 uw8 bew8
 have ew8 : Ext w6 w8 := ew7.trans (bew8 _ (lQ qb5.symm))
 replace h3 := h3.Y Lw hB ew8
 replace hE := ew8.bl hE hB
 replace ht := Rep.Y ht ew8
 replace hk := hk.Y ew8
 replace h1 := h1.Y ew8
 replace hr := Rep.Y hr ew8
 replace hfl := hfl.Y ew8
 replace htv := Rep.Y htv ew8
 replace hke := hke.Y ew8
 replace Lw := Lw.Y ew8
 replace hB := ew8.z hB
 replace h5 : Box w8 b5 25 [.int .u8 (spineF t).2.op, .string (spineF t).2.name, .int .i64 (spineF t).2.n, kve] := h5
 replace h5 := h5.at nb5
 refine q1 (cS ?_)
 refine a_beg Ext rfl ?_
 intro w9 ew9
 replace h3 := h3.Y Lw hB ew9
 replace hE := ew9.bl hE hB
 replace ht := Rep.Y ht ew9
 replace hk := hk.Y ew9
 replace h1 := h1.Y ew9
 replace hr := Rep.Y hr ew9
 replace hfl := hfl.Y ew9
 replace htv := Rep.Y htv ew9
 replace hke := hke.Y ew9
 replace h5 := h5.Y ew9
 replace Lw := Lw.Y ew9
 replace hB := ew9.z hB
 have hS : Ext w9 w9 := ext_refl _
 have D_hk := hk
 have D_h1 := h1
 have D_h3 := h3.box
 have D_hfl := hfl
 have D_hke := hke
 have D_h5 := h5
 refine a_p 0 tK rfl rfl rfl rfl (by kernel_rfl) i3 hS ?_
 refine a_lds 1 tK (fun _ hs j v hv => (D_h5.Y hs).cell j v hv) rfl rfl rfl rfl rfl rfl rfl (by kernel_rfl) i3 hS ?_
 refine a_p 2 tK rfl rfl rfl rfl (by kernel_rfl) i3 hS ?_
 refine a_barS Ext 3 rfl (by kernel_rfl) (by kernel_rfl) (o_st tK h3.box rfl rfl rfl rfl (Rep.one htv) rfl rfl ?_)
 intro w10 hw10 qw10 bew10
 have uw10 : UpdB _ _ _ := ⟨qw10, bew10⟩
 have sw10 := uw10.sp h3.inM Lw h3.ge
 have frw10 := qw10.2
 replace hE := hE.trans sw10.below
 replace ht := Rep.sp ht sw10
 replace hk := hk.sp sw10
 replace h1 := h1.sp sw10
 replace hr := Rep.sp hr sw10
 replace hfl := hfl.sp sw10
 replace htv := Rep.sp htv sw10
 replace hke := hke.sp sw10
 replace h5 := h5.sp sw10
 replace hsub := sw10.sb hsub
 replace Lw := sw10.low
 replace hB := sw10.z hB
 replace hS : Ext w10 w10 := ext_refl _
 replace h3 : MB w.heap.size _ w10 b3 _ [.int .u8 (spineF t).2.op, .string (spineF t).2.name, .int .i64 (spineF t).2.n, kve] := ⟨hw10, h3.inM, h3.ge⟩
 have D_hk := hk
 have D_h1 := h1
 have D_h3 := h3.box
 have D_hfl := hfl
 have D_hke := hke
 have D_h5 := h5
 refine a_end (by kernel_rfl) ?_
 refine xS (cR ?_)
 refine x_ret2ts tK (fun j v hv => h3.cell j v hv) rfl rfl rfl rfl rfl rfl ?_
 refine ⟨⟨_, _, rfl, ?_, ?_⟩, hE⟩
 ·rw [flatF, hB0]; exact hfl.wk (fun b _ h => hsub b h)
 ·rw [flatF, hB0]; exact Rep.wk htv (fun b _ h => hsub b h)
theorem field_spec (name : ByteArray) (t r : Ty) (M : Nat → Prop) (w : World) (v u : Value) (hnm : name.size < 140737488355328) (ht : Rep.R M w v t) (hr : Rep.R M w u r) (hlow0 : Low M w) :
  Calls Try.prog 63 #[.string name, v, u] w (Ret fun x w' => Rep.R M w' x (Ty.mk 11 name 0 [t, r]) ∧ Ext w w') := by
 have Lw := hlow0
 have hB := lR w.heap.size
 have hE := Below.refl w.heap.size w
 have hsub : ∀ b, M b → M b := fun _ h => h
 obtain ⟨kv, rfl, op, nm, n64, hk⟩ := tO ht
 obtain ⟨kvr, rfl, opr, nmr, n64r, hkr⟩ := tO hr
 refine cN (n := 12) Try.func63 rfl rfl rfl ?_
 refine q0 ?_
 refine lC (o_box rfl rfl rfl ?_)
 intro b4 w1 hb_b4 ew1 h4
 replace h4 : Box _ b4 25 [.int .u8 t.op, .string t.name, .int .i64 t.n, kv] := h4
 replace h4 := h4.at (nO Lw hb_b4)
 replace hE := ew1.bl hE hB
 replace ht := Rep.Y ht ew1
 replace hk := hk.Y ew1
 replace hr := Rep.Y hr ew1
 replace hkr := hkr.Y ew1
 replace Lw := Lw.Y ew1
 replace hB := ew1.z hB
 refine lC (o_box rfl rfl rfl ?_)
 intro b5 w2 hb_b5 ew2 h5
 replace h5 : Box _ b5 25 [.int .u8 r.op, .string r.name, .int .i64 r.n, kvr] := h5
 replace h5 := h5.at (nO Lw hb_b5)
 replace hE := ew2.bl hE hB
 replace ht := Rep.Y ht ew2
 replace hk := hk.Y ew2
 replace hr := Rep.Y hr ew2
 replace hkr := hkr.Y ew2
 replace h4 := h4.Y ew2
 replace Lw := Lw.Y ew2
 replace hB := ew2.z hB
 refine lC (o_new tK rfl rfl rfl ?_)
 intro b6 w3 qb6 ew3 hb6
 have sw3 := Stp.add ew3 Lw hB (lQ qb6.symm) hb6.lt
 have h6 : MB w.heap.size (Rw.Add M b6) w3 b6 25 [.int .u8 0, .string ⟨#[]⟩, .int .i64 0, .slice none 0 0] := MB.mk' hb6 qb6 hB
 replace hE := hE.trans sw3.below
 replace ht := Rep.sp ht sw3
 replace hk := hk.sp sw3
 replace hr := Rep.sp hr sw3
 replace hkr := hkr.sp sw3
 replace h4 := h4.sp sw3
 replace h5 := h5.sp sw3
 replace hsub := sw3.sb hsub
 replace Lw := sw3.low
 replace hB := sw3.z hB
 refine q1 (q0 (lP 1 tK rfl ?_))
 refine lC (oL tK (fun j v hv => h4.cell j v hv) rfl rfl rfl rfl rfl rfl ?_)
 refine lC (oL tK (fun j v hv => h5.cell j v hv) rfl rfl rfl rfl rfl rfl ?_)
 refine lC (o_bs tK rfl rfl rfl rfl rfl rfl rfl (sz2 rfl rfl) rfl rfl rfl ?_)
 intro bw4 w4 qbw4 ew4 hbw4
 have sw4 := Stp.add ew4 Lw hB (lQ qbw4.symm) hbw4.lt
 have le_bw4 := hB
 have d_ho_h6 : ∀ x, ((.slice (some ⟨bw4, 0, none⟩) 2 2) : Value).ownBlock = some x → x ≠ b6 := fun x hx => by have := ob_eq hx; have := h6.lt; omega
 replace h6 := h6.sp sw4 (ew4.block b6 h6.lt)
 replace hE := hE.trans sw4.below
 replace ht := Rep.sp ht sw4
 replace hk := hk.sp sw4
 replace hr := Rep.sp hr sw4
 replace hkr := hkr.sp sw4
 replace h4 := h4.sp sw4
 replace h5 := h5.sp sw4
 replace hsub := sw4.sb hsub
 replace Lw := sw4.low
 replace hB := sw4.z hB
 have ho := own_litS sw4 hbw4 (show Rs _ _ [_, _] [t, r] from ⟨ht, hr, trivial⟩) qbw4 le_bw4 (by simp [maxLen])
 refine lC (o_build (cells := [.int .u8 11, .string name, .int .i64 0, .slice (some ⟨bw4, 0, none⟩) 2 2]) bd25 rfl rfl rfl rfl rfl ?_)
 refine lC (o_st tK h6.box rfl rfl rfl rfl (by intro u hu; simp [Value.cells] at hu; rcases hu with rfl | rfl | rfl | rfl <;> rfl) rfl rfl ?_)
 intro w5 hw5 qw5 bew5
 have uw5 : UpdB _ _ _ := ⟨qw5, bew5⟩
 have sw5 := uw5.sp h6.inM Lw h6.ge
 have frw5 := qw5.2
 replace ho := ho.sp sw5 (fun x hx => frw5 x (ho.lt x hx).2 (d_ho_h6 x hx))
 replace hE := hE.trans sw5.below
 replace ht := Rep.sp ht sw5
 replace hk := hk.sp sw5
 replace hr := Rep.sp hr sw5
 replace hkr := hkr.sp sw5
 replace h4 := h4.sp sw5
 replace h5 := h5.sp sw5
 replace hsub := sw5.sb hsub
 replace Lw := sw5.low
 replace hB := sw5.z hB
 replace h6 : MB w.heap.size _ w5 b6 _ [.int .u8 11, .string name, .int .i64 0, .slice (some ⟨bw4, 0, none⟩) 2 2] := ⟨hw5, h6.inM, h6.ge⟩
 refine q1 (cR ?_)
 refine x_ret1s tK (fun j v hv => h6.cell j v hv) rfl rfl rfl rfl rfl ?_
 exact ⟨ty_mk (by decide) hnm ⟨by decide, by decide⟩ (ho.sl (by simp) hlow0 hsub), hE⟩
theorem alive_spec (M : Nat → Prop) (w : World) (hlow0 : Low M w) :
  Calls Try.prog 14 #[] w (Ret fun r w' => r = .bool true ∧ Ext w w') := by
 have Lw := hlow0
 have hB := lR w.heap.size
 have hE := Below.refl w.heap.size w
 have hsub : ∀ b, M b → M b := fun _ h => h
 refine cN (n := 46) Try.func14 rfl rfl rfl ?_
 refine q0 (lP 1 tK rfl (q1 (q0 ?_)))
 refine lC (o_build (cells := [.int .u8 8, .string ⟨#[]⟩, .int .i64 0, .slice none 0 0]) bd25 rfl rfl rfl rfl rfl ?_)
 have hnone : Rep.R M w (.agg #[.int .u8 8, .string ⟨#[]⟩, .int .i64 0, .slice none 0 0]) tyNone := ty_mk (by decide) (by decide) ⟨by decide, by decide⟩ sl_nil
 refine lC (o_new tK rfl rfl rfl ?_)
 intro b1 w1 qb1 ew1 hb1
 have nb1 := nO Lw qb1
 refine lC (o_st tK hb1 rfl rfl rfl rfl (Rep.one hnone) rfl rfl ?_)
 intro w2 h1 uw2 bew2
 have ew2 : Ext w w2 := ew1.trans (bew2 _ (lQ qb1.symm))
 replace hE := ew2.bl hE hB
 replace hnone := Rep.Y hnone ew2
 replace Lw := Lw.Y ew2
 replace hB := ew2.z hB
 replace h1 : Box w2 b1 25 [.int .u8 tyNone.op, .string tyNone.name, .int .i64 tyNone.n, .slice none 0 0] := h1
 replace h1 := h1.at nb1
 refine q1 (cS ?_)
 refine a_beg Ext rfl ?_
 intro w3 ew3
 replace hE := ew3.bl hE hB
 replace hnone := Rep.Y hnone ew3
 replace h1 := h1.Y ew3
 replace Lw := Lw.Y ew3
 replace hB := ew3.z hB
 have hS : Ext w3 w3 := ext_refl _
 have D_h1 := h1
 refine a_lds 2 tK (fun _ hs j v hv => (D_h1.Y hs).cell j v hv) rfl rfl rfl rfl rfl rfl rfl (by kernel_rfl) i3 hS ?_
 refine a_all [0, 5] (by kernel_rfl) rfl (all_cons (i := 0) rfl ?_ (all_cons (i := 5) rfl ?_ all_nil))
 ·refine oK fo33 rfl rfl rfl (int_spec _ _ Lw) ?_
  rintro vhI w4 ⟨hI, ew4⟩
  replace hI : Rep.R _ w4 vhI tyB := hI
  replace hS := hS.then ew4
  replace hE := ew4.bl hE hB
  replace hnone := Rep.Y hnone ew4
  replace h1 := h1.Y ew4
  replace Lw := Lw.Y ew4
  replace hB := ew4.z hB
  refine ⟨hS, ?_⟩
  refine a_all [1, 5] (by kernel_rfl) rfl (all_cons (i := 1) rfl ?_ (all_cons (i := 5) rfl ?_ all_nil))
  ·refine oK fo34 rfl rfl rfl (bool_spec _ _ Lw) ?_
   rintro vhO w5 ⟨hO, ew5⟩
   replace hO : Rep.R _ w5 vhO tyA := hO
   replace hS := hS.then ew5
   replace hE := ew5.bl hE hB
   replace hnone := Rep.Y hnone ew5
   replace h1 := h1.Y ew5
   replace hI := Rep.Y hI ew5
   replace Lw := Lw.Y ew5
   replace hB := ew5.z hB
   refine ⟨hS, ?_⟩
   refine a_all [3, 5] (by kernel_rfl) rfl (all_cons (i := 3) rfl ?_ (all_cons (i := 5) rfl ?_ all_nil))
   ·refine oK fo63 rfl rfl rfl (field_spec ⟨#[97]⟩ tyA tyNone _ _ _ _ (by decide) hO hnone Lw) ?_
    rintro vhr1 w6 ⟨hr1, ew6⟩
    replace hS := hS.then ew6
    replace hE := ew6.bl hE hB
    replace hnone := Rep.Y hnone ew6
    replace h1 := h1.Y ew6
    replace hI := Rep.Y hI ew6
    replace hO := Rep.Y hO ew6
    replace Lw := Lw.Y ew6
    replace hB := ew6.z hB
    refine ⟨hS, ?_⟩
    refine a_all [4, 5] (by kernel_rfl) rfl (all_cons (i := 4) rfl ?_ (all_cons (i := 5) rfl ?_ all_nil))
    ·refine oK fo63 rfl rfl rfl (field_spec ⟨#[98]⟩ tyB (Ty.mk 11 ⟨#[97]⟩ 0 [tyA, tyNone]) _ _ _ _ (by decide) hI hr1 Lw) ?_
     rintro vhr2 w7 ⟨hr2, ew7⟩
     replace hS := hS.then ew7
     replace hE := ew7.bl hE hB
     replace hnone := Rep.Y hnone ew7
     replace h1 := h1.Y ew7
     replace hI := Rep.Y hI ew7
     replace hO := Rep.Y hO ew7
     replace hr1 := Rep.Y hr1 ew7
     replace Lw := Lw.Y ew7
     replace hB := ew7.z hB
     refine ⟨hS, ?_⟩
     refine a_one 5 rfl (by kernel_rfl) (o_new tK rfl rfl rfl ?_)
     intro b2 w8 qb2 ew8 hb2
     have gS_b2 := Nat.le_trans hS.size (lQ qb2.symm)
     replace hS := hS.then ew8
     have sw8 := Stp.add ew8 Lw hB (lQ qb2.symm) hb2.lt
     have h2 : MB w.heap.size (Rw.Add M b2) w8 b2 25 [.int .u8 0, .string ⟨#[]⟩, .int .i64 0, .slice none 0 0] := MB.mk' hb2 qb2 hB
     replace hE := hE.trans sw8.below
     replace hnone := Rep.sp hnone sw8
     replace h1 := h1.sp sw8
     replace hI := Rep.sp hI sw8
     replace hO := Rep.sp hO sw8
     replace hr1 := Rep.sp hr1 sw8
     replace hr2 := Rep.sp hr2 sw8
     replace hsub := sw8.sb hsub
     replace Lw := sw8.low
     replace hB := sw8.z hB
     refine ⟨hS, ?_⟩
     replace hr2 : Rep.R _ w8 vhr2 tyRow := hr2
     obtain ⟨kvr, rfl, opr, nmr, n64r, hkr⟩ := tO hr2
     refine a_barS Ext 6 rfl (by kernel_rfl) (by kernel_rfl) (o_st tK h2.box rfl rfl rfl rfl (Rep.one hr2) rfl rfl ?_)
     intro w9 hw9 qw9 bew9
     have uw9 : UpdB _ _ _ := ⟨qw9, bew9⟩
     have sw9 := uw9.sp h2.inM Lw h2.ge
     have frw9 := qw9.2
     replace hE := hE.trans sw9.below
     replace hnone := Rep.sp hnone sw9
     replace h1 := h1.sp sw9
     replace hI := Rep.sp hI sw9
     replace hO := Rep.sp hO sw9
     replace hr1 := Rep.sp hr1 sw9
     replace hr2 := Rep.sp hr2 sw9
     replace hkr := hkr.sp sw9
     replace hsub := sw9.sb hsub
     replace Lw := sw9.low
     replace hB := sw9.z hB
     replace hS : Ext w9 w9 := ext_refl _
     replace h2 : MB w.heap.size _ w9 b2 _ [.int .u8 tyRow.op, .string tyRow.name, .int .i64 tyRow.n, kvr] := ⟨hw9, h2.inM, h2.ge⟩
     have D_h1 := h1
     have D_h2 := h2.box
     have D_hkr := hkr
     refine a_end (by kernel_rfl) ?_
     refine xS (q0 ?_)
     refine lC (oL tK (fun j v hv => h2.cell j v hv) rfl rfl rfl rfl rfl rfl ?_)
     refine lC (oK fo25 rfl rfl rfl (Flat_spec tyRow _ _ _ hr2 Lw psz_row) ?_)
     rintro _ w10 ⟨⟨xv, tv, rfl, hfl, htl⟩, ew10⟩
     rw [flat_row] at hfl htl
     simp only at hfl htl
     replace h2 := h2.Y Lw hB ew10
     replace hE := ew10.bl hE hB
     replace hnone := Rep.Y hnone ew10
     replace h1 := h1.Y ew10
     replace hI := Rep.Y hI ew10
     replace hO := Rep.Y hO ew10
     replace hr1 := Rep.Y hr1 ew10
     replace hr2 := Rep.Y hr2 ew10
     replace hkr := hkr.Y ew10
     replace Lw := Lw.Y ew10
     replace hB := ew10.z hB
     obtain ⟨kve, rfl, ope, nme, n64e, hke⟩ := tO htl
     refine lP 3 tK rfl ?_
     refine lC (o_new tK rfl rfl rfl ?_)
     intro b4 w11 qb4 ew11 hb4
     have nb4 := nO Lw qb4
     refine lP 1 tK rfl ?_
     refine lC (o_st tK hb4 rfl rfl rfl rfl (Rep.one htl) rfl rfl ?_)
     intro w12 h4 uw12 bew12
     have ew12 : Ext w10 w12 := ew11.trans (bew12 _ (lQ qb4.symm))
     replace h2 := h2.Y Lw hB ew12
     replace hE := ew12.bl hE hB
     replace hnone := Rep.Y hnone ew12
     replace h1 := h1.Y ew12
     replace hI := Rep.Y hI ew12
     replace hO := Rep.Y hO ew12
     replace hr1 := Rep.Y hr1 ew12
     replace hr2 := Rep.Y hr2 ew12
     replace hkr := hkr.Y ew12
     replace hfl := hfl.Y ew12
     replace htl := Rep.Y htl ew12
     replace hke := hke.Y ew12
     replace Lw := Lw.Y ew12
     replace hB := ew12.z hB
     replace h4 : Box w12 b4 25 [.int .u8 tyNone.op, .string tyNone.name, .int .i64 tyNone.n, kve] := h4
     replace h4 := h4.at nb4
     refine q1 (q0 (lP 1 tK rfl ?_))
     refine lC (o_len tK hfl rfl rfl rfl rfl rfl ?_)
     refine lP 2 tK rfl ?_
     refine lS 19 _ rfl (fun c1 => ?_) (fun c1 => ?_)
     ·refine lP 1 tK rfl ?_
      refine lC (o_ixS tK hfl (show _ = some (⟨⟨#[97]⟩, tyA⟩ : Fld) from rfl) rfl rfl rfl rfl rfl rfl rfl rfl rfl ?_)
      intro eb0 eo0 eu0 hy0 hat0
      obtain ⟨szf0, kvf0, rfl, hyf0⟩ := fld_open hy0
      replace hat0 : At _ w12 eb0 eo0 [.string (⟨⟨#[97]⟩, tyA⟩ : Fld).name, .int .u8 (⟨⟨#[97]⟩, tyA⟩ : Fld).ty.op, .string (⟨⟨#[97]⟩, tyA⟩ : Fld).ty.name, .int .i64 (⟨⟨#[97]⟩, tyA⟩ : Fld).ty.n, kvf0] := hat0
      refine lP 1 tK rfl ?_
      refine lC (oD tK (hat0.cell 0 _ rfl) rfl rfl rfl rfl rfl ?_)
      refine lP 3 tK rfl ?_
      refine lS 26 _ rfl (fun c2 => ?_) (fun c2 => ?_)
      ·refine lP 1 tK rfl ?_
       refine lC (o_ixS tK hfl (show _ = some (⟨⟨#[98]⟩, tyB⟩ : Fld) from rfl) rfl rfl rfl rfl rfl rfl rfl rfl rfl ?_)
       intro eb1 eo1 eu1 hy1 hat1
       obtain ⟨szf1, kvf1, rfl, hyf1⟩ := fld_open hy1
       replace hat1 : At _ w12 eb1 eo1 [.string (⟨⟨#[98]⟩, tyB⟩ : Fld).name, .int .u8 (⟨⟨#[98]⟩, tyB⟩ : Fld).ty.op, .string (⟨⟨#[98]⟩, tyB⟩ : Fld).ty.name, .int .i64 (⟨⟨#[98]⟩, tyB⟩ : Fld).ty.n, kvf1] := hat1
       refine lP 1 tK rfl ?_
       refine lC (oD tK (hat1.cell 0 _ rfl) rfl rfl rfl rfl rfl ?_)
       refine lP 3 tK rfl ?_
       refine lS 33 _ rfl (fun c3 => ?_) (fun c3 => ?_)
       ·refine lP 1 tK rfl ?_
        refine lC (o_ixS tK hfl (show _ = some (⟨⟨#[97]⟩, tyA⟩ : Fld) from rfl) rfl rfl rfl rfl rfl rfl rfl rfl rfl ?_)
        intro eb2 eo2 eu2 hy2 hat2
        obtain ⟨szf2, kvf2, rfl, hyf2⟩ := fld_open hy2
        replace hat2 : At _ w12 eb2 eo2 [.string (⟨⟨#[97]⟩, tyA⟩ : Fld).name, .int .u8 (⟨⟨#[97]⟩, tyA⟩ : Fld).ty.op, .string (⟨⟨#[97]⟩, tyA⟩ : Fld).ty.name, .int .i64 (⟨⟨#[97]⟩, tyA⟩ : Fld).ty.n, kvf2] := hat2
        refine lP 2 tK rfl ?_
        refine lC (oD tK (hat2.cell 1 _ rfl) rfl rfl rfl rfl rfl ?_)
        refine lP 3 tK rfl ?_
        refine lS 41 _ rfl (fun c4 => ?_) (fun c4 => ?_)
        ·refine lC (oL tK (fun j v hv => h4.cell j v hv) rfl rfl rfl rfl rfl rfl ?_)
         refine lC (oL tK (fun j v hv => h1.cell j v hv) rfl rfl rfl rfl rfl rfl ?_)
         refine lC (oK fo22 rfl rfl rfl (alike_spec _ _ _ _ _ _ htl hnone Lw) ?_)
         rintro _ w13 ⟨rfl, ew13⟩
         replace h2 := h2.Y Lw hB ew13
         replace hE := ew13.bl hE hB
         replace hnone := Rep.Y hnone ew13
         replace h1 := h1.Y ew13
         replace hI := Rep.Y hI ew13
         replace hO := Rep.Y hO ew13
         replace hr1 := Rep.Y hr1 ew13
         replace hr2 := Rep.Y hr2 ew13
         replace hkr := hkr.Y ew13
         replace hfl := hfl.Y ew13
         replace htl := Rep.Y htl ew13
         replace hke := hke.Y ew13
         replace h4 := h4.Y ew13
         replace hat0 := hat0.Y ew13
         replace hat1 := hat1.Y ew13
         replace hat2 := hat2.Y ew13
         replace Lw := Lw.Y ew13
         replace hB := ew13.z hB
         refine lP 2 tK rfl (q1 (cR (x1_ rfl rfl ?_)))
         exact ⟨by rw [cl_true rfl], hE⟩
        exact absurd (by first | rfl | decide) c4
       exact absurd (by first | rfl | decide) c3
      exact absurd (by first | rfl | decide) c2
     exact absurd (by first | rfl | decide) c1
    refine o_new tK rfl rfl rfl ?_
    intro b2 w14 qb2 ew14 hb2
    have gS_b2 := Nat.le_trans hS.size (lQ qb2.symm)
    replace hS := hS.then ew14
    have sw14 := Stp.add ew14 Lw hB (lQ qb2.symm) hb2.lt
    have h2 : MB w.heap.size (Rw.Add M b2) w14 b2 25 [.int .u8 0, .string ⟨#[]⟩, .int .i64 0, .slice none 0 0] := MB.mk' hb2 qb2 hB
    replace hE := hE.trans sw14.below
    replace hnone := Rep.sp hnone sw14
    replace h1 := h1.sp sw14
    replace hI := Rep.sp hI sw14
    replace hO := Rep.sp hO sw14
    replace hr1 := Rep.sp hr1 sw14
    replace hsub := sw14.sb hsub
    replace Lw := sw14.low
    replace hB := sw14.z hB
    refine ⟨hS, ?_⟩
    refine a_one 4 rfl (by kernel_rfl) (oK fo63 rfl rfl rfl (field_spec ⟨#[98]⟩ tyB (Ty.mk 11 ⟨#[97]⟩ 0 [tyA, tyNone]) _ _ _ _ (by decide) hI hr1 Lw) ?_)
    rintro vhr2 w15 ⟨hr2, ew15⟩
    replace hS := hS.then ew15
    replace h2 := h2.Y Lw hB ew15
    replace hE := ew15.bl hE hB
    replace hnone := Rep.Y hnone ew15
    replace h1 := h1.Y ew15
    replace hI := Rep.Y hI ew15
    replace hO := Rep.Y hO ew15
    replace hr1 := Rep.Y hr1 ew15
    replace Lw := Lw.Y ew15
    replace hB := ew15.z hB
    refine ⟨hS, ?_⟩
    replace hr2 : Rep.R _ w15 vhr2 tyRow := hr2
    obtain ⟨kvr, rfl, opr, nmr, n64r, hkr⟩ := tO hr2
    refine a_barS Ext 6 rfl (by kernel_rfl) (by kernel_rfl) (o_st tK h2.box rfl rfl rfl rfl (Rep.one hr2) rfl rfl ?_)
    intro w16 hw16 qw16 bew16
    have uw16 : UpdB _ _ _ := ⟨qw16, bew16⟩
    have sw16 := uw16.sp h2.inM Lw h2.ge
    have frw16 := qw16.2
    replace hE := hE.trans sw16.below
    replace hnone := Rep.sp hnone sw16
    replace h1 := h1.sp sw16
    replace hI := Rep.sp hI sw16
    replace hO := Rep.sp hO sw16
    replace hr1 := Rep.sp hr1 sw16
    replace hr2 := Rep.sp hr2 sw16
    replace hkr := hkr.sp sw16
    replace hsub := sw16.sb hsub
    replace Lw := sw16.low
    replace hB := sw16.z hB
    replace hS : Ext w16 w16 := ext_refl _
    replace h2 : MB w.heap.size _ w16 b2 _ [.int .u8 tyRow.op, .string tyRow.name, .int .i64 tyRow.n, kvr] := ⟨hw16, h2.inM, h2.ge⟩
    have D_h1 := h1
    have D_h2 := h2.box
    have D_hkr := hkr
    refine a_end (by kernel_rfl) ?_
    refine xS (q0 ?_)
    refine lC (oL tK (fun j v hv => h2.cell j v hv) rfl rfl rfl rfl rfl rfl ?_)
    refine lC (oK fo25 rfl rfl rfl (Flat_spec tyRow _ _ _ hr2 Lw psz_row) ?_)
    rintro _ w17 ⟨⟨xv, tv, rfl, hfl, htl⟩, ew17⟩
    rw [flat_row] at hfl htl
    simp only at hfl htl
    replace h2 := h2.Y Lw hB ew17
    replace hE := ew17.bl hE hB
    replace hnone := Rep.Y hnone ew17
    replace h1 := h1.Y ew17
    replace hI := Rep.Y hI ew17
    replace hO := Rep.Y hO ew17
    replace hr1 := Rep.Y hr1 ew17
    replace hr2 := Rep.Y hr2 ew17
    replace hkr := hkr.Y ew17
    replace Lw := Lw.Y ew17
    replace hB := ew17.z hB
    obtain ⟨kve, rfl, ope, nme, n64e, hke⟩ := tO htl
    refine lP 3 tK rfl ?_
    refine lC (o_new tK rfl rfl rfl ?_)
    intro b4 w18 qb4 ew18 hb4
    have nb4 := nO Lw qb4
    refine lP 1 tK rfl ?_
    refine lC (o_st tK hb4 rfl rfl rfl rfl (Rep.one htl) rfl rfl ?_)
    intro w19 h4 uw19 bew19
    have ew19 : Ext w17 w19 := ew18.trans (bew19 _ (lQ qb4.symm))
    replace h2 := h2.Y Lw hB ew19
    replace hE := ew19.bl hE hB
    replace hnone := Rep.Y hnone ew19
    replace h1 := h1.Y ew19
    replace hI := Rep.Y hI ew19
    replace hO := Rep.Y hO ew19
    replace hr1 := Rep.Y hr1 ew19
    replace hr2 := Rep.Y hr2 ew19
    replace hkr := hkr.Y ew19
    replace hfl := hfl.Y ew19
    replace htl := Rep.Y htl ew19
    replace hke := hke.Y ew19
    replace Lw := Lw.Y ew19
    replace hB := ew19.z hB
    replace h4 : Box w19 b4 25 [.int .u8 tyNone.op, .string tyNone.name, .int .i64 tyNone.n, kve] := h4
    replace h4 := h4.at nb4
    refine q1 (q0 (lP 1 tK rfl ?_))
    refine lC (o_len tK hfl rfl rfl rfl rfl rfl ?_)
    refine lP 2 tK rfl ?_
    refine lS 19 _ rfl (fun c5 => ?_) (fun c5 => ?_)
    ·refine lP 1 tK rfl ?_
     refine lC (o_ixS tK hfl (show _ = some (⟨⟨#[97]⟩, tyA⟩ : Fld) from rfl) rfl rfl rfl rfl rfl rfl rfl rfl rfl ?_)
     intro eb0 eo0 eu0 hy0 hat0
     obtain ⟨szf0, kvf0, rfl, hyf0⟩ := fld_open hy0
     replace hat0 : At _ w19 eb0 eo0 [.string (⟨⟨#[97]⟩, tyA⟩ : Fld).name, .int .u8 (⟨⟨#[97]⟩, tyA⟩ : Fld).ty.op, .string (⟨⟨#[97]⟩, tyA⟩ : Fld).ty.name, .int .i64 (⟨⟨#[97]⟩, tyA⟩ : Fld).ty.n, kvf0] := hat0
     refine lP 1 tK rfl ?_
     refine lC (oD tK (hat0.cell 0 _ rfl) rfl rfl rfl rfl rfl ?_)
     refine lP 3 tK rfl ?_
     refine lS 26 _ rfl (fun c6 => ?_) (fun c6 => ?_)
     ·refine lP 1 tK rfl ?_
      refine lC (o_ixS tK hfl (show _ = some (⟨⟨#[98]⟩, tyB⟩ : Fld) from rfl) rfl rfl rfl rfl rfl rfl rfl rfl rfl ?_)
      intro eb1 eo1 eu1 hy1 hat1
      obtain ⟨szf1, kvf1, rfl, hyf1⟩ := fld_open hy1
      replace hat1 : At _ w19 eb1 eo1 [.string (⟨⟨#[98]⟩, tyB⟩ : Fld).name, .int .u8 (⟨⟨#[98]⟩, tyB⟩ : Fld).ty.op, .string (⟨⟨#[98]⟩, tyB⟩ : Fld).ty.name, .int .i64 (⟨⟨#[98]⟩, tyB⟩ : Fld).ty.n, kvf1] := hat1
      refine lP 1 tK rfl ?_
      refine lC (oD tK (hat1.cell 0 _ rfl) rfl rfl rfl rfl rfl ?_)
      refine lP 3 tK rfl ?_
      refine lS 33 _ rfl (fun c7 => ?_) (fun c7 => ?_)
      ·refine lP 1 tK rfl ?_
       refine lC (o_ixS tK hfl (show _ = some (⟨⟨#[97]⟩, tyA⟩ : Fld) from rfl) rfl rfl rfl rfl rfl rfl rfl rfl rfl ?_)
       intro eb2 eo2 eu2 hy2 hat2
       obtain ⟨szf2, kvf2, rfl, hyf2⟩ := fld_open hy2
       replace hat2 : At _ w19 eb2 eo2 [.string (⟨⟨#[97]⟩, tyA⟩ : Fld).name, .int .u8 (⟨⟨#[97]⟩, tyA⟩ : Fld).ty.op, .string (⟨⟨#[97]⟩, tyA⟩ : Fld).ty.name, .int .i64 (⟨⟨#[97]⟩, tyA⟩ : Fld).ty.n, kvf2] := hat2
       refine lP 2 tK rfl ?_
       refine lC (oD tK (hat2.cell 1 _ rfl) rfl rfl rfl rfl rfl ?_)
       refine lP 3 tK rfl ?_
       refine lS 41 _ rfl (fun c8 => ?_) (fun c8 => ?_)
       ·refine lC (oL tK (fun j v hv => h4.cell j v hv) rfl rfl rfl rfl rfl rfl ?_)
        refine lC (oL tK (fun j v hv => h1.cell j v hv) rfl rfl rfl rfl rfl rfl ?_)
        refine lC (oK fo22 rfl rfl rfl (alike_spec _ _ _ _ _ _ htl hnone Lw) ?_)
        rintro _ w20 ⟨rfl, ew20⟩
        replace h2 := h2.Y Lw hB ew20
        replace hE := ew20.bl hE hB
        replace hnone := Rep.Y hnone ew20
        replace h1 := h1.Y ew20
        replace hI := Rep.Y hI ew20
        replace hO := Rep.Y hO ew20
        replace hr1 := Rep.Y hr1 ew20
        replace hr2 := Rep.Y hr2 ew20
        replace hkr := hkr.Y ew20
        replace hfl := hfl.Y ew20
        replace htl := Rep.Y htl ew20
        replace hke := hke.Y ew20
        replace h4 := h4.Y ew20
        replace hat0 := hat0.Y ew20
        replace hat1 := hat1.Y ew20
        replace hat2 := hat2.Y ew20
        replace Lw := Lw.Y ew20
        replace hB := ew20.z hB
        refine lP 2 tK rfl (q1 (cR (x1_ rfl rfl ?_)))
        exact ⟨by rw [cl_true rfl], hE⟩
       exact absurd (by first | rfl | decide) c8
      exact absurd (by first | rfl | decide) c7
     exact absurd (by first | rfl | decide) c6
    exact absurd (by first | rfl | decide) c5
   refine o_new tK rfl rfl rfl ?_
   intro b2 w21 qb2 ew21 hb2
   have gS_b2 := Nat.le_trans hS.size (lQ qb2.symm)
   replace hS := hS.then ew21
   have sw21 := Stp.add ew21 Lw hB (lQ qb2.symm) hb2.lt
   have h2 : MB w.heap.size (Rw.Add M b2) w21 b2 25 [.int .u8 0, .string ⟨#[]⟩, .int .i64 0, .slice none 0 0] := MB.mk' hb2 qb2 hB
   replace hE := hE.trans sw21.below
   replace hnone := Rep.sp hnone sw21
   replace h1 := h1.sp sw21
   replace hI := Rep.sp hI sw21
   replace hO := Rep.sp hO sw21
   replace hsub := sw21.sb hsub
   replace Lw := sw21.low
   replace hB := sw21.z hB
   refine ⟨hS, ?_⟩
   refine a_one 3 rfl (by kernel_rfl) (oK fo63 rfl rfl rfl (field_spec ⟨#[97]⟩ tyA tyNone _ _ _ _ (by decide) hO hnone Lw) ?_)
   rintro vhr1 w22 ⟨hr1, ew22⟩
   replace hS := hS.then ew22
   replace h2 := h2.Y Lw hB ew22
   replace hE := ew22.bl hE hB
   replace hnone := Rep.Y hnone ew22
   replace h1 := h1.Y ew22
   replace hI := Rep.Y hI ew22
   replace hO := Rep.Y hO ew22
   replace Lw := Lw.Y ew22
   replace hB := ew22.z hB
   refine ⟨hS, ?_⟩
   refine a_one 4 rfl (by kernel_rfl) (oK fo63 rfl rfl rfl (field_spec ⟨#[98]⟩ tyB (Ty.mk 11 ⟨#[97]⟩ 0 [tyA, tyNone]) _ _ _ _ (by decide) hI hr1 Lw) ?_)
   rintro vhr2 w23 ⟨hr2, ew23⟩
   replace hS := hS.then ew23
   replace h2 := h2.Y Lw hB ew23
   replace hE := ew23.bl hE hB
   replace hnone := Rep.Y hnone ew23
   replace h1 := h1.Y ew23
   replace hI := Rep.Y hI ew23
   replace hO := Rep.Y hO ew23
   replace hr1 := Rep.Y hr1 ew23
   replace Lw := Lw.Y ew23
   replace hB := ew23.z hB
   refine ⟨hS, ?_⟩
   replace hr2 : Rep.R _ w23 vhr2 tyRow := hr2
   obtain ⟨kvr, rfl, opr, nmr, n64r, hkr⟩ := tO hr2
   refine a_barS Ext 6 rfl (by kernel_rfl) (by kernel_rfl) (o_st tK h2.box rfl rfl rfl rfl (Rep.one hr2) rfl rfl ?_)
   intro w24 hw24 qw24 bew24
   have uw24 : UpdB _ _ _ := ⟨qw24, bew24⟩
   have sw24 := uw24.sp h2.inM Lw h2.ge
   have frw24 := qw24.2
   replace hE := hE.trans sw24.below
   replace hnone := Rep.sp hnone sw24
   replace h1 := h1.sp sw24
   replace hI := Rep.sp hI sw24
   replace hO := Rep.sp hO sw24
   replace hr1 := Rep.sp hr1 sw24
   replace hr2 := Rep.sp hr2 sw24
   replace hkr := hkr.sp sw24
   replace hsub := sw24.sb hsub
   replace Lw := sw24.low
   replace hB := sw24.z hB
   replace hS : Ext w24 w24 := ext_refl _
   replace h2 : MB w.heap.size _ w24 b2 _ [.int .u8 tyRow.op, .string tyRow.name, .int .i64 tyRow.n, kvr] := ⟨hw24, h2.inM, h2.ge⟩
   have D_h1 := h1
   have D_h2 := h2.box
   have D_hkr := hkr
   refine a_end (by kernel_rfl) ?_
   refine xS (q0 ?_)
   refine lC (oL tK (fun j v hv => h2.cell j v hv) rfl rfl rfl rfl rfl rfl ?_)
   refine lC (oK fo25 rfl rfl rfl (Flat_spec tyRow _ _ _ hr2 Lw psz_row) ?_)
   rintro _ w25 ⟨⟨xv, tv, rfl, hfl, htl⟩, ew25⟩
   rw [flat_row] at hfl htl
   simp only at hfl htl
   replace h2 := h2.Y Lw hB ew25
   replace hE := ew25.bl hE hB
   replace hnone := Rep.Y hnone ew25
   replace h1 := h1.Y ew25
   replace hI := Rep.Y hI ew25
   replace hO := Rep.Y hO ew25
   replace hr1 := Rep.Y hr1 ew25
   replace hr2 := Rep.Y hr2 ew25
   replace hkr := hkr.Y ew25
   replace Lw := Lw.Y ew25
   replace hB := ew25.z hB
   obtain ⟨kve, rfl, ope, nme, n64e, hke⟩ := tO htl
   refine lP 3 tK rfl ?_
   refine lC (o_new tK rfl rfl rfl ?_)
   intro b4 w26 qb4 ew26 hb4
   have nb4 := nO Lw qb4
   refine lP 1 tK rfl ?_
   refine lC (o_st tK hb4 rfl rfl rfl rfl (Rep.one htl) rfl rfl ?_)
   intro w27 h4 uw27 bew27
   have ew27 : Ext w25 w27 := ew26.trans (bew27 _ (lQ qb4.symm))
   replace h2 := h2.Y Lw hB ew27
   replace hE := ew27.bl hE hB
   replace hnone := Rep.Y hnone ew27
   replace h1 := h1.Y ew27
   replace hI := Rep.Y hI ew27
   replace hO := Rep.Y hO ew27
   replace hr1 := Rep.Y hr1 ew27
   replace hr2 := Rep.Y hr2 ew27
   replace hkr := hkr.Y ew27
   replace hfl := hfl.Y ew27
   replace htl := Rep.Y htl ew27
   replace hke := hke.Y ew27
   replace Lw := Lw.Y ew27
   replace hB := ew27.z hB
   replace h4 : Box w27 b4 25 [.int .u8 tyNone.op, .string tyNone.name, .int .i64 tyNone.n, kve] := h4
   replace h4 := h4.at nb4
   refine q1 (q0 (lP 1 tK rfl ?_))
   refine lC (o_len tK hfl rfl rfl rfl rfl rfl ?_)
   refine lP 2 tK rfl ?_
   refine lS 19 _ rfl (fun c9 => ?_) (fun c9 => ?_)
   ·refine lP 1 tK rfl ?_
    refine lC (o_ixS tK hfl (show _ = some (⟨⟨#[97]⟩, tyA⟩ : Fld) from rfl) rfl rfl rfl rfl rfl rfl rfl rfl rfl ?_)
    intro eb0 eo0 eu0 hy0 hat0
    obtain ⟨szf0, kvf0, rfl, hyf0⟩ := fld_open hy0
    replace hat0 : At _ w27 eb0 eo0 [.string (⟨⟨#[97]⟩, tyA⟩ : Fld).name, .int .u8 (⟨⟨#[97]⟩, tyA⟩ : Fld).ty.op, .string (⟨⟨#[97]⟩, tyA⟩ : Fld).ty.name, .int .i64 (⟨⟨#[97]⟩, tyA⟩ : Fld).ty.n, kvf0] := hat0
    refine lP 1 tK rfl ?_
    refine lC (oD tK (hat0.cell 0 _ rfl) rfl rfl rfl rfl rfl ?_)
    refine lP 3 tK rfl ?_
    refine lS 26 _ rfl (fun c10 => ?_) (fun c10 => ?_)
    ·refine lP 1 tK rfl ?_
     refine lC (o_ixS tK hfl (show _ = some (⟨⟨#[98]⟩, tyB⟩ : Fld) from rfl) rfl rfl rfl rfl rfl rfl rfl rfl rfl ?_)
     intro eb1 eo1 eu1 hy1 hat1
     obtain ⟨szf1, kvf1, rfl, hyf1⟩ := fld_open hy1
     replace hat1 : At _ w27 eb1 eo1 [.string (⟨⟨#[98]⟩, tyB⟩ : Fld).name, .int .u8 (⟨⟨#[98]⟩, tyB⟩ : Fld).ty.op, .string (⟨⟨#[98]⟩, tyB⟩ : Fld).ty.name, .int .i64 (⟨⟨#[98]⟩, tyB⟩ : Fld).ty.n, kvf1] := hat1
     refine lP 1 tK rfl ?_
     refine lC (oD tK (hat1.cell 0 _ rfl) rfl rfl rfl rfl rfl ?_)
     refine lP 3 tK rfl ?_
     refine lS 33 _ rfl (fun c11 => ?_) (fun c11 => ?_)
     ·refine lP 1 tK rfl ?_
      refine lC (o_ixS tK hfl (show _ = some (⟨⟨#[97]⟩, tyA⟩ : Fld) from rfl) rfl rfl rfl rfl rfl rfl rfl rfl rfl ?_)
      intro eb2 eo2 eu2 hy2 hat2
      obtain ⟨szf2, kvf2, rfl, hyf2⟩ := fld_open hy2
      replace hat2 : At _ w27 eb2 eo2 [.string (⟨⟨#[97]⟩, tyA⟩ : Fld).name, .int .u8 (⟨⟨#[97]⟩, tyA⟩ : Fld).ty.op, .string (⟨⟨#[97]⟩, tyA⟩ : Fld).ty.name, .int .i64 (⟨⟨#[97]⟩, tyA⟩ : Fld).ty.n, kvf2] := hat2
      refine lP 2 tK rfl ?_
      refine lC (oD tK (hat2.cell 1 _ rfl) rfl rfl rfl rfl rfl ?_)
      refine lP 3 tK rfl ?_
      refine lS 41 _ rfl (fun c12 => ?_) (fun c12 => ?_)
      ·refine lC (oL tK (fun j v hv => h4.cell j v hv) rfl rfl rfl rfl rfl rfl ?_)
       refine lC (oL tK (fun j v hv => h1.cell j v hv) rfl rfl rfl rfl rfl rfl ?_)
       refine lC (oK fo22 rfl rfl rfl (alike_spec _ _ _ _ _ _ htl hnone Lw) ?_)
       rintro _ w28 ⟨rfl, ew28⟩
       replace h2 := h2.Y Lw hB ew28
       replace hE := ew28.bl hE hB
       replace hnone := Rep.Y hnone ew28
       replace h1 := h1.Y ew28
       replace hI := Rep.Y hI ew28
       replace hO := Rep.Y hO ew28
       replace hr1 := Rep.Y hr1 ew28
       replace hr2 := Rep.Y hr2 ew28
       replace hkr := hkr.Y ew28
       replace hfl := hfl.Y ew28
       replace htl := Rep.Y htl ew28
       replace hke := hke.Y ew28
       replace h4 := h4.Y ew28
       replace hat0 := hat0.Y ew28
       replace hat1 := hat1.Y ew28
       replace hat2 := hat2.Y ew28
       replace Lw := Lw.Y ew28
       replace hB := ew28.z hB
       refine lP 2 tK rfl (q1 (cR (x1_ rfl rfl ?_)))
       exact ⟨by rw [cl_true rfl], hE⟩
      exact absurd (by first | rfl | decide) c12
     exact absurd (by first | rfl | decide) c11
    exact absurd (by first | rfl | decide) c10
   exact absurd (by first | rfl | decide) c9
  refine o_new tK rfl rfl rfl ?_
  intro b2 w29 qb2 ew29 hb2
  have gS_b2 := Nat.le_trans hS.size (lQ qb2.symm)
  replace hS := hS.then ew29
  have sw29 := Stp.add ew29 Lw hB (lQ qb2.symm) hb2.lt
  have h2 : MB w.heap.size (Rw.Add M b2) w29 b2 25 [.int .u8 0, .string ⟨#[]⟩, .int .i64 0, .slice none 0 0] := MB.mk' hb2 qb2 hB
  replace hE := hE.trans sw29.below
  replace hnone := Rep.sp hnone sw29
  replace h1 := h1.sp sw29
  replace hI := Rep.sp hI sw29
  replace hsub := sw29.sb hsub
  replace Lw := sw29.low
  replace hB := sw29.z hB
  refine ⟨hS, ?_⟩
  refine a_one 1 rfl (by kernel_rfl) (oK fo34 rfl rfl rfl (bool_spec _ _ Lw) ?_)
  rintro vhO w30 ⟨hO, ew30⟩
  replace hO : Rep.R _ w30 vhO tyA := hO
  replace hS := hS.then ew30
  replace h2 := h2.Y Lw hB ew30
  replace hE := ew30.bl hE hB
  replace hnone := Rep.Y hnone ew30
  replace h1 := h1.Y ew30
  replace hI := Rep.Y hI ew30
  replace Lw := Lw.Y ew30
  replace hB := ew30.z hB
  refine ⟨hS, ?_⟩
  refine a_one 3 rfl (by kernel_rfl) (oK fo63 rfl rfl rfl (field_spec ⟨#[97]⟩ tyA tyNone _ _ _ _ (by decide) hO hnone Lw) ?_)
  rintro vhr1 w31 ⟨hr1, ew31⟩
  replace hS := hS.then ew31
  replace h2 := h2.Y Lw hB ew31
  replace hE := ew31.bl hE hB
  replace hnone := Rep.Y hnone ew31
  replace h1 := h1.Y ew31
  replace hI := Rep.Y hI ew31
  replace hO := Rep.Y hO ew31
  replace Lw := Lw.Y ew31
  replace hB := ew31.z hB
  refine ⟨hS, ?_⟩
  refine a_one 4 rfl (by kernel_rfl) (oK fo63 rfl rfl rfl (field_spec ⟨#[98]⟩ tyB (Ty.mk 11 ⟨#[97]⟩ 0 [tyA, tyNone]) _ _ _ _ (by decide) hI hr1 Lw) ?_)
  rintro vhr2 w32 ⟨hr2, ew32⟩
  replace hS := hS.then ew32
  replace h2 := h2.Y Lw hB ew32
  replace hE := ew32.bl hE hB
  replace hnone := Rep.Y hnone ew32
  replace h1 := h1.Y ew32
  replace hI := Rep.Y hI ew32
  replace hO := Rep.Y hO ew32
  replace hr1 := Rep.Y hr1 ew32
  replace Lw := Lw.Y ew32
  replace hB := ew32.z hB
  refine ⟨hS, ?_⟩
  replace hr2 : Rep.R _ w32 vhr2 tyRow := hr2
  obtain ⟨kvr, rfl, opr, nmr, n64r, hkr⟩ := tO hr2
  refine a_barS Ext 6 rfl (by kernel_rfl) (by kernel_rfl) (o_st tK h2.box rfl rfl rfl rfl (Rep.one hr2) rfl rfl ?_)
  intro w33 hw33 qw33 bew33
  have uw33 : UpdB _ _ _ := ⟨qw33, bew33⟩
  have sw33 := uw33.sp h2.inM Lw h2.ge
  have frw33 := qw33.2
  replace hE := hE.trans sw33.below
  replace hnone := Rep.sp hnone sw33
  replace h1 := h1.sp sw33
  replace hI := Rep.sp hI sw33
  replace hO := Rep.sp hO sw33
  replace hr1 := Rep.sp hr1 sw33
  replace hr2 := Rep.sp hr2 sw33
  replace hkr := hkr.sp sw33
  replace hsub := sw33.sb hsub
  replace Lw := sw33.low
  replace hB := sw33.z hB
  replace hS : Ext w33 w33 := ext_refl _
  replace h2 : MB w.heap.size _ w33 b2 _ [.int .u8 tyRow.op, .string tyRow.name, .int .i64 tyRow.n, kvr] := ⟨hw33, h2.inM, h2.ge⟩
  have D_h1 := h1
  have D_h2 := h2.box
  have D_hkr := hkr
  refine a_end (by kernel_rfl) ?_
  refine xS (q0 ?_)
  refine lC (oL tK (fun j v hv => h2.cell j v hv) rfl rfl rfl rfl rfl rfl ?_)
  refine lC (oK fo25 rfl rfl rfl (Flat_spec tyRow _ _ _ hr2 Lw psz_row) ?_)
  rintro _ w34 ⟨⟨xv, tv, rfl, hfl, htl⟩, ew34⟩
  rw [flat_row] at hfl htl
  simp only at hfl htl
  replace h2 := h2.Y Lw hB ew34
  replace hE := ew34.bl hE hB
  replace hnone := Rep.Y hnone ew34
  replace h1 := h1.Y ew34
  replace hI := Rep.Y hI ew34
  replace hO := Rep.Y hO ew34
  replace hr1 := Rep.Y hr1 ew34
  replace hr2 := Rep.Y hr2 ew34
  replace hkr := hkr.Y ew34
  replace Lw := Lw.Y ew34
  replace hB := ew34.z hB
  obtain ⟨kve, rfl, ope, nme, n64e, hke⟩ := tO htl
  refine lP 3 tK rfl ?_
  refine lC (o_new tK rfl rfl rfl ?_)
  intro b4 w35 qb4 ew35 hb4
  have nb4 := nO Lw qb4
  refine lP 1 tK rfl ?_
  refine lC (o_st tK hb4 rfl rfl rfl rfl (Rep.one htl) rfl rfl ?_)
  intro w36 h4 uw36 bew36
  have ew36 : Ext w34 w36 := ew35.trans (bew36 _ (lQ qb4.symm))
  replace h2 := h2.Y Lw hB ew36
  replace hE := ew36.bl hE hB
  replace hnone := Rep.Y hnone ew36
  replace h1 := h1.Y ew36
  replace hI := Rep.Y hI ew36
  replace hO := Rep.Y hO ew36
  replace hr1 := Rep.Y hr1 ew36
  replace hr2 := Rep.Y hr2 ew36
  replace hkr := hkr.Y ew36
  replace hfl := hfl.Y ew36
  replace htl := Rep.Y htl ew36
  replace hke := hke.Y ew36
  replace Lw := Lw.Y ew36
  replace hB := ew36.z hB
  replace h4 : Box w36 b4 25 [.int .u8 tyNone.op, .string tyNone.name, .int .i64 tyNone.n, kve] := h4
  replace h4 := h4.at nb4
  refine q1 (q0 (lP 1 tK rfl ?_))
  refine lC (o_len tK hfl rfl rfl rfl rfl rfl ?_)
  refine lP 2 tK rfl ?_
  refine lS 19 _ rfl (fun c13 => ?_) (fun c13 => ?_)
  ·refine lP 1 tK rfl ?_
   refine lC (o_ixS tK hfl (show _ = some (⟨⟨#[97]⟩, tyA⟩ : Fld) from rfl) rfl rfl rfl rfl rfl rfl rfl rfl rfl ?_)
   intro eb0 eo0 eu0 hy0 hat0
   obtain ⟨szf0, kvf0, rfl, hyf0⟩ := fld_open hy0
   replace hat0 : At _ w36 eb0 eo0 [.string (⟨⟨#[97]⟩, tyA⟩ : Fld).name, .int .u8 (⟨⟨#[97]⟩, tyA⟩ : Fld).ty.op, .string (⟨⟨#[97]⟩, tyA⟩ : Fld).ty.name, .int .i64 (⟨⟨#[97]⟩, tyA⟩ : Fld).ty.n, kvf0] := hat0
   refine lP 1 tK rfl ?_
   refine lC (oD tK (hat0.cell 0 _ rfl) rfl rfl rfl rfl rfl ?_)
   refine lP 3 tK rfl ?_
   refine lS 26 _ rfl (fun c14 => ?_) (fun c14 => ?_)
   ·refine lP 1 tK rfl ?_
    refine lC (o_ixS tK hfl (show _ = some (⟨⟨#[98]⟩, tyB⟩ : Fld) from rfl) rfl rfl rfl rfl rfl rfl rfl rfl rfl ?_)
    intro eb1 eo1 eu1 hy1 hat1
    obtain ⟨szf1, kvf1, rfl, hyf1⟩ := fld_open hy1
    replace hat1 : At _ w36 eb1 eo1 [.string (⟨⟨#[98]⟩, tyB⟩ : Fld).name, .int .u8 (⟨⟨#[98]⟩, tyB⟩ : Fld).ty.op, .string (⟨⟨#[98]⟩, tyB⟩ : Fld).ty.name, .int .i64 (⟨⟨#[98]⟩, tyB⟩ : Fld).ty.n, kvf1] := hat1
    refine lP 1 tK rfl ?_
    refine lC (oD tK (hat1.cell 0 _ rfl) rfl rfl rfl rfl rfl ?_)
    refine lP 3 tK rfl ?_
    refine lS 33 _ rfl (fun c15 => ?_) (fun c15 => ?_)
    ·refine lP 1 tK rfl ?_
     refine lC (o_ixS tK hfl (show _ = some (⟨⟨#[97]⟩, tyA⟩ : Fld) from rfl) rfl rfl rfl rfl rfl rfl rfl rfl rfl ?_)
     intro eb2 eo2 eu2 hy2 hat2
     obtain ⟨szf2, kvf2, rfl, hyf2⟩ := fld_open hy2
     replace hat2 : At _ w36 eb2 eo2 [.string (⟨⟨#[97]⟩, tyA⟩ : Fld).name, .int .u8 (⟨⟨#[97]⟩, tyA⟩ : Fld).ty.op, .string (⟨⟨#[97]⟩, tyA⟩ : Fld).ty.name, .int .i64 (⟨⟨#[97]⟩, tyA⟩ : Fld).ty.n, kvf2] := hat2
     refine lP 2 tK rfl ?_
     refine lC (oD tK (hat2.cell 1 _ rfl) rfl rfl rfl rfl rfl ?_)
     refine lP 3 tK rfl ?_
     refine lS 41 _ rfl (fun c16 => ?_) (fun c16 => ?_)
     ·refine lC (oL tK (fun j v hv => h4.cell j v hv) rfl rfl rfl rfl rfl rfl ?_)
      refine lC (oL tK (fun j v hv => h1.cell j v hv) rfl rfl rfl rfl rfl rfl ?_)
      refine lC (oK fo22 rfl rfl rfl (alike_spec _ _ _ _ _ _ htl hnone Lw) ?_)
      rintro _ w37 ⟨rfl, ew37⟩
      replace h2 := h2.Y Lw hB ew37
      replace hE := ew37.bl hE hB
      replace hnone := Rep.Y hnone ew37
      replace h1 := h1.Y ew37
      replace hI := Rep.Y hI ew37
      replace hO := Rep.Y hO ew37
      replace hr1 := Rep.Y hr1 ew37
      replace hr2 := Rep.Y hr2 ew37
      replace hkr := hkr.Y ew37
      replace hfl := hfl.Y ew37
      replace htl := Rep.Y htl ew37
      replace hke := hke.Y ew37
      replace h4 := h4.Y ew37
      replace hat0 := hat0.Y ew37
      replace hat1 := hat1.Y ew37
      replace hat2 := hat2.Y ew37
      replace Lw := Lw.Y ew37
      replace hB := ew37.z hB
      refine lP 2 tK rfl (q1 (cR (x1_ rfl rfl ?_)))
      exact ⟨by rw [cl_true rfl], hE⟩
     exact absurd (by first | rfl | decide) c16
    exact absurd (by first | rfl | decide) c15
   exact absurd (by first | rfl | decide) c14
  exact absurd (by first | rfl | decide) c13
 refine o_new tK rfl rfl rfl ?_
 intro b2 w38 qb2 ew38 hb2
 have gS_b2 := Nat.le_trans hS.size (lQ qb2.symm)
 replace hS := hS.then ew38
 have sw38 := Stp.add ew38 Lw hB (lQ qb2.symm) hb2.lt
 have h2 : MB w.heap.size (Rw.Add M b2) w38 b2 25 [.int .u8 0, .string ⟨#[]⟩, .int .i64 0, .slice none 0 0] := MB.mk' hb2 qb2 hB
 replace hE := hE.trans sw38.below
 replace hnone := Rep.sp hnone sw38
 replace h1 := h1.sp sw38
 replace hsub := sw38.sb hsub
 replace Lw := sw38.low
 replace hB := sw38.z hB
 refine ⟨hS, ?_⟩
 refine a_one 0 rfl (by kernel_rfl) (oK fo33 rfl rfl rfl (int_spec _ _ Lw) ?_)
 rintro vhI w39 ⟨hI, ew39⟩
 replace hI : Rep.R _ w39 vhI tyB := hI
 replace hS := hS.then ew39
 replace h2 := h2.Y Lw hB ew39
 replace hE := ew39.bl hE hB
 replace hnone := Rep.Y hnone ew39
 replace h1 := h1.Y ew39
 replace Lw := Lw.Y ew39
 replace hB := ew39.z hB
 refine ⟨hS, ?_⟩
 refine a_one 1 rfl (by kernel_rfl) (oK fo34 rfl rfl rfl (bool_spec _ _ Lw) ?_)
 rintro vhO w40 ⟨hO, ew40⟩
 replace hO : Rep.R _ w40 vhO tyA := hO
 replace hS := hS.then ew40
 replace h2 := h2.Y Lw hB ew40
 replace hE := ew40.bl hE hB
 replace hnone := Rep.Y hnone ew40
 replace h1 := h1.Y ew40
 replace hI := Rep.Y hI ew40
 replace Lw := Lw.Y ew40
 replace hB := ew40.z hB
 refine ⟨hS, ?_⟩
 refine a_one 3 rfl (by kernel_rfl) (oK fo63 rfl rfl rfl (field_spec ⟨#[97]⟩ tyA tyNone _ _ _ _ (by decide) hO hnone Lw) ?_)
 rintro vhr1 w41 ⟨hr1, ew41⟩
 replace hS := hS.then ew41
 replace h2 := h2.Y Lw hB ew41
 replace hE := ew41.bl hE hB
 replace hnone := Rep.Y hnone ew41
 replace h1 := h1.Y ew41
 replace hI := Rep.Y hI ew41
 replace hO := Rep.Y hO ew41
 replace Lw := Lw.Y ew41
 replace hB := ew41.z hB
 refine ⟨hS, ?_⟩
 refine a_one 4 rfl (by kernel_rfl) (oK fo63 rfl rfl rfl (field_spec ⟨#[98]⟩ tyB (Ty.mk 11 ⟨#[97]⟩ 0 [tyA, tyNone]) _ _ _ _ (by decide) hI hr1 Lw) ?_)
 rintro vhr2 w42 ⟨hr2, ew42⟩
 replace hS := hS.then ew42
 replace h2 := h2.Y Lw hB ew42
 replace hE := ew42.bl hE hB
 replace hnone := Rep.Y hnone ew42
 replace h1 := h1.Y ew42
 replace hI := Rep.Y hI ew42
 replace hO := Rep.Y hO ew42
 replace hr1 := Rep.Y hr1 ew42
 replace Lw := Lw.Y ew42
 replace hB := ew42.z hB
 refine ⟨hS, ?_⟩
 replace hr2 : Rep.R _ w42 vhr2 tyRow := hr2
 obtain ⟨kvr, rfl, opr, nmr, n64r, hkr⟩ := tO hr2
 refine a_barS Ext 6 rfl (by kernel_rfl) (by kernel_rfl) (o_st tK h2.box rfl rfl rfl rfl (Rep.one hr2) rfl rfl ?_)
 intro w43 hw43 qw43 bew43
 have uw43 : UpdB _ _ _ := ⟨qw43, bew43⟩
 have sw43 := uw43.sp h2.inM Lw h2.ge
 have frw43 := qw43.2
 replace hE := hE.trans sw43.below
 replace hnone := Rep.sp hnone sw43
 replace h1 := h1.sp sw43
 replace hI := Rep.sp hI sw43
 replace hO := Rep.sp hO sw43
 replace hr1 := Rep.sp hr1 sw43
 replace hr2 := Rep.sp hr2 sw43
 replace hkr := hkr.sp sw43
 replace hsub := sw43.sb hsub
 replace Lw := sw43.low
 replace hB := sw43.z hB
 replace hS : Ext w43 w43 := ext_refl _
 replace h2 : MB w.heap.size _ w43 b2 _ [.int .u8 tyRow.op, .string tyRow.name, .int .i64 tyRow.n, kvr] := ⟨hw43, h2.inM, h2.ge⟩
 have D_h1 := h1
 have D_h2 := h2.box
 have D_hkr := hkr
 refine a_end (by kernel_rfl) ?_
 refine xS (q0 ?_)
 refine lC (oL tK (fun j v hv => h2.cell j v hv) rfl rfl rfl rfl rfl rfl ?_)
 refine lC (oK fo25 rfl rfl rfl (Flat_spec tyRow _ _ _ hr2 Lw psz_row) ?_)
 rintro _ w44 ⟨⟨xv, tv, rfl, hfl, htl⟩, ew44⟩
 rw [flat_row] at hfl htl
 simp only at hfl htl
 replace h2 := h2.Y Lw hB ew44
 replace hE := ew44.bl hE hB
 replace hnone := Rep.Y hnone ew44
 replace h1 := h1.Y ew44
 replace hI := Rep.Y hI ew44
 replace hO := Rep.Y hO ew44
 replace hr1 := Rep.Y hr1 ew44
 replace hr2 := Rep.Y hr2 ew44
 replace hkr := hkr.Y ew44
 replace Lw := Lw.Y ew44
 replace hB := ew44.z hB
 obtain ⟨kve, rfl, ope, nme, n64e, hke⟩ := tO htl
 refine lP 3 tK rfl ?_
 refine lC (o_new tK rfl rfl rfl ?_)
 intro b4 w45 qb4 ew45 hb4
 have nb4 := nO Lw qb4
 refine lP 1 tK rfl ?_
 refine lC (o_st tK hb4 rfl rfl rfl rfl (Rep.one htl) rfl rfl ?_)
 intro w46 h4 uw46 bew46
 have ew46 : Ext w44 w46 := ew45.trans (bew46 _ (lQ qb4.symm))
 replace h2 := h2.Y Lw hB ew46
 replace hE := ew46.bl hE hB
 replace hnone := Rep.Y hnone ew46
 replace h1 := h1.Y ew46
 replace hI := Rep.Y hI ew46
 replace hO := Rep.Y hO ew46
 replace hr1 := Rep.Y hr1 ew46
 replace hr2 := Rep.Y hr2 ew46
 replace hkr := hkr.Y ew46
 replace hfl := hfl.Y ew46
 replace htl := Rep.Y htl ew46
 replace hke := hke.Y ew46
 replace Lw := Lw.Y ew46
 replace hB := ew46.z hB
 replace h4 : Box w46 b4 25 [.int .u8 tyNone.op, .string tyNone.name, .int .i64 tyNone.n, kve] := h4
 replace h4 := h4.at nb4
 refine q1 (q0 (lP 1 tK rfl ?_))
 refine lC (o_len tK hfl rfl rfl rfl rfl rfl ?_)
 refine lP 2 tK rfl ?_
 refine lS 19 _ rfl (fun c17 => ?_) (fun c17 => ?_)
 ·refine lP 1 tK rfl ?_
  refine lC (o_ixS tK hfl (show _ = some (⟨⟨#[97]⟩, tyA⟩ : Fld) from rfl) rfl rfl rfl rfl rfl rfl rfl rfl rfl ?_)
  intro eb0 eo0 eu0 hy0 hat0
  obtain ⟨szf0, kvf0, rfl, hyf0⟩ := fld_open hy0
  replace hat0 : At _ w46 eb0 eo0 [.string (⟨⟨#[97]⟩, tyA⟩ : Fld).name, .int .u8 (⟨⟨#[97]⟩, tyA⟩ : Fld).ty.op, .string (⟨⟨#[97]⟩, tyA⟩ : Fld).ty.name, .int .i64 (⟨⟨#[97]⟩, tyA⟩ : Fld).ty.n, kvf0] := hat0
  refine lP 1 tK rfl ?_
  refine lC (oD tK (hat0.cell 0 _ rfl) rfl rfl rfl rfl rfl ?_)
  refine lP 3 tK rfl ?_
  refine lS 26 _ rfl (fun c18 => ?_) (fun c18 => ?_)
  ·refine lP 1 tK rfl ?_
   refine lC (o_ixS tK hfl (show _ = some (⟨⟨#[98]⟩, tyB⟩ : Fld) from rfl) rfl rfl rfl rfl rfl rfl rfl rfl rfl ?_)
   intro eb1 eo1 eu1 hy1 hat1
   obtain ⟨szf1, kvf1, rfl, hyf1⟩ := fld_open hy1
   replace hat1 : At _ w46 eb1 eo1 [.string (⟨⟨#[98]⟩, tyB⟩ : Fld).name, .int .u8 (⟨⟨#[98]⟩, tyB⟩ : Fld).ty.op, .string (⟨⟨#[98]⟩, tyB⟩ : Fld).ty.name, .int .i64 (⟨⟨#[98]⟩, tyB⟩ : Fld).ty.n, kvf1] := hat1
   refine lP 1 tK rfl ?_
   refine lC (oD tK (hat1.cell 0 _ rfl) rfl rfl rfl rfl rfl ?_)
   refine lP 3 tK rfl ?_
   refine lS 33 _ rfl (fun c19 => ?_) (fun c19 => ?_)
   ·refine lP 1 tK rfl ?_
    refine lC (o_ixS tK hfl (show _ = some (⟨⟨#[97]⟩, tyA⟩ : Fld) from rfl) rfl rfl rfl rfl rfl rfl rfl rfl rfl ?_)
    intro eb2 eo2 eu2 hy2 hat2
    obtain ⟨szf2, kvf2, rfl, hyf2⟩ := fld_open hy2
    replace hat2 : At _ w46 eb2 eo2 [.string (⟨⟨#[97]⟩, tyA⟩ : Fld).name, .int .u8 (⟨⟨#[97]⟩, tyA⟩ : Fld).ty.op, .string (⟨⟨#[97]⟩, tyA⟩ : Fld).ty.name, .int .i64 (⟨⟨#[97]⟩, tyA⟩ : Fld).ty.n, kvf2] := hat2
    refine lP 2 tK rfl ?_
    refine lC (oD tK (hat2.cell 1 _ rfl) rfl rfl rfl rfl rfl ?_)
    refine lP 3 tK rfl ?_
    refine lS 41 _ rfl (fun c20 => ?_) (fun c20 => ?_)
    ·refine lC (oL tK (fun j v hv => h4.cell j v hv) rfl rfl rfl rfl rfl rfl ?_)
     refine lC (oL tK (fun j v hv => h1.cell j v hv) rfl rfl rfl rfl rfl rfl ?_)
     refine lC (oK fo22 rfl rfl rfl (alike_spec _ _ _ _ _ _ htl hnone Lw) ?_)
     rintro _ w47 ⟨rfl, ew47⟩
     replace h2 := h2.Y Lw hB ew47
     replace hE := ew47.bl hE hB
     replace hnone := Rep.Y hnone ew47
     replace h1 := h1.Y ew47
     replace hI := Rep.Y hI ew47
     replace hO := Rep.Y hO ew47
     replace hr1 := Rep.Y hr1 ew47
     replace hr2 := Rep.Y hr2 ew47
     replace hkr := hkr.Y ew47
     replace hfl := hfl.Y ew47
     replace htl := Rep.Y htl ew47
     replace hke := hke.Y ew47
     replace h4 := h4.Y ew47
     replace hat0 := hat0.Y ew47
     replace hat1 := hat1.Y ew47
     replace hat2 := hat2.Y ew47
     replace Lw := Lw.Y ew47
     replace hB := ew47.z hB
     refine lP 2 tK rfl (q1 (cR (x1_ rfl rfl ?_)))
     exact ⟨by rw [cl_true rfl], hE⟩
    exact absurd (by first | rfl | decide) c20
   exact absurd (by first | rfl | decide) c19
  exact absurd (by first | rfl | decide) c18
 exact absurd (by first | rfl | decide) c17
end Go.Proofs.Ytpoahmeacjggfaa
namespace Rw
open Go Go.RowKit
theorem At.drop {M : Nat → Prop} {w : World} {b off : Nat} {cs sub : List Value} (h : At M w b off cs) (k : Nat) (hs : cs.drop k = sub) (j : Nat) (v : Value) (hv : sub[j]? = some v) : w.cell? ⟨b, off + k + j, none⟩ = some v := by
  subst hs
  rw [List.getElem?_drop] at hv
  have := h.cell (k + j) v hv
  rwa [← Nat.add_assoc] at this
/-! ## Rounds' frames -/
/-- Any function, any depth; in the round of a loop, or in none. -/
def Fr : Option Nat → Fence
  | none => Fence.wide
  | some l => Fence.wide.inRound l
theorem fr_fn (r : Option Nat) (f : FuncId) : (Fr r).fn f := by cases r <;> trivial
theorem fr_depth (r : Option Nat) (p : Prop) : (Fr r).depth.isSome = true → p := by cases r <;> intro h <;> simp [Fr, Fence.wide] at h
theorem callsFr {r : Option Nat} {n : Nat} {P : Program} {f : FuncId} {args : Array Value} {w : World} {R : Ending → World → Prop} (h : Calls P f args w R) : CallsIn (Fr r) n P f args w R := by
  cases r with
  | none => exact callsIn_wide.2 h
  | some l => exact (callsIn_wide (n := n)).2 h
theorem rowsFr {r : Option Nat} {n : Nat} {P : Program} {row : String} {args : Array Value} {w : World} {R : Value → World → Prop} (h : Rows P row args w R) : RowsIn (Fr r) n P row args w R := by
  have key : RowsIn Fence.wide n P row args w R := fun c cs _ => let ⟨v, w', h1, h2⟩ := h c cs; ⟨v, w', h1, stepsIn_wide.2 h2⟩
  cases r with
  | none => exact key
  | some l => exact key
/-- It doesn't put off a call. -/
def noDef (o : Oper) : Bool := match o.op with
  | .defer _ => false
  | _ => true
theorem noDef_ne {o : Oper} (h : noDef o = true) : ∀ c, o.op ≠ .defer c := fun c e => by simp [noDef, e] at h
/-- With these deferred calls. -/
def wd (ds : List Deferred) (a : Act) : Act := { a with defers := ds }
theorem wd_put (ds : List Deferred) (a : Act) (d : Option Nat) (v : Value) : (wd ds a).put d v = wd ds (a.put d v) := by cases d <;> rfl
theorem wd_nil {a : Act} (h : a.defers = []) : wd [] a = a := by cases a; simp only at h; subst h; rfl
theorem put_defers (a : Act) (d : Option Nat) (v : Value) : (a.put d v).defers = a.defers := by cases d <;> rfl
section
variable {P : Program} {r : Option Nat} {m : Nat} {ds : List Deferred} {ops : Array Oper}
theorem oper_fr {o : Oper} {a : Act} {w : World} {next next' : Act → World → Prop} {Q Q' : Exit → Act → World → Prop} (hd : noDef o = true)
    (hn : ∀ a' w', next a' w' → a'.defers = [] ∧ next' (wd ds a') w') (hq : ∀ c w', Q (.panic c) a w' → Q' (.panic c) (wd ds a) w') (ho : ¬ LetsOut Q) (h : o.wp P a w next Q) : o.wpIn (Fr r) m P (wd ds a) w next' Q' := by
  refine ⟨fun f _ => fr_fn r f, ?_⟩
  rw [Oper.semAt_eq _ _ _ (noDef_ne hd), show (wd ds a).eval = a.eval from rfl]
  unfold Oper.wp at h
  generalize (execOp a.eval o).run P w = res at h
  cases res with
  | ok nx w' =>
    cases nx with
    | value v => rw [Oper.uponIn_value, wd_put]; exact (hn _ _ h).2
    | skip => rw [Oper.uponIn_skip, wd_put]; exact (hn _ _ h).2
    | defer d =>
      have h1 := (hn _ _ h).1
      rw [put_defers] at h1
      cases h1
    | enter f args =>
      rw [Oper.uponIn_enter]
      refine ⟨fr_depth r _, callsFr (Calls.mono h fun e w'' he => ?_)⟩
      cases e with
      | returned v => show next' _ _; rw [wd_put]; exact (hn _ _ he).2
      | panicked c => exact hq c _ he
      | outgrown => exact absurd he ho
    | row row args =>
      rw [Oper.uponIn_row]
      exact ⟨fr_depth r _, rowsFr (Rows.mono h fun v w'' he => by rw [wd_put]; exact (hn _ _ he).2)⟩
    | _ => exact h.elim
  | halt hlt w' =>
    cases hlt with
    | panic v => exact hq _ _ h
    | _ => exact h.elim
theorem ops_defers {Q : Exit → Act → World → Prop} (hQ : ∀ e a w, Q e a w → a.defers = []) (ho : ¬ LetsOut Q) : ∀ (l : List Nat) (a : Act) (w : World), wpOps P ops Q l a w → a.defers = []
  | [], a, w, h => hQ _ _ _ h
  | i :: rest, a, w, h => by
    have ih := ops_defers hQ ho rest
    unfold wpOps at h
    split at h
    · exact ih _ _ h
    · rename_i o _
      split at h
      · have h1 := h.resolve_right (fun x => ho x.2)
        unfold Oper.wp at h1
        generalize (execOp a.eval o).run P w = res at h1
        cases res with
        | ok nx w' =>
          cases nx with
          | value v => have := ih _ _ h1; rwa [put_defers] at this
          | skip => have := ih _ _ h1; rwa [put_defers] at this
          | defer d => have := ih _ _ h1; rw [put_defers] at this; cases this
          | enter f args =>
            obtain ⟨e, w'', fr, hR, _⟩ := h1 []
            cases e with
            | returned v => have := ih _ _ hR; rwa [put_defers] at this
            | panicked c => exact hQ _ _ _ hR
            | outgrown => exact absurd hR ho
          | row row args =>
            obtain ⟨v, w'', hR, _⟩ := h1 default []
            have := ih _ _ hR; rwa [put_defers] at this
          | _ => exact h1.elim
        | halt hlt w' =>
          cases hlt with
          | panic v => exact hQ _ _ _ h1
          | _ => exact h1.elim
      · have := ih _ _ h; rwa [put_defers] at this
theorem ops_fr {Q Q' : Exit → Act → World → Prop} (hd : ops.all noDef = true) (hQ : ∀ e a w, Q e a w → a.defers = [] ∧ Q' e (wd ds a) w) (ho : ¬ LetsOut Q) : ∀ (l : List Nat) (a : Act) (w : World), wpOps P ops Q l a w → wpOpsIn (Fr r) m P ops Q' l (wd ds a) w
  | [], a, w, h => (hQ _ _ _ h).2
  | i :: rest, a, w, h => by
    have ih := ops_fr hd hQ ho rest
    have id := ops_defers (P := P) (ops := ops) (fun e a w h => (hQ e a w h).1) ho rest
    unfold wpOps at h
    unfold wpOpsIn
    split at h
    · rename_i hi; rw [hi]; exact ih _ _ h
    · rename_i o hi
      rw [hi]
      simp only
      have hdo : noDef o = true := by
        rw [Array.all_eq_true'] at hd
        exact hd o (Array.mem_of_getElem? hi)
      rw [show (wd ds a).tmps = a.tmps from rfl]
      split at h
      · rename_i hw
        rw [if_pos hw]
        exact oper_fr hdo (fun a' w' h' => ⟨id _ _ h', ih _ _ h'⟩) (fun c w' h' => (hQ _ _ _ h').2) ho (h.resolve_right (fun x => ho x.2))
      · rename_i hw
        rw [if_neg hw]
        refine ⟨fun f _ => fr_fn r f, ?_⟩
        rw [wd_put]; exact ih _ _ h
theorem all_arr {ol : List Oper} (h : ol.all noDef = true) : ol.toArray.all noDef = true := by simpa using h
/-! ## Regions in a round's frame -/
/-- What is asked behind a region: it ends, and then. -/
def Ends (K : Act → World → Prop) : Exit → Act → World → Prop := fun e a w => e = .normal ∧ a.defers = [] ∧ K a w
theorem ends_out (K : Act → World → Prop) : ¬ LetsOut (Ends K) := fun ⟨_, _, h, _⟩ => by cases h
theorem ri_any {n : Nat} {id : Nat} {ol : List Oper} {K : Act → World → Prop} {Q : Exit → Act → World → Prop} {G : Env} {w : World} (S : World → World → Prop) (hm : P.follows .mixedOrders = true) (hd : ol.all noDef = true) (hq : ∀ a w, K a w → Q .normal (wd ds a) w)
    (h : ∀ w', Ext w w' → WA P n ol.toArray (Ends K) (S w') G w' ol.toArray.size []) : ∀ a, Models n a G → (Code.region id ol.toArray true).wpIn (Fr r) m P Q (wd ds a) w := by
  intro a ha
  refine wpIn_region_draw fun t => ?_
  simp only [Region.schedule, hm, Bool.true_or, if_true]
  exact ops_fr (all_arr hd) (fun e a w h => ⟨h.2.1, by obtain ⟨rfl, _, h⟩ := h; exact hq _ _ h⟩) (ends_out K) _ _ _ (wpAny_sound ol.toArray.size t _ a _ (wpAny_of_B _ (S w.drew) _ _ _ (by simpa [lst] using h w.drew (ext_drew w) a ha)))
theorem ri_reg {n : Nat} {id : Nat} {ol : List Oper} {K : Act → World → Prop} {Q : Exit → Act → World → Prop} {G : Env} {w : World} (hd : ol.all noDef = true) (hq : ∀ a w, K a w → Q .normal (wd ds a) w)
    (h : WL P n ol.toArray (Ends K) G w ol) : ∀ a, Models n a G → (Code.region id ol.toArray false).wpIn (Fr r) m P Q (wd ds a) w := by
  intro a ha
  refine wpIn_region (ops_fr (all_arr hd) (fun e a w h => ⟨h.2.1, by obtain ⟨rfl, _, h⟩ := h; exact hq _ _ h⟩) (ends_out K) _ _ _ ?_)
  rw [List.range_eq_range', ← Array.length_toList, wpOps_eq_wpList ol.toArray.toList 0 (by simp)]
  simpa using h a ha
theorem ri_any0 {n : Nat} {id : Nat} {ol : List Oper} {K : Act → World → Prop} {Q : Exit → Act → World → Prop} {G : Env} {w : World} (S : World → World → Prop) (hm : P.follows .mixedOrders = true) (hd : ol.all noDef = true) (hq : ∀ a w, K a w → Q .normal a w)
    (h : ∀ w', Ext w w' → WA P n ol.toArray (Ends fun a w => a.defers = [] ∧ K a w) (S w') G w' ol.toArray.size []) : ∀ a, Models n a G → (Code.region id ol.toArray true).wpIn (Fr r) m P Q a w := fun a ha => by
  have := ri_any (r := r) (m := m) (ds := []) (Q := Q) (id := id) S hm hd (fun a w h => by rw [wd_nil h.1]; exact hq a w h.2) h a ha
  rwa [wd_nil ha.defers] at this
theorem ri_reg0 {n : Nat} {id : Nat} {ol : List Oper} {K : Act → World → Prop} {Q : Exit → Act → World → Prop} {G : Env} {w : World} (hd : ol.all noDef = true) (hq : ∀ a w, K a w → Q .normal a w)
    (h : WL P n ol.toArray (Ends fun a w => a.defers = [] ∧ K a w) G w ol) : ∀ a, Models n a G → (Code.region id ol.toArray false).wpIn (Fr r) m P Q a w := fun a ha => by
  have := ri_reg (r := r) (m := m) (ds := []) (Q := Q) (id := id) hd (fun a w h => by rw [wd_nil h.1]; exact hq a w h.2) h a ha
  rwa [wd_nil ha.defers] at this
/-! ## A region in which yield is called -/
def WI (P : Program) (n : Nat) (m : Nat) (ops : Array Oper) (Q : Exit → Act → World → Prop) (G : Env) (w : World) (l : List Nat) : Prop := ∀ a, Models n a G → wpOpsIn (Fr none) m P ops Q l a w
theorem li_nil {n : Nat} {Q : Exit → Act → World → Prop} {G : Env} {w : World} (h : WX n Q G w .normal) : WI P n m ops Q G w [] := fun a ha => h a ha
theorem li_cons {n : Nat} {Q : Exit → Act → World → Prop} {G : Env} {w : World} {i : Nat} {l : List Nat} {o : Oper} (hi : ops[i]? = some o) (hd : noDef o = true) (ho : ¬ LetsOut Q) (h : OW P n ops Q G w o (fun G' w' => WI P n m ops Q G' w' l)) : WI P n m ops Q G w (i :: l) := by
  intro a ha
  have h1 := h a ha (fun a' w' => a'.defers = [] ∧ wpOpsIn (Fr none) m P ops Q l a' w') (fun G' w' hk a' ha' => ⟨ha'.defers, hk a' ha'⟩)
  unfold wpOpsIn
  rw [hi]
  simp only
  split at h1
  · rename_i hw
    rw [if_pos hw]
    have := oper_fr (r := none) (m := m) (ds := []) (next' := wpOpsIn (Fr none) m P ops Q l) (Q' := Q) hd (fun a' w' h' => ⟨h'.1, by rw [wd_nil h'.1]; exact h'.2⟩) (fun c w' h' => by rw [wd_nil ha.defers]; exact h') ho h1
    rwa [wd_nil ha.defers] at this
  · rename_i hw
    rw [if_neg hw]
    exact ⟨fun f _ => fr_fn none f, h1.2⟩
theorem li_yield {n : Nat} {Q : Exit → Act → World → Prop} {G : Env} {w : World} {i k : Nat} {l : List Nat} {d ty : Nat} {x : Operand} {args : Array Operand} {tys : Array TypeId} {pos : String} {af : Array Go.Edge} {vs : List Value} {R : Ending → World → Prop} (hi : ops[i]? = some ⟨some d, .call ⟨.value x, args, tys⟩, ty, pos, af, none⟩)
    (hx : Env.ev G x = some (.func (.yield k) #[] #[])) (hv : Env.evs G args.toList = some vs) (hdn : Nat.blt d n = true) (hy : YieldAt (Fr none) (m - 1) P k vs.toArray w R) (h : ∀ e w', R e w' → ∃ b, e = .returned (.bool b) ∧ WI P n m ops Q ((d, .bool b) :: G) w' l) : WI P n m ops Q G w (i :: l) := by
  intro a ha
  obtain ⟨fn, tmps, assign, body, hrun, hround⟩ := hy
  unfold wpOpsIn
  rw [hi]
  simp only
  rw [if_pos (by simp [Region.wanted])]
  refine ⟨fun f _ => fr_fn none f, ?_⟩
  have e : args.map a.eval = vs.toArray := array_of_toList (by simp [ha.evs hv])
  have hr : (Oper.semAt (Fr none).round a.eval ⟨some d, .call ⟨.value x, args, tys⟩, ty, pos, af, none⟩).run P w = .ok (.round k fn tmps assign body) w := by
    rw [Oper.semAt_eq _ _ _ (by intro c h; cases h)]
    simp [execOp, resolve, e, Deferred.ofValue, ha.ev hx, invoke, hrun]
  rw [hr, Oper.uponIn_round]
  refine ⟨fr_depth none _, hround.mono fun en w' he => ?_⟩
  obtain ⟨b, rfl, hK⟩ := h en w' he
  exact hK _ (ha.put hdn _)
theorem c_regI {n : Nat} {id : Nat} {Q : Exit → Act → World → Prop} {G : Env} {w : World} {ol : List Oper} {l : List Nat} (hl : l = List.range ol.toArray.size) (h : WI P n m ol.toArray Q G w l) : WC P n Q G w (.region id ol.toArray false) :=
  fun a ha => (wpIn_wide (n := m)).1 (wpIn_region (by rw [← hl]; exact h a ha))
end
/-! ## What an iterator does: it hands these things to yield, one by one -/
def IterOk (P : Program) (m : Nat) (gf : Nat) (lb : Array Value) (xs : List (Value × Value)) (Kp : World → World → Prop) (w0 : World) : Prop :=
  ∀ (l : Nat) (J : Nat → World → Prop) (W : World), Kp w0 W → (∀ k x W1, J k W1 → xs[k]? = some x → YieldAt (Fr none) (m - 1) P l #[x.1, x.2] W1 fun e W' => e = .returned (.bool true) ∧ J (k + 1) W' ∧ Kp W1 W') → J 0 W →
    Calls P gf (#[.func (.yield l) #[] #[]] ++ lb) W (Ret fun _ W' => J xs.length W')
theorem range_wp {P : Program} {n m N : Nat} {g : Operand} {p1 p2 : Nat} {assign body : Code} {Q : Exit → Act → World → Prop} {G : Env} {w : World} {gf : Nat} {lb : Array Value} {xs : List (Value × Value)} {I : Nat → World → Prop} {Kp : World → World → Prop}
    (hg : Env.ev G g = some (.func (.func gf) #[] lb)) (hf : FnOk P gf) (hp1 : Nat.blt p1 n = true) (hp2 : Nat.blt p2 n = true) (hit : IterOk P m gf lb xs Kp w)
    (hKt : ∀ A B C, Kp A B → Kp B C → Kp A C) (hKp : ∀ W l o', w.heap.size ≤ l → Kp W (W.putObj l o')) (hKa : ∀ W o, w.heap.size ≤ W.heap.size → Kp W (W.alloc o))
    (h0 : I 0 w) (hIa : ∀ W o, I 0 W → I 0 (W.alloc o)) (hIp : ∀ k W l o o', I k W → w.heap.size ≤ l → W.heap[l]? = some o → o.isCells = false → I k (W.putObj l o'))
    (rnd : ∀ k x W l, I k W → xs[k]? = some x → ∀ a, Models n a ((p2, x.2) :: (p1, x.1) :: G) →
      assign.wpIn (Fr (some l)) (m - 1) P (fun e a1 w1 => e = .normal ∧ KeepsFrom w.heap.size W w1 ∧ Kp W w1 ∧ ∀ o o', w.heap.size ≤ l → w1.heap[l]? = some o → o.isCells = false →
        body.wpIn (Fr (some l)) (m - 1) P (fun e _ w3 => e = .normal ∧ KeepsFrom w.heap.size (w1.putObj l o') w3 ∧ Kp (w1.putObj l o') w3 ∧ I (k + 1) w3) a1 (w1.putObj l o')) a W)
    (done : ∀ a D W, Models n a G → w.heap.size ≤ D → I xs.length W → W.heap[D]? = some (.deferred (some [])) → Q .normal (wd [{ target := .collected D, args := #[] }] a) W) :
    ∀ a, Models n a G → (Code.rangeFunc g #[p1, p2] assign body).wpIn (Fr none) N P Q a w := by
  intro a ha
  refine wpIn_rangeFunc fun fn _ => ?_
  obtain ⟨rec, hrec⟩ : ∃ rec : LoopState → Option Code → Loop, rec = fun st pe => { state := st, pending := pe, fn, tmps := a.tmps, params := #[p1, p2], assign, body, defers := w.heap.size } := ⟨_, rfl⟩
  obtain ⟨W1, hW1⟩ : ∃ W1, (w.alloc (.deferred (some []))).alloc (.loop (rec .ready none)) = W1 := ⟨_, rfl⟩
  have hL1 : W1.heap[w.heap.size + 1]? = some (.loop (rec .ready none)) := by
    rw [← hW1]
    have := World.alloc_heap_new (w.alloc (.deferred (some []))) (.loop (rec .ready none))
    rwa [World.size_alloc] at this
  have hD1 : W1.heap[w.heap.size]? = some (.deferred (some [])) := by
    rw [← hW1]
    exact (Below.heap_alloc _ _ _ (by simp)).trans (World.alloc_heap_new w _)
  have hI1 : I 0 W1 := by rw [← hW1]; exact hIa _ _ (hIa _ _ h0)
  have hK1 : Kp w W1 := by rw [← hW1]; exact hKt _ _ _ (hKa _ _ (lR _)) (hKa _ _ (by simp))
  refine ⟨w.heap.size + 1, [{ target := .collected w.heap.size, args := #[] }], W1, { target := .fn (.func gf) lb, args := #[.func (.yield (w.heap.size + 1)) #[] #[]] }, W1, gf,
    #[.func (.yield (w.heap.size + 1)) #[] #[]] ++ lb, W1, ?_, ?_, fun _ _ => fr_fn _ _, ?_, fr_depth _ _, ?_⟩
  · rw [← hW1, hrec]; exact run_enterLoop_outer _ _ _ _ _
  · simp only [resolve, ha.ev hg]
    simp [go_sem]
  · simp [invoke, go_sem, run_callFunc_ok hf]
  · refine callsFr ((hit (w.heap.size + 1) (fun k W => I k W ∧ W.heap[w.heap.size + 1]? = some (.loop (rec .ready none)) ∧ W.heap[w.heap.size]? = some (.deferred (some []))) W1 hK1 ?_ ⟨hI1, hL1, hD1⟩).mono ?_)
    · rintro k x W ⟨hi, hl, hd⟩ hx
      have hlt : w.heap.size + 1 < W.heap.size := (Array.getElem?_eq_some_iff.1 hl).1
      have hy := run_yield (P := P) (args := #[x.1, x.2]) hl (by rw [hrec]; rfl)
      rw [hrec] at hy
      refine ⟨fn, _, assign, body, hy, roundIn_of_wpIn (F := Fr none) (fr_fn _ _) ?_⟩
      have hm : Models n { tmps := (a.tmps.setIfInBounds p1 x.1).setIfInBounds p2 x.2, defers := [] } ((p2, x.2) :: (p1, x.1) :: G) := by
        have := (ha.put hp1 x.1).put hp2 x.2
        refine ⟨?_, rfl, ?_⟩
        · simpa [Act.put] using this.size
        · intro q v hq
          simpa [Act.put] using this.val q v hq
      have hr := rnd k x W (w.heap.size + 1) hi hx _ hm
      have et : (#[p1, p2].zip #[x.1, x.2]).foldl (fun (tmps : Array Value) (x : Nat × Value) => tmps.setIfInBounds x.1 x.2) a.tmps = (a.tmps.setIfInBounds p1 x.1).setIfInBounds p2 x.2 := by simp
      rw [← et] at hr
      refine wpIn_mono (F := Fr (some (w.heap.size + 1))) hr ?_
      rintro e a1 w1 ⟨rfl, hkf, hkp, hb⟩
      have hl1 := hkf.same _ _ (by omega) hl rfl
      have hd1 := hkf.same _ _ (lR _) hd rfl
      refine ⟨_, run_beginRound hl1 (by rw [hrec]), ?_⟩
      have hlt1 := (Array.getElem?_eq_some_iff.1 hl1).1
      have hl2 : (w1.putObj (w.heap.size + 1) (.loop { rec .ready none with state := .busy })).heap[w.heap.size + 1]? = some (.loop { rec .ready none with state := .busy }) := World.putObj_heap_same hlt1
      have hd2 : (w1.putObj (w.heap.size + 1) (.loop { rec .ready none with state := .busy })).heap[w.heap.size]? = some (.deferred (some [])) := (World.putObj_heap_other (by omega)).trans hd1
      refine wpIn_mono (F := Fr (some (w.heap.size + 1))) (hb _ _ (by omega) hl1 rfl) ?_
      rintro e a3 w3 ⟨rfl, hkf3, hkp3, hi3⟩
      have hl3 := hkf3.same _ _ (by omega) hl2 rfl
      have hd3 := hkf3.same _ _ (lR _) hd2 rfl
      have hend := run_endRound (P := P) none hl3
      rw [hrec] at hend
      refine ⟨_, _, hend, rfl, ⟨hIp _ _ _ _ _ hi3 (by omega) hl3 rfl, ?_, (World.putObj_heap_other (by omega)).trans hd3⟩, ?_⟩
      · rw [hrec]; exact World.putObj_heap_same (Array.getElem?_eq_some_iff.1 hl3).1
      · exact hKt _ _ _ (hKt _ _ _ (hKt _ _ _ hkp (hKp _ _ _ (by omega))) hkp3) (hKp _ _ _ (by omega))
    · rintro e W2 hr
      cases e with
      | returned v =>
        obtain ⟨hi, hl, hd⟩ := hr
        refine ⟨none, W2.putObj (w.heap.size + 1) (.loop { rec .ready none with state := .exhausted }), ?_, ?_⟩
        · have := run_endLoop (P := P) hl (by rw [hrec]; simp)
          rw [hrec] at this ⊢
          exact this
        · have hdd := done a w.heap.size _ ha (lR _) (hIp _ _ _ _ (.loop { rec .ready none with state := .exhausted }) hi (by omega) hl rfl) ((World.putObj_heap_other (by omega)).trans hd)
          have e1 : wd [{ target := .collected w.heap.size, args := #[] }] a = { a with defers := [{ target := .collected w.heap.size, args := #[] }] ++ a.defers } := by
            rw [ha.defers]; rfl
          rw [e1] at hdd
          exact hdd
      | panicked c => exact hr.elim
      | outgrown => exact hr.elim
theorem c_enterM {P : Program} {n m : Nat} {f : FuncId} {fn : Func} {c : Code} {args : Array Value} {w : World} {R : Value → World → Prop} (hf : P.funcs[f]? = some fn) (hb : fn.body = some c) (hn : fn.ntmps = n) (hs : Nat.ble args.size n = true)
    (h : WC P n (bodyPostM (Fr none) m P fn (Ret R)) (argEnv 0 args.toList) w c) : Calls P f args w (Ret R) := by
  refine (callsIn_wide (n := m)).1 (callsIn_of_wp_marks hf hb (fr_fn none f) ((wpIn_wide (n := m)).2 (h _ ⟨?_, rfl, fun k v hv => ?_⟩)) rfl)
  · have hs' : args.size ≤ n := by simpa using hs
    simp [hn]; omega
  · obtain ⟨_, h2⟩ := argEnv_get _ _ _ _ hv
    simp only [Nat.sub_zero, Array.getElem?_toList] at h2
    have hlt : k < args.size := (Array.getElem?_eq_some_iff.1 h2).1
    rw [Array.getElem?_append_left hlt]
    exact h2
theorem c_range {P : Program} {n N : Nat} {Q : Exit → Act → World → Prop} {G : Env} {w : World} {c : Code} (h : ∀ a, Models n a G → c.wpIn (Fr none) N P Q a w) : WC P n Q G w c := fun a ha => (wpIn_wide (n := N)).1 (h a ha)
theorem m_ret {P : Program} {m : Nat} {fn : Func} {R : Value → World → Prop} {a : Act} {D : Nat} {w : World} (hD : w.heap[D]? = some (.deferred (some []))) (h : bodyPost P fn (Ret R) .ret a (w.putObj D (.deferred none))) :
    bodyPostM (Fr none) m P fn (Ret R) .ret (wd [{ target := .collected D, args := #[] }] a) w :=
  ⟨by simp, .inl ⟨_, _, rfl, run_takeDeferred hD, h.2⟩⟩
/-! ## Blocks that hold no cells -/
theorem put_cell {W : World} {l : Nat} {o o' : Obj} {p : Addr} {v : Value} (hl : W.heap[l]? = some o) (hc : o.isCells = false) (h : W.cell? p = some v) : (W.putObj l o').cell? p = some v :=
  cell_kept h (grownBy_putObj' W l o') (fun r e => by cases e; exact ⟨o, hl, hc⟩)
theorem put_at {M : Nat → Prop} {W : World} {l b off : Nat} {o o' : Obj} {cs : List Value} (hl : W.heap[l]? = some o) (hc : o.isCells = false) (h : At M W b off cs) : At M (W.putObj l o') b off cs :=
  ⟨by simpa using h.lt, h.nM, fun j v hv => put_cell hl hc (h.cell j v hv)⟩
theorem put_box {W : World} {l b t : Nat} {o o' : Obj} {cs : List Value} (hl : W.heap[l]? = some o) (hc : o.isCells = false) (h : Box W b t cs) : Box (W.putObj l o') b t cs := by
  refine ⟨(World.putObj_heap_other fun e => ?_).trans h.heap⟩
  have hb := h.heap
  rw [e, hl] at hb
  cases hb
  cases hc
theorem put_keeps {B : Nat} {W : World} {l : Nat} {o o' : Obj} (hl : W.heap[l]? = some o) (hc : o.isCells = false) {M : Nat → Prop} {b t : Nat} {cs : List Value} (h : MB B M W b t cs) : MB B M (W.putObj l o') b t cs := ⟨put_box hl hc h.box, h.inM, h.ge⟩
theorem put_low {M : Nat → Prop} {W : World} {l : Nat} {o' : Obj} (h : Low M W) : Low M (W.putObj l o') := fun b hb => by simpa using h b hb
theorem put_below {n : Nat} {w0 W : World} {l : Nat} {o' : Obj} (h : Below n w0 W) (hn : n ≤ l) (hs : n ≤ W.heap.size) : Below n w0 (W.putObj l o') := h.grown (grownBy_putObj' W l o') hs (fun k e => by cases e; exact hn)
theorem ext_keeps {B : Nat} {W W' : World} (h : Ext W W') : KeepsFrom B W W' := ⟨h.size, fun k _ _ hk _ => (h.block k (Array.getElem?_eq_some_iff.1 hk).1).trans hk⟩
theorem updb_keeps {B b t : Nat} {W W' : World} {cs : List Value} (h : UpdB b W W') (hb : Box W b t cs) : KeepsFrom B W W' := ⟨h.upd.1, fun k o _ hk hc => by
  refine (h.upd.2 k (Array.getElem?_eq_some_iff.1 hk).1 fun e => ?_).trans hk
  subst e
  rw [hb.heap] at hk
  cases hk
  cases hc⟩
theorem sl_choose {α : Type} [Rep α] {M : Nat → Prop} {w : World} {v : Value} {l : List α} (h : Sl M w v l) : ∃ (bs off cap : Nat) (us : Nat → Value), ∀ i x, l[i]? = some x → v = .slice (some ⟨bs, off, none⟩) l.length cap ∧ Rep.R M w (us i) x ∧ At M w bs (off + i * Rep.sz α) (us i).cells.toList := by
  obtain ⟨a, cap, rfl, _, _, he⟩ := h
  rcases he with he | ⟨bs, off, rfl, hel⟩
  · subst he
    exact ⟨0, 0, 0, fun _ => .nilFunc, fun i x hx => by simp at hx⟩
  · have key : ∀ i : Nat, ∃ u : Value, ∀ x, l[i]? = some x → Rep.R M w u x ∧ At M w bs (off + i * Rep.sz α) u.cells.toList := fun i => by
      cases hi : l[i]? with
      | none => exact ⟨.nilFunc, fun x hx => by cases hx⟩
      | some x =>
        obtain ⟨u, h1, h2⟩ := hel i x hi
        exact ⟨u, fun y hy => by cases hy; exact ⟨h1, h2⟩⟩
    obtain ⟨us, hus⟩ := Classical.axiomOfChoice key
    exact ⟨bs, off, cap, us, fun i x hx => ⟨rfl, hus i x hx⟩⟩
/-! ## A part of an element of a slice of the call's own; slices that won't be written any more -/
section
variable {P : Program} {T : Tab} {n : Nat} {ops : Array Oper} {Q : Exit → Act → World → Prop} {G : Env} {w : World} {K : Env → World → Prop}
  {ty : Nat} {pos : String} {af : Array Go.Edge} {g : Option (Nat × Bool)}
theorem splice_in (c u x : List Value) (o k : Nat) (hu : ∀ j v, u[j]? = some v → c[o + j]? = some v) (hk : k + x.length ≤ u.length) (ho : o + u.length ≤ c.length) :
    c.take (o + k) ++ x ++ c.drop (o + k + x.length) = c.take o ++ (u.take k ++ x ++ u.drop (k + x.length)) ++ c.drop (o + u.length) := by
  apply List.ext_getElem?
  intro i
  have t1 : (c.take (o + k)).length = o + k := by rw [List.length_take]; omega
  have t2 : (c.take o).length = o := by rw [List.length_take]; omega
  have t3 : (u.take k).length = k := by rw [List.length_take]; omega
  have hcu : ∀ j, j < u.length → u[j]? = c[o + j]? := fun j hj => by rw [gE hj]; exact (hu j _ (gE hj)).symm
  have hL : (c.take (o + k) ++ x ++ c.drop (o + k + x.length))[i]? = if i < o + k then c[i]? else if i < o + k + x.length then x[i - (o + k)]? else c[i]? := by
    rw [List.append_assoc]
    split
    · rw [List.getElem?_append_left (by omega), List.getElem?_take, if_pos (by assumption)]
    · rw [List.getElem?_append_right (by omega), t1]
      split
      · rw [List.getElem?_append_left (by omega)]
      · rw [List.getElem?_append_right (by omega), List.getElem?_drop]
        congr 1; omega
  have hY : ∀ q, (u.take k ++ x ++ u.drop (k + x.length))[q]? = if q < k then u[q]? else if q < k + x.length then x[q - k]? else u[q]? := fun q => by
    rw [List.append_assoc]
    split
    · rw [List.getElem?_append_left (by omega), List.getElem?_take, if_pos (by assumption)]
    · rw [List.getElem?_append_right (by omega), t3]
      split
      · rw [List.getElem?_append_left (by omega)]
      · rw [List.getElem?_append_right (by omega), List.getElem?_drop]
        congr 1; omega
  have l1 : (u.take k ++ x ++ u.drop (k + x.length)).length = u.length := by simp; omega
  have hR : (c.take o ++ (u.take k ++ x ++ u.drop (k + x.length)) ++ c.drop (o + u.length))[i]? = if i < o then c[i]? else if i < o + u.length then (u.take k ++ x ++ u.drop (k + x.length))[i - o]? else c[i]? := by
    rw [List.append_assoc (c.take o)]
    split
    · rw [List.getElem?_append_left (by omega), List.getElem?_take, if_pos (by assumption)]
    · rw [List.getElem?_append_right (by omega), t2]
      split
      · rw [List.getElem?_append_left (by omega)]
      · rw [List.getElem?_append_right (by omega), l1, List.getElem?_drop]
        congr 1; omega
  rw [hL, hR, hY]
  repeat' split
  all_goals first | rfl | (exfalso; omega) | (rw [hcu _ (by omega)]; congr 1; omega) | (congr 1; omega)
theorem o_stP {t e B : Nat} {x y : Operand} {b o j k : Nat} {α : Type} [Rep α] {M : Nat → Prop} {v vx u : Value} {l : List α} {z : α} {us : List Value} {te tx : TI} (hT : TabOk P T) (hs : OwnSl e B M w v l) (hb : v.ownBlock = some b) (hj : j < l.length) (hat : ∀ q a, us[q]? = some a → w.cell? ⟨b, j * te.size + q, none⟩ = some a) (husl : us.length = te.size) (hR : Rep.R M w u z) (hl : Low M w)
    (hx : Env.ev G x = some (.pointer (some ⟨b, o, none⟩))) (ho : o = j * te.size + k) (hy : Env.ev G y = some vx) (ht : T.get t = some tx) (hte : T.get e = some te) (hsz : te.size = Rep.sz α) (hvx : vx.cells.size = tx.size) (hone : ∀ a ∈ vx.cells.toList, a.oneCell' = true) (hk : k + tx.size ≤ te.size)
    (hu : u.cells.toList = us.take k ++ vx.cells.toList ++ us.drop (k + vx.cells.toList.length))
    (hg : gd ops G ⟨none, .store t x y, ty, pos, af, g⟩ = some true)
    (h : ∀ w', OwnSl e B M w' v (l.set j z) → Stp B M M w w' → (∀ k, k < w.heap.size → k ≠ b → w'.heap[k]? = w.heap[k]?) → K G w') : OW P n ops Q G w ⟨none, .store t x y, ty, pos, af, g⟩ K := by
  obtain ⟨vs, hr, hrs⟩ := hs.row
  subst ho
  rcases hr.2 with ⟨rfl, hn⟩ | ⟨b', cap, cur, rfl, hB, hh, hnc, hcm, hcs, htake⟩
  · omega
  simp only [Value.ownBlock, Option.some.injEq] at hb
  subst hb
  have husz : u.cells.size = te.size := by rw [hsz]; exact Rep.size hR
  have hlen : vs.length = l.length := hrs.length
  have hle : (j + 1) * te.size ≤ l.length * te.size := Nat.mul_le_mul_right _ hj
  have hle2 : l.length * te.size ≤ cap * te.size := Nat.mul_le_mul_right _ hnc
  rw [Nat.add_mul, Nat.one_mul] at hle
  have hct0 : cur.toList.length = cap * te.size := by rw [hsz]; simpa using hcs
  have hfit : j * te.size + k + vx.cells.size ≤ cur.size := by rw [hvx, hcs, ← hsz]; omega
  have hrun := run_store_row hT ht hh hvx hone hfit
  have hfitu : j * te.size + u.cells.size ≤ cur.size := by rw [husz, hcs, ← hsz]; omega
  have hM := hs.inM b' rfl
  have hcell : ∀ q a, us[q]? = some a → cur.toList[j * te.size + q]? = some a := fun q a hq => by
    have := hat q a hq
    simp only [World.cell?, hh] at this
    rw [Array.getElem?_toList]
    simpa using this
  have hlv : vx.cells.toList.length = vx.cells.size := by simp
  have hsp := splice_in cur.toList us vx.cells.toList (j * te.size) k hcell (by rw [hlv]; omega) (by omega)
  rw [← hu, husl] at hsp
  have hrow : (cur.toList.take (j * te.size + k) ++ vx.cells.toList ++ cur.toList.drop (j * te.size + k + vx.cells.size)).toArray = (cur.toList.take (j * te.size) ++ u.cells.toList ++ cur.toList.drop (j * te.size + u.cells.size)).toArray := by
    rw [← hlv, hsp, husz]
  rw [hrow] at hrun
  refine o_unit (w' := w.setRow b' (cur.toList.take (j * te.size) ++ u.cells.toList ++ cur.toList.drop (j * te.size + u.cells.size)).toArray) hg rfl (fun a ha => ?_)
    (h _ ⟨⟨vs.set j u, ⟨?_, .inr ⟨b', cap, _, ?_, hB, setRow_heap w b' cur _ e _ hh, ?_, hcm, ?_, ?_⟩⟩, ?_⟩, hs.inM⟩ ?_ (fun k _ hk => setRow_other w b' k _ hk))
  · simp [execOp, ha.ev hx, ha.ev hy, Instr.storeAt, Instr.sureAddr, hrun]
  · have := (hrs.set j hR).flat_length
    rw [this]
  · rw [List.length_set]
  · rw [List.length_set]; exact hnc
  · simp only [List.size_toArray, List.length_append, List.length_take, List.length_drop, Array.length_toList]
    omega
  · rw [List.length_set, flat_set vs hrs.sizes j u (by omega) (by rw [husz, hsz]), ← htake]
    rw [hsz] at hle hle2 husz
    simp only [hsz, husz]
    have hct : cur.toList.length = cap * Rep.sz α := by simpa using hcs
    have hul : u.cells.toList.length = Rep.sz α := by simpa using husz
    have hml : (j + 1) * Rep.sz α ≤ l.length * Rep.sz α := Nat.mul_le_mul_right _ hj
    rw [Nat.add_mul, Nat.one_mul] at hml
    have := take_splice cur.toList u.cells.toList (j * Rep.sz α) (l.length * Rep.sz α) (by rw [hul]; exact hml) (by rw [hct]; exact hle2)
    rw [hul] at this
    rw [this, List.take_take, Nat.min_eq_left (by omega)]
  · exact Rs.set (Rs.upd hrs ⟨by simp, fun k _ hk => setRow_other w b' k _ (fun e => hk (e ▸ hM))⟩) j (Rep.upd hR ⟨by simp, fun k _ hk => setRow_other w b' k _ (fun e => hk (e ▸ hM))⟩)
  · exact ⟨⟨by simp, fun k _ hk => setRow_other w b' k _ (fun e => hk (e ▸ hM))⟩, fun _ _ h => h, fun _ h => h, fun k hk => by simpa using hl k hk, ⟨rfl, rfl, rfl, by simp, fun k hk => setRow_other w b' k _ (by omega)⟩⟩
end
/-- M but for a slice's block: it won't be written any more. -/
def Less (M : Nat → Prop) (v : Value) : Nat → Prop := fun b => M b ∧ v.ownBlock ≠ some b
theorem less_sub {M : Nat → Prop} {v : Value} (b : Nat) (h : Less M v b) : M b := h.1
theorem OwnSl.froze {α : Type} [Rep α] {e B : Nat} {M : Nat → Prop} {w : World} {v : Value} {l : List α} (h : OwnSl e B M w v l) (hl : l.length < 140737488355328) : Sl (Less M v) w v l := by
  obtain ⟨us, hr, hs⟩ := h.row
  have hlt := hr.lt
  rcases hr.2 with ⟨rfl, hn⟩ | ⟨g, cap, cur, rfl, hB, hg, hc, _, _, htake⟩
  · have : l = [] := List.eq_nil_of_length_eq_zero hn
    subst this
    exact sl_nil
  · refine ⟨_, cap, rfl, hl, hc, .inr ⟨g, 0, rfl, fun i x hx => ?_⟩⟩
    obtain ⟨u, hu, hR⟩ := hs.get hx
    refine ⟨u, Rep.wk hR (fun b _ hb => hb.1), (hlt g rfl).2, fun hm => hm.2 rfl, fun j c hc => ?_⟩
    have := hr.cells (g := g) rfl (i * Rep.sz α + j) c (hs.flat_get hu j c hc)
    rw [addr_add] at this
    rwa [show 0 + i * Rep.sz α + j = 0 + (i * Rep.sz α + j) by omega]
theorem MB.less {B : Nat} {M : Nat → Prop} {w : World} {b t : Nat} {cs : List Value} {v : Value} (h : MB B M w b t cs) (hn : ∀ x, v.ownBlock = some x → x ≠ b) : MB B (Less M v) w b t cs := ⟨h.box, ⟨h.inM, fun e => hn _ e rfl⟩, h.ge⟩
theorem OwnSl.mono {α : Type} [Rep α] {e B B' : Nat} {M : Nat → Prop} {w : World} {v : Value} {l : List α} (h : OwnSl e B M w v l) (hB : B' ≤ B) : OwnSl e B' M w v l := by
  obtain ⟨us, hr, hs⟩ := h.row
  refine ⟨⟨us, ⟨hr.1, ?_⟩, hs⟩, h.inM⟩
  rcases hr.2 with hn | ⟨g, cap, cur, h1, h2, rest⟩
  · exact .inl hn
  · exact .inr ⟨g, cap, cur, h1, Nat.le_trans hB h2, rest⟩
theorem Stp.mono {B B' : Nat} {M M' : Nat → Prop} {w w' : World} (h : Stp B M M' w w') (hB : B' ≤ B) : Stp B' M M' w w' := ⟨h.upd, h.wk, h.sub, h.low, Below.mono h.below hB⟩
end Rw
