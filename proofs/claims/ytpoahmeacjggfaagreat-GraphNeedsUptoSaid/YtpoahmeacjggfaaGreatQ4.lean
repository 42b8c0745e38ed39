/- Part 4 of the proof: rules, plain laws and walks, merged out of smaller texts. -/
import Derived.Test.YtpoahmeacjggfaaGreatQ3
namespace Go.Proofs.YtpoahmeacjggfaaGreat
open Go Rw Go.RowKit
set_option maxRecDepth 100000
theorem swapRange_spec (M : Nat → Prop) (w : World) (B : Nat) (v : Value) (l : List Fld) (za zb zn : Int) (a b n : Nat) (ea : za = a) (eb : zb = b) (en : zn = n) (hab : a + n ≤ b) (hbn : b + n ≤ l.length) (hd : OwnSl 125 B M w v l) (hl : l.length < 140737488355328) (Lw : Low M w) (hB : B ≤ w.heap.size) :
  Calls Tryz.prog 126 #[v, .int .i64 za, .int .i64 zb, .int .i64 zn, .func (.func 115) #[] #[]] w (Ret fun r w' => r = .tuple #[] ∧ (∃ l', OwnSl 125 B M w' v l' ∧ SwR l l' a b n) ∧ Stp B M M w w' ∧ (∀ x, x < w.heap.size → some x ≠ v.ownBlock → w'.heap[x]? = w.heap[x]?)) := by
 subst ea; subst eb; subst en
 have hT : Stp B M M w w := Stp.refl Lw
 have hF : (∀ x, x < w.heap.size → some x ≠ v.ownBlock → w.heap[x]? = w.heap[x]?) := fun _ _ _ => rfl
 refine cN (n := 38) Tryz.func126 rfl rfl rfl ?_
 refine q0 (lP 1 tK rfl (q1 (cB ?_)))
 refine c_loop2 (X := Nat) (Y := List Fld) (fun i l' => [(0, v), (1, .int .i64 (a : Int)), (2, .int .i64 (b : Int)), (3, .int .i64 (n : Int)), (4, .func (.func 115) #[] #[]), (10, .int .i64 (i : Nat))]) (fun i l' w' => i ≤ n ∧ SwR l l' a b i ∧ OwnSl 125 B M w' v l' ∧ Low M w' ∧ B ≤ w'.heap.size ∧ Stp B M M w w' ∧ (∀ x, x < w.heap.size → some x ≠ (v : Value).ownBlock → w'.heap[x]? = w.heap[x]?)) (fun i l' => n - i) (0) (l) (s6 rfl rfl rfl rfl rfl rfl) ?_ ?_
 ·exact ⟨Nat.zero_le _, SwR.zero _ _ _, hd, Lw, hB, hT, hF⟩
 rintro i l2 w1 ⟨hi, hsw, hd, Lw, hB, hT, hF⟩
 refine cS (q0 (lP 3 tK rfl (q1 ?_)))
 refine cP _ rfl (fun hc => ?_) (fun hc => ?_)
 ·have hlen := hsw.len
  have ha1 : a + i < l2.length := by omega
  have hb1 : b + i < l2.length := by omega
  refine cK (xS (cS (cB ?_)))
  refine a_beg (fun _ _ => True) rfl ?_
  intro w2 ew2
  replace hF : ∀ x, x < w.heap.size → some x ≠ (v : Value).ownBlock → w2.heap[x]? = w.heap[x]? := fun x hx hn => (ew2.block x (lT hx hT.upd.1)).trans (hF x hx hn)
  replace hT := hT.then (Stp.Y ew2 Lw hB)
  replace hd := hd.Y Lw hB ew2
  replace Lw := Lw.Y ew2
  replace hB := ew2.z hB
  have hS : True := trivial
  refine a_p 0 tK rfl rfl rfl rfl (by kernel_rfl) i3 hS ?_
  refine a_p 1 tK rfl rfl rfl rfl (by kernel_rfl) i3 hS ?_
  refine a_p 2 tK rfl rfl rfl rfl (by kernel_rfl) i3 hS ?_
  refine a_ar 3 rfl rfl rfl rfl (IntWalk.i64_in _ (by omega)) rfl rfl (by kernel_rfl) i3 hS ?_
  refine a_p 4 tK rfl rfl rfl rfl (by kernel_rfl) i3 hS ?_
  refine a_p 5 tK rfl rfl rfl rfl (by kernel_rfl) i3 hS ?_
  refine a_p 6 tK rfl rfl rfl rfl (by kernel_rfl) i3 hS ?_
  refine a_ar 7 rfl rfl rfl rfl (IntWalk.i64_in _ (by omega)) rfl rfl (by kernel_rfl) i3 hS ?_
  refine a_p 8 tK rfl rfl rfl rfl (by kernel_rfl) i3 hS ?_
  refine a_p 9 tK rfl rfl rfl rfl (by kernel_rfl) i3 hS ?_
  refine a_p 10 tK rfl rfl rfl rfl (by kernel_rfl) i3 hS ?_
  refine a_ar 11 rfl rfl rfl rfl (IntWalk.i64_in _ (by omega)) rfl rfl (by kernel_rfl) i3 hS ?_
  refine a_ixO 12 tK hd (gE hb1) rfl rfl rfl (by omega) rfl rfl rfl rfl rfl rfl (by kernel_rfl) i4 hS ?_
  intro ibq1 iuq1 hobq1 hrq1 hatq1
  obtain ⟨szq1, kvq1, rfl, hyq1⟩ := fld_open hrq1
  replace hatq1 : OAt _ _ _ [.string l2[b + i].name, .int .u8 l2[b + i].ty.op, .string l2[b + i].ty.name, .int .i64 l2[b + i].ty.n, kvq1] := hatq1
  refine a_p 14 tK rfl rfl rfl rfl (by kernel_rfl) i3 hS ?_
  refine a_p 15 tK rfl rfl rfl rfl (by kernel_rfl) i3 hS ?_
  refine a_p 16 tK rfl rfl rfl rfl (by kernel_rfl) i3 hS ?_
  refine a_ar 17 rfl rfl rfl rfl (IntWalk.i64_in _ (by omega)) rfl rfl (by kernel_rfl) i3 hS ?_
  refine a_ixO 18 tK hd (gE ha1) rfl rfl rfl (by omega) rfl rfl rfl rfl rfl rfl (by kernel_rfl) i4 hS ?_
  intro ibq2 iuq2 hobq2 hrq2 hatq2
  obtain ⟨szq2, kvq2, rfl, hyq2⟩ := fld_open hrq2
  replace hatq2 : OAt _ _ _ [.string l2[a + i].name, .int .u8 l2[a + i].ty.op, .string l2[a + i].ty.name, .int .i64 l2[a + i].ty.n, kvq2] := hatq2
  refine a_all [13, 19] (by kernel_rfl) rfl (all_cons (i := 13) rfl ?_ (all_cons (i := 19) rfl ?_ all_nil))
  ·refine oL tK (fun j v hv => hatq1.cell j v hv) rfl rfl rfl rfl rfl rfl ?_
   refine ⟨hS, ?_⟩
   refine a_one 19 rfl (by kernel_rfl) (oL tK (fun j v hv => hatq2.cell j v hv) rfl rfl rfl rfl rfl rfl ?_)
   refine ⟨hS, ?_⟩
   refine a_ixO 20 tK hd (gE ha1) rfl rfl rfl (by omega) rfl rfl rfl rfl rfl rfl (by kernel_rfl) i4 hS ?_
   intro ibq3 iuq3 hobq3 hrq3 hatq3
   obtain ⟨szq3, kvq3, rfl, hyq3⟩ := fld_open hrq3
   replace hatq3 : OAt _ _ _ [.string l2[a + i].name, .int .u8 l2[a + i].ty.op, .string l2[a + i].ty.name, .int .i64 l2[a + i].ty.n, kvq3] := hatq3
   refine a_one 21 rfl (by kernel_rfl) (o_stO tK hd hobq3 (by first | omega | (simp; omega)) hrq1 Lw rfl rfl rfl rfl rfl rfl ?_)
   intro w3 hw3 sw3 frw3
   replace hF : ∀ x, x < w.heap.size → some x ≠ (v : Value).ownBlock → w3.heap[x]? = w.heap[x]? := fun x hx hn => (frw3 x (lT hx hT.upd.1) (fun e => hn (by rw [hobq3, e]))).trans (hF x hx hn)
   replace hT := hT.then sw3
   replace hrq1 := Rep.sp hrq1 sw3
   replace hrq2 := Rep.sp hrq2 sw3
   replace hrq3 := Rep.sp hrq3 sw3
   replace Lw := sw3.low
   replace hB := sw3.z hB
   refine ⟨hS, ?_⟩
   replace hd := hw3
   clear hw3
   refine a_ixO 22 tK hd (gE (by simpa using hb1)) rfl rfl rfl (by omega) rfl rfl rfl rfl rfl rfl (by kernel_rfl) i4 hS ?_
   intro ibq4 iuq4 hobq4 hrq4 hatq4
   refine a_one 23 rfl (by kernel_rfl) (o_stO tK hd hobq4 (by first | omega | (simp; omega)) hrq2 Lw rfl rfl rfl rfl rfl rfl ?_)
   intro w4 hw4 sw4 frw4
   replace hF : ∀ x, x < w.heap.size → some x ≠ (v : Value).ownBlock → w4.heap[x]? = w.heap[x]? := fun x hx hn => (frw4 x (lT hx hT.upd.1) (fun e => hn (by rw [hobq4, e]))).trans (hF x hx hn)
   replace hT := hT.then sw4
   replace hrq1 := Rep.sp hrq1 sw4
   replace hrq2 := Rep.sp hrq2 sw4
   replace hrq3 := Rep.sp hrq3 sw4
   replace Lw := sw4.low
   replace hB := sw4.z hB
   refine ⟨hS, ?_⟩
   replace hd := hw4
   clear hw4
   refine a_end (by kernel_rfl) ?_
   refine x_blk (xS (cG (lP 1 tK rfl ?_)))
   refine lC (o_ai rfl rfl rfl (by omega) rfl rfl ?_)
   refine lP 1 tK rfl (lN ?_)
   exact xN (i + 1) (((l2.set (a + i) l2[b + i]).set (b + i) l2[a + i])) (s6 rfl rfl rfl rfl rfl (gN rfl (by omega))) ⟨by omega, hsw.step (by omega) (by omega) ha1 hb1, hd, Lw, hB, hT, hF⟩ (by omega)
  refine oL tK (fun j v hv => hatq2.cell j v hv) rfl rfl rfl rfl rfl rfl ?_
  refine ⟨hS, ?_⟩
  refine a_one 13 rfl (by kernel_rfl) (oL tK (fun j v hv => hatq1.cell j v hv) rfl rfl rfl rfl rfl rfl ?_)
  refine ⟨hS, ?_⟩
  refine a_ixO 20 tK hd (gE (by simpa using ha1)) rfl rfl rfl (by omega) rfl rfl rfl rfl rfl rfl (by kernel_rfl) i4 hS ?_
  intro ibq5 iuq5 hobq5 hrq5 hatq5
  refine a_one 21 rfl (by kernel_rfl) (o_stO tK hd hobq5 (by first | omega | (simp; omega)) hrq1 Lw rfl rfl rfl rfl rfl rfl ?_)
  intro w5 hw5 sw5 frw5
  replace hF : ∀ x, x < w.heap.size → some x ≠ (v : Value).ownBlock → w5.heap[x]? = w.heap[x]? := fun x hx hn => (frw5 x (lT hx hT.upd.1) (fun e => hn (by rw [hobq5, e]))).trans (hF x hx hn)
  replace hT := hT.then sw5
  replace hrq1 := Rep.sp hrq1 sw5
  replace hrq2 := Rep.sp hrq2 sw5
  replace Lw := sw5.low
  replace hB := sw5.z hB
  refine ⟨hS, ?_⟩
  replace hd := hw5
  clear hw5
  refine a_ixO 22 tK hd (gE (by simpa using hb1)) rfl rfl rfl (by omega) rfl rfl rfl rfl rfl rfl (by kernel_rfl) i4 hS ?_
  intro ibq6 iuq6 hobq6 hrq6 hatq6
  refine a_one 23 rfl (by kernel_rfl) (o_stO tK hd hobq6 (by first | omega | (simp; omega)) hrq2 Lw rfl rfl rfl rfl rfl rfl ?_)
  intro w6 hw6 sw6 frw6
  replace hF : ∀ x, x < w.heap.size → some x ≠ (v : Value).ownBlock → w6.heap[x]? = w.heap[x]? := fun x hx hn => (frw6 x (lT hx hT.upd.1) (fun e => hn (by rw [hobq6, e]))).trans (hF x hx hn)
  replace hT := hT.then sw6
  replace hrq1 := Rep.sp hrq1 sw6
  replace hrq2 := Rep.sp hrq2 sw6
  replace Lw := sw6.low
  replace hB := sw6.z hB
  refine ⟨hS, ?_⟩
  replace hd := hw6
  clear hw6
  refine a_end (by kernel_rfl) ?_
  refine x_blk (xS (cG (lP 1 tK rfl ?_)))
  refine lC (o_ai rfl rfl rfl (by omega) rfl rfl ?_)
  refine lP 1 tK rfl (lN ?_)
  exact xN (i + 1) (((l2.set (a + i) l2[b + i]).set (b + i) l2[a + i])) (s6 rfl rfl rfl rfl rfl (gN rfl (by omega))) ⟨by omega, hsw.step (by omega) (by omega) ha1 hb1, hd, Lw, hB, hT, hF⟩ (by omega)
 refine c_exit (xE (xE (x_blkE ?_)))
 refine x_ret0n rfl ?_
 obtain rfl : i = n := by omega
 exact ⟨rfl, ⟨l2, hd, hsw⟩, hT, hF⟩
theorem rotate_spec (M : Nat → Prop) (w : World) (B : Nat) (v : Value) (l : List Fld) (za zm zb : Int) (a m b : Nat) (ea : za = a) (em : zm = m) (eb : zb = b) (ham : a < m) (hmb : m < b) (hbl : b ≤ l.length) (hd : OwnSl 125 B M w v l) (hl : l.length < 140737488355328) (Lw : Low M w) (hB : B ≤ w.heap.size) :
  Calls Tryz.prog 125 #[v, .int .i64 za, .int .i64 zm, .int .i64 zb, .func (.func 115) #[] #[]] w (Ret fun r w' => r = .tuple #[] ∧ (∃ l', OwnSl 125 B M w' v l' ∧ Rot l l' a m b) ∧ Stp B M M w w' ∧ (∀ x, x < w.heap.size → some x ≠ v.ownBlock → w'.heap[x]? = w.heap[x]?)) := by
 subst ea; subst em; subst eb
 have hT : Stp B M M w w := Stp.refl Lw
 have hF : (∀ x, x < w.heap.size → some x ≠ v.ownBlock → w.heap[x]? = w.heap[x]?) := fun _ _ _ => rfl
 refine cN (n := 58) Tryz.func125 rfl rfl rfl ?_
 refine q0 (lP 2 tK rfl ?_)
 refine lC (o_ai rfl rfl rfl (by omega) rfl rfl ?_)
 refine lP 1 tK rfl (q1 (q0 (lP 2 tK rfl ?_)))
 refine lC (o_ai rfl rfl rfl (by omega) rfl rfl ?_)
 refine lP 1 tK rfl (q1 (cS (cB ?_)))
 refine c_loop3 (X := Nat) (Y := Nat) (Z := List Fld) (fun i j l' => [(0, v), (1, .int .i64 (a : Int)), (2, .int .i64 (m : Int)), (3, .int .i64 (b : Int)), (4, .func (.func 115) #[] #[]), (10, .int .i64 (i : Nat)), (11, .int .i64 (j : Nat))]) (fun i j l' w' => 0 < i ∧ 0 < j ∧ i ≤ m - a ∧ j ≤ b - m ∧ l'.length = l.length ∧ (∀ k, Rot l' k (m - i) m (m + j) → Rot l k a m b) ∧ OwnSl 125 B M w' v l' ∧ Low M w' ∧ B ≤ w'.heap.size ∧ Stp B M M w w' ∧ (∀ x, x < w.heap.size → some x ≠ (v : Value).ownBlock → w'.heap[x]? = w.heap[x]?)) (fun i j l' => i + j) (m - a) (b - m) (l) (s7 rfl rfl rfl rfl rfl (gN rfl (by omega)) (gN rfl (by omega))) ?_ ?_
 ·exact ⟨by omega, by omega, lR _, lR _, rfl, fun k hk => by rwa [show m - (m - a) = a by omega, show m + (b - m) = b by omega] at hk, hd, Lw, hB, hT, hF⟩
 rintro i j l2 w1 ⟨hi0, hj0, hi, hj, hlen, hrot, hd, Lw, hB, hT, hF⟩
 refine cS (q0 (lP 3 tK rfl (q1 ?_)))
 refine c_ifN _ rfl (fun hne => ?_) (fun hne => ?_)
 ·refine cK (xS (cB (q0 (lP 3 tK rfl (q1 ?_)))))
  refine cP _ rfl (fun hgt => ?_) (fun hgt => ?_)
  ·refine q0 (lP 3 tK rfl ?_)
   refine lC (o_ai rfl rfl rfl (by omega) rfl rfl ?_)
   refine lP 3 tK rfl ?_
   refine lC (oK fo126 rfl rfl rfl (swapRange_spec M _ B v l2 _ _ _ (m - i) m j (by omega) (by omega) (by omega) (by omega) (by omega) hd (by omega) Lw hB) ?_)
   rintro _ w2 ⟨rfl, ⟨l3, hdw2, hsw⟩, sw2, frw2⟩
   replace hF : ∀ x, x < w.heap.size → some x ≠ (v : Value).ownBlock → w2.heap[x]? = w.heap[x]? := fun x hx hn => (frw2 x (lT hx hT.upd.1) hn).trans (hF x hx hn)
   replace hT := hT.then sw2
   replace Lw := sw2.low
   replace hB := sw2.z hB
   replace hd := hdw2
   refine q1 (cG (lP 2 tK rfl ?_))
   refine lC (o_ai rfl rfl rfl (by omega) rfl rfl ?_)
   refine lP 1 tK rfl (q2 ?_)
   exact x_round3 (i - j) (j) (l3) (s7 rfl rfl rfl rfl rfl (gN rfl (by omega)) rfl) ⟨by omega, by omega, by omega, by omega, hsw.len.trans hlen, fun k hk => hrot k (rot_up hsw (by omega) (by omega) hk), hd, Lw, hB, hT, hF⟩ (by omega)
  refine q0 (lP 3 tK rfl ?_)
  refine lC (o_ai rfl rfl rfl (by omega) rfl rfl ?_)
  refine lP 2 tK rfl ?_
  refine lC (o_ai rfl rfl rfl (by omega) rfl rfl ?_)
  refine lP 1 tK rfl ?_
  refine lC (o_ai rfl rfl rfl (by omega) rfl rfl ?_)
  refine lP 2 tK rfl ?_
  refine lC (oK fo126 rfl rfl rfl (swapRange_spec M _ B v l2 _ _ _ (m - i) (m + j - i) i (by omega) (by omega) (by omega) (by omega) (by omega) hd (by omega) Lw hB) ?_)
  rintro _ w3 ⟨rfl, ⟨l3, hdw3, hsw⟩, sw3, frw3⟩
  replace hF : ∀ x, x < w.heap.size → some x ≠ (v : Value).ownBlock → w3.heap[x]? = w.heap[x]? := fun x hx hn => (frw3 x (lT hx hT.upd.1) hn).trans (hF x hx hn)
  replace hT := hT.then sw3
  replace Lw := sw3.low
  replace hB := sw3.z hB
  replace hd := hdw3
  refine q1 (cG (lP 2 tK rfl ?_))
  refine lC (o_ai rfl rfl rfl (by omega) rfl rfl ?_)
  refine lP 1 tK rfl (q2 ?_)
  exact x_round3 (i) (j - i) (l3) (s7 rfl rfl rfl rfl rfl rfl (gN rfl (by omega))) ⟨by omega, by omega, by omega, by omega, hsw.len.trans hlen, fun k hk => hrot k (rot_down hsw (by omega) (by omega) hk), hd, Lw, hB, hT, hF⟩ (by omega)
 refine c_exit (xE (xE (x_blkE (xS (cG (lP 3 tK rfl ?_))))))
 refine lC (o_ai rfl rfl rfl (by omega) rfl rfl ?_)
 refine lP 3 tK rfl ?_
 refine lC (oK fo126 rfl rfl rfl (swapRange_spec M _ B v l2 _ _ _ (m - i) m i (by omega) (by omega) (by omega) (by omega) (by omega) hd (by omega) Lw hB) ?_)
 rintro _ w4 ⟨rfl, ⟨l3, hdw4, hsw⟩, sw4, frw4⟩
 replace hF : ∀ x, x < w.heap.size → some x ≠ (v : Value).ownBlock → w4.heap[x]? = w.heap[x]? := fun x hx hn => (frw4 x (lT hx hT.upd.1) hn).trans (hF x hx hn)
 replace hT := hT.then sw4
 replace Lw := sw4.low
 replace hB := sw4.z hB
 replace hd := hdw4
 refine lN ?_
 refine x_ret0n rfl ?_
 obtain rfl : i = j := by omega
 exact ⟨rfl, ⟨l3, hd, hrot l3 (rot_last hsw (by omega))⟩, hT, hF⟩
theorem symMerge_all (d : Nat) : ∀ (M : Nat → Prop) (w : World) (B : Nat) (v : Value) (l : List Fld) (za zm zb : Int) (a m b : Nat) (_ : za = a) (_ : zm = m) (_ : zb = b) (_ : b - a ≤ d) (_ : a < m) (_ : m < b) (_ : b ≤ l.length) (_ : SrtOn l a m) (_ : SrtOn l m b) (_ : OwnSl 125 B M w v l) (_ : l.length < 140737488355328) (_ : Low M w) (_ : B ≤ w.heap.size),
  Calls Tryz.prog 123 #[v, .int .i64 za, .int .i64 zm, .int .i64 zb, .func (.func 115) #[] #[]] w (Ret fun r w' => r = .tuple #[] ∧ (∃ l', OwnSl 125 B M w' v l' ∧ Rng l l' a b ∧ SrtOn l' a b) ∧ Stp B M M w w' ∧ (∀ x, x < w.heap.size → some x ≠ v.ownBlock → w'.heap[x]? = w.heap[x]?)) := by
 induction d with
 | zero => intro M w B v l za zm zb a m b _ _ _ h1 h2 h3; exfalso; omega
 | succ d ih =>
 intro M w B v l za zm zb a m b ea em eb hda ham hmb hbl hs1 hs2 hd hl Lw hB
 subst ea; subst em; subst eb
 have hT : Stp B M M w w := Stp.refl Lw
 have hF : (∀ x, x < w.heap.size → some x ≠ v.ownBlock → w.heap[x]? = w.heap[x]?) := fun _ _ _ => rfl
 refine cN (n := 220) Tryz.func123 rfl rfl rfl ?_
 refine cS (q0 (lP 2 tK rfl ?_))
 refine lC (o_ai rfl rfl rfl (by omega) rfl rfl ?_)
 refine lP 1 tK rfl (q1 ?_)
 refine cP _ rfl (fun hc28 => ?_) (fun hc28 => ?_)
 ·refine q0 (lP 2 tK rfl (q1 (q0 (lP 2 tK rfl (q1 (cS (cB ?_)))))))
  obtain rfl : m = a + 1 := by omega
  refine c_loop2 (X := Nat) (Y := Nat) (fun i j => [(0, v), (1, .int .i64 (a : Int)), (2, .int .i64 ((a + 1 : Nat) : Int)), (3, .int .i64 (b : Int)), (4, .func (.func 115) #[] #[]), (10, .int .i64 (i : Nat)), (11, .int .i64 (j : Nat))]) (fun i j w' => a + 1 ≤ i ∧ i ≤ j ∧ j ≤ b ∧ FindF l a (a + 1) b i j ∧ OwnSl 125 B M w' v l ∧ Low M w' ∧ B ≤ w'.heap.size ∧ Stp B M M w w' ∧ (∀ x, x < w.heap.size → some x ≠ (v : Value).ownBlock → w'.heap[x]? = w.heap[x]?)) (fun i j => j - i) (a + 1) (b) (s7 rfl rfl rfl rfl rfl rfl rfl) ?_ ?_
  ·exact ⟨lR _, by omega, lR _, FindF.start _ _ _ _, hd, Lw, hB, hT, hF⟩
  rintro i j w1 ⟨hi, hij, hj, hfd, hd, Lw, hB, hT, hF⟩
  refine cS (q0 (lP 3 tK rfl (q1 ?_)))
  refine cP _ rfl (fun hc33 => ?_) (fun hc33 => ?_)
  ·refine cK (xS (cB (q0 (lP 2 tK rfl ?_))))
   refine lC (o_ai rfl rfl rfl (by omega) rfl rfl ?_)
   refine lC (o_conv tK rfl rfl rfl rfl rfl (IntWalk.u64_in _ (by omega)) rfl rfl ?_)
   refine lC (o_half (y := (((i + j) / 2 : Nat) : Int)) rfl rfl (by omega) (by omega) rfl rfl ?_)
   refine lC (o_conv (y := (((i + j) / 2 : Nat) : Int)) tK rfl rfl rfl rfl rfl (IntWalk.i64_in _ (by omega)) rfl rfl ?_)
   have hh : (i + j) / 2 < l.length := by omega
   have ha1 : a < l.length := by omega
   refine lP 1 tK rfl (q1 (cS ?_))
   refine a_beg (fun _ _ => True) rfl ?_
   intro w2 ew2
   replace hF : ∀ x, x < w.heap.size → some x ≠ (v : Value).ownBlock → w2.heap[x]? = w.heap[x]? := fun x hx hn => (ew2.block x (lT hx hT.upd.1)).trans (hF x hx hn)
   replace hT := hT.then (Stp.Y ew2 Lw hB)
   replace hd := hd.Y Lw hB ew2
   replace Lw := Lw.Y ew2
   replace hB := ew2.z hB
   have hS : True := trivial
   refine a_p 0 tK rfl rfl rfl rfl (by kernel_rfl) i3 hS ?_
   refine a_p 1 tK rfl rfl rfl rfl (by kernel_rfl) i3 hS ?_
   refine a_p 2 tK rfl rfl rfl rfl (by kernel_rfl) i3 hS ?_
   refine a_ixO 3 tK hd (gE hh) rfl rfl rfl (by omega) rfl rfl rfl rfl rfl rfl (by kernel_rfl) i4 hS ?_
   intro ibq1 iuq1 hobq1 hrq1 hatq1
   obtain ⟨szq1, kvq1, rfl, hyq1⟩ := fld_open hrq1
   replace hatq1 : OAt _ _ _ [.string l[(i + j) / 2].name, .int .u8 l[(i + j) / 2].ty.op, .string l[(i + j) / 2].ty.name, .int .i64 l[(i + j) / 2].ty.n, kvq1] := hatq1
   refine a_p 5 tK rfl rfl rfl rfl (by kernel_rfl) i3 hS ?_
   refine a_p 6 tK rfl rfl rfl rfl (by kernel_rfl) i3 hS ?_
   refine a_ixO 7 tK hd (gE ha1) rfl rfl rfl (by omega) rfl rfl rfl rfl rfl rfl (by kernel_rfl) i4 hS ?_
   intro ibq2 iuq2 hobq2 hrq2 hatq2
   obtain ⟨szq2, kvq2, rfl, hyq2⟩ := fld_open hrq2
   replace hatq2 : OAt _ _ _ [.string l[a].name, .int .u8 l[a].ty.op, .string l[a].ty.name, .int .i64 l[a].ty.n, kvq2] := hatq2
   refine a_all [4, 8] (by kernel_rfl) rfl (all_cons (i := 4) rfl ?_ (all_cons (i := 8) rfl ?_ all_nil))
   ·refine oL tK (fun j v hv => hatq1.cell j v hv) rfl rfl rfl rfl rfl rfl ?_
    refine ⟨hS, ?_⟩
    refine a_one 8 rfl (by kernel_rfl) (oL tK (fun j v hv => hatq2.cell j v hv) rfl rfl rfl rfl rfl rfl ?_)
    refine ⟨hS, ?_⟩
    refine a_one 9 rfl (by kernel_rfl) (o_dyn rfl fo115 rfl rfl rfl (byName_spec M _ _ _ _ _ hrq1 hrq2 Lw) ?_)
    rintro _ w3 ⟨rfl, ew3⟩
    replace hF : ∀ x, x < w.heap.size → some x ≠ (v : Value).ownBlock → w3.heap[x]? = w.heap[x]? := fun x hx hn => (ew3.block x (lT hx hT.upd.1)).trans (hF x hx hn)
    replace hT := hT.then (Stp.Y ew3 Lw hB)
    replace hd := hd.Y Lw hB ew3
    replace hrq1 := Rep.Y hrq1 ew3
    replace hrq2 := Rep.Y hrq2 ew3
    replace Lw := Lw.Y ew3
    replace hB := ew3.z hB
    refine ⟨hS, ?_⟩
    refine a_p 10 tK rfl rfl rfl rfl (by kernel_rfl) i3 hS ?_
    refine a_end (by kernel_rfl) ?_
    refine xS ?_
    refine cP _ rfl (fun hlt => ?_) (fun hlt => ?_)
    ·refine cG (lP 1 tK rfl ?_)
     refine lC (o_ai rfl rfl rfl (by omega) rfl rfl ?_)
     refine lP 1 tK rfl (q2 ?_)
     exact xN ((i + j) / 2 + 1) (j) (s7 rfl rfl rfl rfl rfl (gN rfl (by omega)) rfl) ⟨by omega, by omega, hj, hfd.up (by omega) hh ha1 hlt, hd, Lw, hB, hT, hF⟩ (by omega)
    refine cG (lP 2 tK rfl (q2 ?_))
    exact xN (i) ((i + j) / 2) (s7 rfl rfl rfl rfl rfl rfl rfl) ⟨hi, by omega, by omega, hfd.down (by omega) hh ha1 hlt, hd, Lw, hB, hT, hF⟩ (by omega)
   refine oL tK (fun j v hv => hatq2.cell j v hv) rfl rfl rfl rfl rfl rfl ?_
   refine ⟨hS, ?_⟩
   refine a_one 4 rfl (by kernel_rfl) (oL tK (fun j v hv => hatq1.cell j v hv) rfl rfl rfl rfl rfl rfl ?_)
   refine ⟨hS, ?_⟩
   refine a_one 9 rfl (by kernel_rfl) (o_dyn rfl fo115 rfl rfl rfl (byName_spec M _ _ _ _ _ hrq1 hrq2 Lw) ?_)
   rintro _ w4 ⟨rfl, ew4⟩
   replace hF : ∀ x, x < w.heap.size → some x ≠ (v : Value).ownBlock → w4.heap[x]? = w.heap[x]? := fun x hx hn => (ew4.block x (lT hx hT.upd.1)).trans (hF x hx hn)
   replace hT := hT.then (Stp.Y ew4 Lw hB)
   replace hd := hd.Y Lw hB ew4
   replace hrq1 := Rep.Y hrq1 ew4
   replace hrq2 := Rep.Y hrq2 ew4
   replace Lw := Lw.Y ew4
   replace hB := ew4.z hB
   refine ⟨hS, ?_⟩
   refine a_p 10 tK rfl rfl rfl rfl (by kernel_rfl) i3 hS ?_
   refine a_end (by kernel_rfl) ?_
   refine xS ?_
   refine cP _ rfl (fun hlt => ?_) (fun hlt => ?_)
   ·refine cG (lP 1 tK rfl ?_)
    refine lC (o_ai rfl rfl rfl (by omega) rfl rfl ?_)
    refine lP 1 tK rfl (q2 ?_)
    exact xN ((i + j) / 2 + 1) (j) (s7 rfl rfl rfl rfl rfl (gN rfl (by omega)) rfl) ⟨by omega, by omega, hj, hfd.up (by omega) hh ha1 hlt, hd, Lw, hB, hT, hF⟩ (by omega)
   refine cG (lP 2 tK rfl (q2 ?_))
   exact xN (i) ((i + j) / 2) (s7 rfl rfl rfl rfl rfl rfl rfl) ⟨hi, by omega, by omega, hfd.down (by omega) hh ha1 hlt, hd, Lw, hB, hT, hF⟩ (by omega)
  refine c_exit (xE (xE (x_blkE (xS (cS (q0 (lP 2 tK rfl (q1 (cB ?_)))))))))
  have hrun := hfd.run (by omega) hij hs2 hbl hmb hi hj
  refine c_loop2 (X := Nat) (Y := List Fld) (fun k l' => [(0, v), (1, .int .i64 (a : Int)), (2, .int .i64 ((a + 1 : Nat) : Int)), (3, .int .i64 (b : Int)), (4, .func (.func 115) #[] #[]), (10, .int .i64 (i : Nat)), (13, .int .i64 (k : Nat))]) (fun k l' w' => a ≤ k ∧ k + 1 ≤ i ∧ RunF l' a k i b ∧ Rng l l' a b ∧ OwnSl 125 B M w' v l' ∧ Low M w' ∧ B ≤ w'.heap.size ∧ Stp B M M w w' ∧ (∀ x, x < w.heap.size → some x ≠ (v : Value).ownBlock → w'.heap[x]? = w.heap[x]?)) (fun k l' => b - k) (a) (l) (s7 rfl rfl rfl rfl rfl rfl rfl) ?_ ?_
  ·exact ⟨lR _, hi, hrun, Rng.refl _ _ _, hd, Lw, hB, hT, hF⟩
  rintro k l3 w5 ⟨hak, hki, hrn, hrg, hd, Lw, hB, hT, hF⟩
  refine cS (q0 (lP 2 tK rfl ?_))
  refine lC (o_ai rfl rfl rfl (by omega) rfl rfl ?_)
  refine lP 1 tK rfl (q1 ?_)
  refine cP _ rfl (fun hc58 => ?_) (fun hc58 => ?_)
  ·have hlen3 := hrg.len
   have hk1 : k + 1 < l3.length := by omega
   have hk0 : k < l3.length := by omega
   have hne : l3[k].name ≠ l3[k + 1].name := fun e => by
    have := hrn.mid (k + 1) l3[k] l3[k + 1] (by omega) (by omega) (gE hk0) (gE hk1)
    rw [e, show cmpN l3[k + 1].name l3[k + 1].name = 0 from cmpN_eq.2 rfl] at this
    omega
   refine cK (xS (cS (cB ?_)))
   refine a_beg (fun _ _ => True) rfl ?_
   intro w6 ew6
   replace hF : ∀ x, x < w.heap.size → some x ≠ (v : Value).ownBlock → w6.heap[x]? = w.heap[x]? := fun x hx hn => (ew6.block x (lT hx hT.upd.1)).trans (hF x hx hn)
   replace hT := hT.then (Stp.Y ew6 Lw hB)
   replace hd := hd.Y Lw hB ew6
   replace Lw := Lw.Y ew6
   replace hB := ew6.z hB
   have hS : True := trivial
   refine a_p 0 tK rfl rfl rfl rfl (by kernel_rfl) i3 hS ?_
   refine a_p 1 tK rfl rfl rfl rfl (by kernel_rfl) i3 hS ?_
   refine a_p 2 tK rfl rfl rfl rfl (by kernel_rfl) i3 hS ?_
   refine a_p 3 tK rfl rfl rfl rfl (by kernel_rfl) i3 hS ?_
   refine a_ar 4 rfl rfl rfl rfl (IntWalk.i64_in _ (by omega)) rfl rfl (by kernel_rfl) i3 hS ?_
   refine a_p 5 tK rfl rfl rfl rfl (by kernel_rfl) i3 hS ?_
   refine a_p 6 tK rfl rfl rfl rfl (by kernel_rfl) i3 hS ?_
   refine a_ar 7 rfl rfl rfl rfl (IntWalk.i64_in _ (by omega)) rfl rfl (by kernel_rfl) i3 hS ?_
   refine a_ixO 8 tK hd (gE hk1) rfl rfl rfl (by omega) rfl rfl rfl rfl rfl rfl (by kernel_rfl) i4 hS ?_
   intro ibq3 iuq3 hobq3 hrq3 hatq3
   obtain ⟨szq3, kvq3, rfl, hyq3⟩ := fld_open hrq3
   replace hatq3 : OAt _ _ _ [.string l3[k + 1].name, .int .u8 l3[k + 1].ty.op, .string l3[k + 1].ty.name, .int .i64 l3[k + 1].ty.n, kvq3] := hatq3
   refine a_p 10 tK rfl rfl rfl rfl (by kernel_rfl) i3 hS ?_
   refine a_p 11 tK rfl rfl rfl rfl (by kernel_rfl) i3 hS ?_
   refine a_ixO 12 tK hd (gE hk0) rfl rfl rfl (by omega) rfl rfl rfl rfl rfl rfl (by kernel_rfl) i4 hS ?_
   intro ibq4 iuq4 hobq4 hrq4 hatq4
   obtain ⟨szq4, kvq4, rfl, hyq4⟩ := fld_open hrq4
   replace hatq4 : OAt _ _ _ [.string l3[k].name, .int .u8 l3[k].ty.op, .string l3[k].ty.name, .int .i64 l3[k].ty.n, kvq4] := hatq4
   refine a_all [9, 13] (by kernel_rfl) rfl (all_cons (i := 9) rfl ?_ (all_cons (i := 13) rfl ?_ all_nil))
   ·refine oL tK (fun j v hv => hatq3.cell j v hv) rfl rfl rfl rfl rfl rfl ?_
    refine ⟨hS, ?_⟩
    refine a_one 13 rfl (by kernel_rfl) (oL tK (fun j v hv => hatq4.cell j v hv) rfl rfl rfl rfl rfl rfl ?_)
    refine ⟨hS, ?_⟩
    refine a_ixO 14 tK hd (gE hk0) rfl rfl rfl (by omega) rfl rfl rfl rfl rfl rfl (by kernel_rfl) i4 hS ?_
    intro ibq5 iuq5 hobq5 hrq5 hatq5
    obtain ⟨szq5, kvq5, rfl, hyq5⟩ := fld_open hrq5
    replace hatq5 : OAt _ _ _ [.string l3[k].name, .int .u8 l3[k].ty.op, .string l3[k].ty.name, .int .i64 l3[k].ty.n, kvq5] := hatq5
    refine a_one 15 rfl (by kernel_rfl) (o_stO tK hd hobq5 (by first | omega | (simp; omega)) hrq3 Lw rfl rfl rfl rfl rfl rfl ?_)
    intro w7 hw7 sw7 frw7
    replace hF : ∀ x, x < w.heap.size → some x ≠ (v : Value).ownBlock → w7.heap[x]? = w.heap[x]? := fun x hx hn => (frw7 x (lT hx hT.upd.1) (fun e => hn (by rw [hobq5, e]))).trans (hF x hx hn)
    replace hT := hT.then sw7
    replace hrq3 := Rep.sp hrq3 sw7
    replace hrq4 := Rep.sp hrq4 sw7
    replace hrq5 := Rep.sp hrq5 sw7
    replace Lw := sw7.low
    replace hB := sw7.z hB
    refine ⟨hS, ?_⟩
    replace hd := hw7
    clear hw7
    refine a_ixO 16 tK hd (gE (by simpa using hk1)) rfl rfl rfl (by omega) rfl rfl rfl rfl rfl rfl (by kernel_rfl) i4 hS ?_
    intro ibq6 iuq6 hobq6 hrq6 hatq6
    refine a_one 17 rfl (by kernel_rfl) (o_stO tK hd hobq6 (by first | omega | (simp; omega)) hrq4 Lw rfl rfl rfl rfl rfl rfl ?_)
    intro w8 hw8 sw8 frw8
    replace hF : ∀ x, x < w.heap.size → some x ≠ (v : Value).ownBlock → w8.heap[x]? = w.heap[x]? := fun x hx hn => (frw8 x (lT hx hT.upd.1) (fun e => hn (by rw [hobq6, e]))).trans (hF x hx hn)
    replace hT := hT.then sw8
    replace hrq3 := Rep.sp hrq3 sw8
    replace hrq4 := Rep.sp hrq4 sw8
    replace hrq5 := Rep.sp hrq5 sw8
    replace Lw := sw8.low
    replace hB := sw8.z hB
    refine ⟨hS, ?_⟩
    replace hd := hw8
    clear hw8
    refine a_end (by kernel_rfl) ?_
    refine x_blk (xS (cG (lP 1 tK rfl ?_)))
    refine lC (o_ai rfl rfl rfl (by omega) rfl rfl ?_)
    refine lP 1 tK rfl (lN ?_)
    exact xN (k + 1) (((l3.set k l3[k + 1]).set (k + 1) l3[k])) (s7 rfl rfl rfl rfl rfl rfl (gN rfl (by omega))) ⟨by omega, by omega, by rw [List.set_comm _ _ (by omega)]; exact runF_step hrn (by omega) hak (by omega) hk1, hrg.trans (by rw [List.set_comm _ _ (by omega)]; exact swap_rng hk1 hne (by omega) (by omega)), hd, Lw, hB, hT, hF⟩ (by omega)
   refine oL tK (fun j v hv => hatq4.cell j v hv) rfl rfl rfl rfl rfl rfl ?_
   refine ⟨hS, ?_⟩
   refine a_one 9 rfl (by kernel_rfl) (oL tK (fun j v hv => hatq3.cell j v hv) rfl rfl rfl rfl rfl rfl ?_)
   refine ⟨hS, ?_⟩
   refine a_ixO 14 tK hd (gE (by simpa using hk0)) rfl rfl rfl (by omega) rfl rfl rfl rfl rfl rfl (by kernel_rfl) i4 hS ?_
   intro ibq7 iuq7 hobq7 hrq7 hatq7
   refine a_one 15 rfl (by kernel_rfl) (o_stO tK hd hobq7 (by first | omega | (simp; omega)) hrq3 Lw rfl rfl rfl rfl rfl rfl ?_)
   intro w9 hw9 sw9 frw9
   replace hF : ∀ x, x < w.heap.size → some x ≠ (v : Value).ownBlock → w9.heap[x]? = w.heap[x]? := fun x hx hn => (frw9 x (lT hx hT.upd.1) (fun e => hn (by rw [hobq7, e]))).trans (hF x hx hn)
   replace hT := hT.then sw9
   replace hrq3 := Rep.sp hrq3 sw9
   replace hrq4 := Rep.sp hrq4 sw9
   replace Lw := sw9.low
   replace hB := sw9.z hB
   refine ⟨hS, ?_⟩
   replace hd := hw9
   clear hw9
   refine a_ixO 16 tK hd (gE (by simpa using hk1)) rfl rfl rfl (by omega) rfl rfl rfl rfl rfl rfl (by kernel_rfl) i4 hS ?_
   intro ibq8 iuq8 hobq8 hrq8 hatq8
   refine a_one 17 rfl (by kernel_rfl) (o_stO tK hd hobq8 (by first | omega | (simp; omega)) hrq4 Lw rfl rfl rfl rfl rfl rfl ?_)
   intro w10 hw10 sw10 frw10
   replace hF : ∀ x, x < w.heap.size → some x ≠ (v : Value).ownBlock → w10.heap[x]? = w.heap[x]? := fun x hx hn => (frw10 x (lT hx hT.upd.1) (fun e => hn (by rw [hobq8, e]))).trans (hF x hx hn)
   replace hT := hT.then sw10
   replace hrq3 := Rep.sp hrq3 sw10
   replace hrq4 := Rep.sp hrq4 sw10
   replace Lw := sw10.low
   replace hB := sw10.z hB
   refine ⟨hS, ?_⟩
   replace hd := hw10
   clear hw10
   refine a_end (by kernel_rfl) ?_
   refine x_blk (xS (cG (lP 1 tK rfl ?_)))
   refine lC (o_ai rfl rfl rfl (by omega) rfl rfl ?_)
   refine lP 1 tK rfl (lN ?_)
   exact xN (k + 1) (((l3.set k l3[k + 1]).set (k + 1) l3[k])) (s7 rfl rfl rfl rfl rfl rfl (gN rfl (by omega))) ⟨by omega, by omega, by rw [List.set_comm _ _ (by omega)]; exact runF_step hrn (by omega) hak (by omega) hk1, hrg.trans (by rw [List.set_comm _ _ (by omega)]; exact swap_rng hk1 hne (by omega) (by omega)), hd, Lw, hB, hT, hF⟩ (by omega)
  refine c_exit (xE (xE (x_blkE (xS (cR (xR ?_))))))
  refine x_ret0 rfl ?_
  exact ⟨rfl, ⟨l3, hd, hrg, runF_end hrn (by omega)⟩, hT, hF⟩
 refine cK (xS (cS (q0 (lP 2 tK rfl ?_))))
 refine lC (o_ai rfl rfl rfl (by omega) rfl rfl ?_)
 refine lP 1 tK rfl (q1 ?_)
 refine cP _ rfl (fun hc80 => ?_) (fun hc80 => ?_)
 ·refine q0 (lP 2 tK rfl (q1 (q0 (lP 2 tK rfl (q1 (cS (cB ?_)))))))
  obtain rfl : b = m + 1 := by omega
  refine c_loop2 (X := Nat) (Y := Nat) (fun i j => [(0, v), (1, .int .i64 (a : Int)), (2, .int .i64 (m : Int)), (3, .int .i64 ((m + 1 : Nat) : Int)), (4, .func (.func 115) #[] #[]), (14, .int .i64 (i : Nat)), (15, .int .i64 (j : Nat))]) (fun i j w' => a ≤ i ∧ i ≤ j ∧ j ≤ m ∧ FindB l a m i j ∧ OwnSl 125 B M w' v l ∧ Low M w' ∧ B ≤ w'.heap.size ∧ Stp B M M w w' ∧ (∀ x, x < w.heap.size → some x ≠ (v : Value).ownBlock → w'.heap[x]? = w.heap[x]?)) (fun i j => j - i) (a) (m) (s7 rfl rfl rfl rfl rfl rfl rfl) ?_ ?_
  ·exact ⟨lR _, by omega, lR _, FindB.start _ _ _, hd, Lw, hB, hT, hF⟩
  rintro i j w11 ⟨hi, hij, hj, hfd, hd, Lw, hB, hT, hF⟩
  refine cS (q0 (lP 3 tK rfl (q1 ?_)))
  refine cP _ rfl (fun hc85 => ?_) (fun hc85 => ?_)
  ·refine cK (xS (cB (q0 (lP 2 tK rfl ?_))))
   refine lC (o_ai rfl rfl rfl (by omega) rfl rfl ?_)
   refine lC (o_conv tK rfl rfl rfl rfl rfl (IntWalk.u64_in _ (by omega)) rfl rfl ?_)
   refine lC (o_half (y := (((i + j) / 2 : Nat) : Int)) rfl rfl (by omega) (by omega) rfl rfl ?_)
   refine lC (o_conv (y := (((i + j) / 2 : Nat) : Int)) tK rfl rfl rfl rfl rfl (IntWalk.i64_in _ (by omega)) rfl rfl ?_)
   have hh : (i + j) / 2 < l.length := by omega
   have hm1 : m < l.length := by omega
   refine lP 1 tK rfl (q1 (cS ?_))
   refine a_beg (fun _ _ => True) rfl ?_
   intro w12 ew12
   replace hF : ∀ x, x < w.heap.size → some x ≠ (v : Value).ownBlock → w12.heap[x]? = w.heap[x]? := fun x hx hn => (ew12.block x (lT hx hT.upd.1)).trans (hF x hx hn)
   replace hT := hT.then (Stp.Y ew12 Lw hB)
   replace hd := hd.Y Lw hB ew12
   replace Lw := Lw.Y ew12
   replace hB := ew12.z hB
   have hS : True := trivial
   refine a_p 0 tK rfl rfl rfl rfl (by kernel_rfl) i3 hS ?_
   refine a_p 1 tK rfl rfl rfl rfl (by kernel_rfl) i3 hS ?_
   refine a_p 2 tK rfl rfl rfl rfl (by kernel_rfl) i3 hS ?_
   refine a_ixO 3 tK hd (gE hm1) rfl rfl rfl (by omega) rfl rfl rfl rfl rfl rfl (by kernel_rfl) i4 hS ?_
   intro ibq9 iuq9 hobq9 hrq9 hatq9
   obtain ⟨szq9, kvq9, rfl, hyq9⟩ := fld_open hrq9
   replace hatq9 : OAt _ _ _ [.string l[m].name, .int .u8 l[m].ty.op, .string l[m].ty.name, .int .i64 l[m].ty.n, kvq9] := hatq9
   refine a_p 5 tK rfl rfl rfl rfl (by kernel_rfl) i3 hS ?_
   refine a_p 6 tK rfl rfl rfl rfl (by kernel_rfl) i3 hS ?_
   refine a_ixO 7 tK hd (gE hh) rfl rfl rfl (by omega) rfl rfl rfl rfl rfl rfl (by kernel_rfl) i4 hS ?_
   intro ibq10 iuq10 hobq10 hrq10 hatq10
   obtain ⟨szq10, kvq10, rfl, hyq10⟩ := fld_open hrq10
   replace hatq10 : OAt _ _ _ [.string l[(i + j) / 2].name, .int .u8 l[(i + j) / 2].ty.op, .string l[(i + j) / 2].ty.name, .int .i64 l[(i + j) / 2].ty.n, kvq10] := hatq10
   refine a_all [4, 8] (by kernel_rfl) rfl (all_cons (i := 4) rfl ?_ (all_cons (i := 8) rfl ?_ all_nil))
   ·refine oL tK (fun j v hv => hatq9.cell j v hv) rfl rfl rfl rfl rfl rfl ?_
    refine ⟨hS, ?_⟩
    refine a_one 8 rfl (by kernel_rfl) (oL tK (fun j v hv => hatq10.cell j v hv) rfl rfl rfl rfl rfl rfl ?_)
    refine ⟨hS, ?_⟩
    refine a_one 9 rfl (by kernel_rfl) (o_dyn rfl fo115 rfl rfl rfl (byName_spec M _ _ _ _ _ hrq9 hrq10 Lw) ?_)
    rintro _ w13 ⟨rfl, ew13⟩
    replace hF : ∀ x, x < w.heap.size → some x ≠ (v : Value).ownBlock → w13.heap[x]? = w.heap[x]? := fun x hx hn => (ew13.block x (lT hx hT.upd.1)).trans (hF x hx hn)
    replace hT := hT.then (Stp.Y ew13 Lw hB)
    replace hd := hd.Y Lw hB ew13
    replace hrq9 := Rep.Y hrq9 ew13
    replace hrq10 := Rep.Y hrq10 ew13
    replace Lw := Lw.Y ew13
    replace hB := ew13.z hB
    refine ⟨hS, ?_⟩
    refine a_p 10 tK rfl rfl rfl rfl (by kernel_rfl) i3 hS ?_
    refine a_p 11 tK rfl rfl rfl rfl (by kernel_rfl) i3 hS ?_
    refine a_end (by kernel_rfl) ?_
    refine xS ?_
    refine c_ifN _ rfl (fun hlt => ?_) (fun hlt => ?_)
    ·refine cG (lP 1 tK rfl ?_)
     refine lC (o_ai rfl rfl rfl (by omega) rfl rfl ?_)
     refine lP 1 tK rfl (q2 ?_)
     exact xN ((i + j) / 2 + 1) (j) (s7 rfl rfl rfl rfl rfl (gN rfl (by omega)) rfl) ⟨by omega, by omega, hj, hfd.up (by omega) hh hm1 hlt, hd, Lw, hB, hT, hF⟩ (by omega)
    refine cG (lP 2 tK rfl (q2 ?_))
    exact xN (i) ((i + j) / 2) (s7 rfl rfl rfl rfl rfl rfl rfl) ⟨hi, by omega, by omega, hfd.down (by omega) hh hm1 hlt, hd, Lw, hB, hT, hF⟩ (by omega)
   refine oL tK (fun j v hv => hatq10.cell j v hv) rfl rfl rfl rfl rfl rfl ?_
   refine ⟨hS, ?_⟩
   refine a_one 4 rfl (by kernel_rfl) (oL tK (fun j v hv => hatq9.cell j v hv) rfl rfl rfl rfl rfl rfl ?_)
   refine ⟨hS, ?_⟩
   refine a_one 9 rfl (by kernel_rfl) (o_dyn rfl fo115 rfl rfl rfl (byName_spec M _ _ _ _ _ hrq9 hrq10 Lw) ?_)
   rintro _ w14 ⟨rfl, ew14⟩
   replace hF : ∀ x, x < w.heap.size → some x ≠ (v : Value).ownBlock → w14.heap[x]? = w.heap[x]? := fun x hx hn => (ew14.block x (lT hx hT.upd.1)).trans (hF x hx hn)
   replace hT := hT.then (Stp.Y ew14 Lw hB)
   replace hd := hd.Y Lw hB ew14
   replace hrq9 := Rep.Y hrq9 ew14
   replace hrq10 := Rep.Y hrq10 ew14
   replace Lw := Lw.Y ew14
   replace hB := ew14.z hB
   refine ⟨hS, ?_⟩
   refine a_p 10 tK rfl rfl rfl rfl (by kernel_rfl) i3 hS ?_
   refine a_p 11 tK rfl rfl rfl rfl (by kernel_rfl) i3 hS ?_
   refine a_end (by kernel_rfl) ?_
   refine xS ?_
   refine c_ifN _ rfl (fun hlt => ?_) (fun hlt => ?_)
   ·refine cG (lP 1 tK rfl ?_)
    refine lC (o_ai rfl rfl rfl (by omega) rfl rfl ?_)
    refine lP 1 tK rfl (q2 ?_)
    exact xN ((i + j) / 2 + 1) (j) (s7 rfl rfl rfl rfl rfl (gN rfl (by omega)) rfl) ⟨by omega, by omega, hj, hfd.up (by omega) hh hm1 hlt, hd, Lw, hB, hT, hF⟩ (by omega)
   refine cG (lP 2 tK rfl (q2 ?_))
   exact xN (i) ((i + j) / 2) (s7 rfl rfl rfl rfl rfl rfl rfl) ⟨hi, by omega, by omega, hfd.down (by omega) hh hm1 hlt, hd, Lw, hB, hT, hF⟩ (by omega)
  refine c_exit (xE (xE (x_blkE (xS (cS (q0 (lP 2 tK rfl (q1 (cB ?_)))))))))
  have hrun := hfd.run (by omega) hij hs1 (by omega) hi hj
  refine c_loop2 (X := Nat) (Y := List Fld) (fun k l' => [(0, v), (1, .int .i64 (a : Int)), (2, .int .i64 (m : Int)), (3, .int .i64 ((m + 1 : Nat) : Int)), (4, .func (.func 115) #[] #[]), (14, .int .i64 (i : Nat)), (17, .int .i64 (k : Nat))]) (fun k l' w' => i ≤ k ∧ k ≤ m ∧ RunB l' a k i (m + 1) ∧ Rng l l' a (m + 1) ∧ OwnSl 125 B M w' v l' ∧ Low M w' ∧ B ≤ w'.heap.size ∧ Stp B M M w w' ∧ (∀ x, x < w.heap.size → some x ≠ (v : Value).ownBlock → w'.heap[x]? = w.heap[x]?)) (fun k l' => k) (m) (l) (s7 rfl rfl rfl rfl rfl rfl rfl) ?_ ?_
  ·exact ⟨by omega, lR _, hrun, Rng.refl _ _ _, hd, Lw, hB, hT, hF⟩
  rintro k l3 w15 ⟨hik, hkm, hrn, hrg, hd, Lw, hB, hT, hF⟩
  refine cS (q0 (lP 3 tK rfl (q1 ?_)))
  refine cP _ rfl (fun hc110 => ?_) (fun hc110 => ?_)
  ·obtain ⟨k0, rfl⟩ : ∃ k0, k = k0 + 1 := ⟨k - 1, by omega⟩
   have hlen3 := hrg.len
   have hk1 : k0 + 1 < l3.length := by omega
   have hk0 : k0 < l3.length := by omega
   have hne : l3[k0].name ≠ l3[k0 + 1].name := fun e => by
    have := hrn.mid k0 l3[k0] l3[k0 + 1] (by omega) (by omega) (gE hk0) (gE hk1)
    rw [e, show cmpN l3[k0 + 1].name l3[k0 + 1].name = 0 from cmpN_eq.2 rfl] at this
    omega
   refine cK (xS (cS (cB ?_)))
   refine a_beg (fun _ _ => True) rfl ?_
   intro w16 ew16
   replace hF : ∀ x, x < w.heap.size → some x ≠ (v : Value).ownBlock → w16.heap[x]? = w.heap[x]? := fun x hx hn => (ew16.block x (lT hx hT.upd.1)).trans (hF x hx hn)
   replace hT := hT.then (Stp.Y ew16 Lw hB)
   replace hd := hd.Y Lw hB ew16
   replace Lw := Lw.Y ew16
   replace hB := ew16.z hB
   have hS : True := trivial
   refine a_p 0 tK rfl rfl rfl rfl (by kernel_rfl) i3 hS ?_
   refine a_p 1 tK rfl rfl rfl rfl (by kernel_rfl) i3 hS ?_
   refine a_p 2 tK rfl rfl rfl rfl (by kernel_rfl) i3 hS ?_
   refine a_p 3 tK rfl rfl rfl rfl (by kernel_rfl) i3 hS ?_
   refine a_ar 4 rfl rfl rfl rfl (IntWalk.i64_in _ (by omega)) rfl rfl (by kernel_rfl) i3 hS ?_
   refine a_p 5 tK rfl rfl rfl rfl (by kernel_rfl) i3 hS ?_
   refine a_p 6 tK rfl rfl rfl rfl (by kernel_rfl) i3 hS ?_
   refine a_ar 7 rfl rfl rfl rfl (IntWalk.i64_in _ (by omega)) rfl rfl (by kernel_rfl) i3 hS ?_
   refine a_ixO 8 tK hd (gE hk0) rfl rfl rfl (by omega) rfl rfl rfl rfl rfl rfl (by kernel_rfl) i4 hS ?_
   intro ibq11 iuq11 hobq11 hrq11 hatq11
   obtain ⟨szq11, kvq11, rfl, hyq11⟩ := fld_open hrq11
   replace hatq11 : OAt _ _ _ [.string l3[k0].name, .int .u8 l3[k0].ty.op, .string l3[k0].ty.name, .int .i64 l3[k0].ty.n, kvq11] := hatq11
   refine a_p 10 tK rfl rfl rfl rfl (by kernel_rfl) i3 hS ?_
   refine a_p 11 tK rfl rfl rfl rfl (by kernel_rfl) i3 hS ?_
   refine a_ixO 12 tK hd (gE hk1) rfl rfl rfl (by omega) rfl rfl rfl rfl rfl rfl (by kernel_rfl) i4 hS ?_
   intro ibq12 iuq12 hobq12 hrq12 hatq12
   obtain ⟨szq12, kvq12, rfl, hyq12⟩ := fld_open hrq12
   replace hatq12 : OAt _ _ _ [.string l3[k0 + 1].name, .int .u8 l3[k0 + 1].ty.op, .string l3[k0 + 1].ty.name, .int .i64 l3[k0 + 1].ty.n, kvq12] := hatq12
   refine a_all [9, 13] (by kernel_rfl) rfl (all_cons (i := 9) rfl ?_ (all_cons (i := 13) rfl ?_ all_nil))
   ·refine oL tK (fun j v hv => hatq11.cell j v hv) rfl rfl rfl rfl rfl rfl ?_
    refine ⟨hS, ?_⟩
    refine a_one 13 rfl (by kernel_rfl) (oL tK (fun j v hv => hatq12.cell j v hv) rfl rfl rfl rfl rfl rfl ?_)
    refine ⟨hS, ?_⟩
    refine a_ixO 14 tK hd (gE hk1) rfl rfl rfl (by omega) rfl rfl rfl rfl rfl rfl (by kernel_rfl) i4 hS ?_
    intro ibq13 iuq13 hobq13 hrq13 hatq13
    obtain ⟨szq13, kvq13, rfl, hyq13⟩ := fld_open hrq13
    replace hatq13 : OAt _ _ _ [.string l3[k0 + 1].name, .int .u8 l3[k0 + 1].ty.op, .string l3[k0 + 1].ty.name, .int .i64 l3[k0 + 1].ty.n, kvq13] := hatq13
    refine a_one 15 rfl (by kernel_rfl) (o_stO tK hd hobq13 (by first | omega | (simp; omega)) hrq11 Lw rfl rfl rfl rfl rfl rfl ?_)
    intro w17 hw17 sw17 frw17
    replace hF : ∀ x, x < w.heap.size → some x ≠ (v : Value).ownBlock → w17.heap[x]? = w.heap[x]? := fun x hx hn => (frw17 x (lT hx hT.upd.1) (fun e => hn (by rw [hobq13, e]))).trans (hF x hx hn)
    replace hT := hT.then sw17
    replace hrq11 := Rep.sp hrq11 sw17
    replace hrq12 := Rep.sp hrq12 sw17
    replace hrq13 := Rep.sp hrq13 sw17
    replace Lw := sw17.low
    replace hB := sw17.z hB
    refine ⟨hS, ?_⟩
    replace hd := hw17
    clear hw17
    refine a_ixO 16 tK hd (gE (by simpa using hk0)) rfl rfl rfl (by omega) rfl rfl rfl rfl rfl rfl (by kernel_rfl) i4 hS ?_
    intro ibq14 iuq14 hobq14 hrq14 hatq14
    refine a_one 17 rfl (by kernel_rfl) (o_stO tK hd hobq14 (by first | omega | (simp; omega)) hrq12 Lw rfl rfl rfl rfl rfl rfl ?_)
    intro w18 hw18 sw18 frw18
    replace hF : ∀ x, x < w.heap.size → some x ≠ (v : Value).ownBlock → w18.heap[x]? = w.heap[x]? := fun x hx hn => (frw18 x (lT hx hT.upd.1) (fun e => hn (by rw [hobq14, e]))).trans (hF x hx hn)
    replace hT := hT.then sw18
    replace hrq11 := Rep.sp hrq11 sw18
    replace hrq12 := Rep.sp hrq12 sw18
    replace hrq13 := Rep.sp hrq13 sw18
    replace Lw := sw18.low
    replace hB := sw18.z hB
    refine ⟨hS, ?_⟩
    replace hd := hw18
    clear hw18
    refine a_end (by kernel_rfl) ?_
    refine x_blk (xS (cG (lP 1 tK rfl ?_)))
    refine lC (o_ai rfl rfl rfl (by omega) rfl rfl ?_)
    refine lP 1 tK rfl (lN ?_)
    exact xN (k0) (((l3.set (k0 + 1) l3[k0]).set k0 l3[k0 + 1])) (s7 rfl rfl rfl rfl rfl rfl (gN rfl (by omega))) ⟨by omega, by omega, runB_step hrn (by omega) hi (by omega) hk1, hrg.trans (swap_rng hk1 hne (by omega) (by omega)), hd, Lw, hB, hT, hF⟩ (by omega)
   refine oL tK (fun j v hv => hatq12.cell j v hv) rfl rfl rfl rfl rfl rfl ?_
   refine ⟨hS, ?_⟩
   refine a_one 9 rfl (by kernel_rfl) (oL tK (fun j v hv => hatq11.cell j v hv) rfl rfl rfl rfl rfl rfl ?_)
   refine ⟨hS, ?_⟩
   refine a_ixO 14 tK hd (gE (by simpa using hk1)) rfl rfl rfl (by omega) rfl rfl rfl rfl rfl rfl (by kernel_rfl) i4 hS ?_
   intro ibq15 iuq15 hobq15 hrq15 hatq15
   refine a_one 15 rfl (by kernel_rfl) (o_stO tK hd hobq15 (by first | omega | (simp; omega)) hrq11 Lw rfl rfl rfl rfl rfl rfl ?_)
   intro w19 hw19 sw19 frw19
   replace hF : ∀ x, x < w.heap.size → some x ≠ (v : Value).ownBlock → w19.heap[x]? = w.heap[x]? := fun x hx hn => (frw19 x (lT hx hT.upd.1) (fun e => hn (by rw [hobq15, e]))).trans (hF x hx hn)
   replace hT := hT.then sw19
   replace hrq11 := Rep.sp hrq11 sw19
   replace hrq12 := Rep.sp hrq12 sw19
   replace Lw := sw19.low
   replace hB := sw19.z hB
   refine ⟨hS, ?_⟩
   replace hd := hw19
   clear hw19
   refine a_ixO 16 tK hd (gE (by simpa using hk0)) rfl rfl rfl (by omega) rfl rfl rfl rfl rfl rfl (by kernel_rfl) i4 hS ?_
   intro ibq16 iuq16 hobq16 hrq16 hatq16
   refine a_one 17 rfl (by kernel_rfl) (o_stO tK hd hobq16 (by first | omega | (simp; omega)) hrq12 Lw rfl rfl rfl rfl rfl rfl ?_)
   intro w20 hw20 sw20 frw20
   replace hF : ∀ x, x < w.heap.size → some x ≠ (v : Value).ownBlock → w20.heap[x]? = w.heap[x]? := fun x hx hn => (frw20 x (lT hx hT.upd.1) (fun e => hn (by rw [hobq16, e]))).trans (hF x hx hn)
   replace hT := hT.then sw20
   replace hrq11 := Rep.sp hrq11 sw20
   replace hrq12 := Rep.sp hrq12 sw20
   replace Lw := sw20.low
   replace hB := sw20.z hB
   refine ⟨hS, ?_⟩
   replace hd := hw20
   clear hw20
   refine a_end (by kernel_rfl) ?_
   refine x_blk (xS (cG (lP 1 tK rfl ?_)))
   refine lC (o_ai rfl rfl rfl (by omega) rfl rfl ?_)
   refine lP 1 tK rfl (lN ?_)
   exact xN (k0) (((l3.set (k0 + 1) l3[k0]).set k0 l3[k0 + 1])) (s7 rfl rfl rfl rfl rfl rfl (gN rfl (by omega))) ⟨by omega, by omega, runB_step hrn (by omega) hi (by omega) hk1, hrg.trans (swap_rng hk1 hne (by omega) (by omega)), hd, Lw, hB, hT, hF⟩ (by omega)
  refine c_exit (xE (xE (x_blkE (xS (cR (xR ?_))))))
  refine x_ret0 rfl ?_
  exact ⟨rfl, ⟨l3, hd, hrg, runB_end hrn (by omega)⟩, hT, hF⟩
 refine cK (xS (q0 (lP 2 tK rfl ?_)))
 refine lC (o_ai rfl rfl rfl (by omega) rfl rfl ?_)
 refine lC (o_conv tK rfl rfl rfl rfl rfl (IntWalk.u64_in _ (by omega)) rfl rfl ?_)
 refine lC (o_half (y := (((a + b) / 2 : Nat) : Int)) rfl rfl (by omega) (by omega) rfl rfl ?_)
 refine lC (o_conv (y := (((a + b) / 2 : Nat) : Int)) tK rfl rfl rfl rfl rfl (IntWalk.i64_in _ (by omega)) rfl rfl ?_)
 refine lP 1 tK rfl (q1 (q0 (lP 2 tK rfl ?_)))
 refine lC (o_ai rfl rfl rfl (by omega) rfl rfl ?_)
 refine lP 1 tK rfl (q1 (q0 (lP 2 tK rfl (q1 ?_))))
 refine c_cut2 (X := Nat) (Y := Nat) (fun lo0 hi0 => [(0, v), (1, .int .i64 (a : Int)), (2, .int .i64 (m : Int)), (3, .int .i64 (b : Int)), (4, .func (.func 115) #[] #[]), (18, .int .i64 (((a + b) / 2 : Nat) : Int)), (19, .int .i64 (((a + b) / 2 + m : Nat) : Int)), (20, .int .i64 (lo0 : Nat)), (21, .int .i64 (hi0 : Nat))]) (fun lo0 hi0 w' => w = w' ∧ (((a + b) / 2 < m ∧ lo0 = (a + b) / 2 + m - b ∧ hi0 = (a + b) / 2) ∨ (m ≤ (a + b) / 2 ∧ lo0 = a ∧ hi0 = m))) ?_ ?_
 ·refine q0 (lP 3 tK rfl (q1 ?_))
  refine cP _ rfl (fun hc140 => ?_) (fun hc140 => ?_)
  ·refine q0 (lP 2 tK rfl ?_)
   refine lC (o_ai rfl rfl rfl (by omega) rfl rfl ?_)
   refine lP 1 tK rfl (q1 (cG (lP 2 tK rfl (lN ?_))))
   exact x_cut2 ((a + b) / 2 + m - b) ((a + b) / 2) (s9 rfl rfl rfl rfl rfl (gN rfl (by omega)) (gN rfl (by omega)) (gN rfl (by omega)) (gN rfl (by omega))) ⟨rfl, by omega⟩
  refine q0 (lP 2 tK rfl (q1 (cG (lP 2 tK rfl (lN ?_)))))
  exact x_cut2 (a) (m) (s9 rfl rfl rfl rfl rfl (gN rfl (by omega)) (gN rfl (by omega)) (gN rfl (by omega)) (gN rfl (by omega))) ⟨rfl, by omega⟩
 rintro lo0 hi0 _ ⟨rfl, hlh⟩
 refine q0 (lP 1 tK rfl ?_)
 refine lC (o_ai rfl rfl rfl (by omega) rfl rfl ?_)
 refine lP 1 tK rfl (q1 (cS (cB ?_)))
 refine c_loop2 (X := Nat) (Y := Nat) (fun lo hi => [(0, v), (1, .int .i64 (a : Int)), (2, .int .i64 (m : Int)), (3, .int .i64 (b : Int)), (4, .func (.func 115) #[] #[]), (18, .int .i64 (((a + b) / 2 : Nat) : Int)), (19, .int .i64 (((a + b) / 2 + m : Nat) : Int)), (20, .int .i64 (lo : Nat)), (21, .int .i64 (hi : Nat)), (22, .int .i64 (((a + b) / 2 + m - 1 : Nat) : Int))]) (fun lo hi w' => lo0 ≤ lo ∧ lo ≤ hi ∧ hi ≤ hi0 ∧ Cut l ((a + b) / 2 + m) lo0 hi0 lo hi ∧ OwnSl 125 B M w' v l ∧ Low M w' ∧ B ≤ w'.heap.size ∧ Stp B M M w w' ∧ (∀ x, x < w.heap.size → some x ≠ (v : Value).ownBlock → w'.heap[x]? = w.heap[x]?)) (fun lo hi => hi - lo) (lo0) (hi0) (s10 rfl rfl rfl rfl rfl rfl rfl rfl rfl (gN rfl (by omega))) ?_ ?_
 ·exact ⟨lR _, by omega, lR _, Cut.start _ _ _ _, hd, Lw, hB, hT, hF⟩
 rintro lo hi w21 ⟨hlo, hle, hhi, hcut, hd, Lw, hB, hT, hF⟩
 refine cS (q0 (lP 3 tK rfl (q1 ?_)))
 refine cP _ rfl (fun hc151 => ?_) (fun hc151 => ?_)
 ·refine cK (xS (cB (q0 (lP 2 tK rfl ?_))))
  refine lC (o_ai rfl rfl rfl (by omega) rfl rfl ?_)
  refine lC (o_conv tK rfl rfl rfl rfl rfl (IntWalk.u64_in _ (by omega)) rfl rfl ?_)
  refine lC (o_half (y := (((lo + hi) / 2 : Nat) : Int)) rfl rfl (by omega) (by omega) rfl rfl ?_)
  refine lC (o_conv (y := (((lo + hi) / 2 : Nat) : Int)) tK rfl rfl rfl rfl rfl (IntWalk.i64_in _ (by omega)) rfl rfl ?_)
  have hh : (lo + hi) / 2 < l.length := by omega
  have hp : (a + b) / 2 + m - 1 - (lo + hi) / 2 < l.length := by omega
  refine lP 1 tK rfl (q1 (cS ?_))
  refine a_beg (fun _ _ => True) rfl ?_
  intro w22 ew22
  replace hF : ∀ x, x < w.heap.size → some x ≠ (v : Value).ownBlock → w22.heap[x]? = w.heap[x]? := fun x hx hn => (ew22.block x (lT hx hT.upd.1)).trans (hF x hx hn)
  replace hT := hT.then (Stp.Y ew22 Lw hB)
  replace hd := hd.Y Lw hB ew22
  replace Lw := Lw.Y ew22
  replace hB := ew22.z hB
  have hS : True := trivial
  refine a_p 0 tK rfl rfl rfl rfl (by kernel_rfl) i3 hS ?_
  refine a_p 1 tK rfl rfl rfl rfl (by kernel_rfl) i3 hS ?_
  refine a_p 2 tK rfl rfl rfl rfl (by kernel_rfl) i3 hS ?_
  refine a_p 3 tK rfl rfl rfl rfl (by kernel_rfl) i3 hS ?_
  refine a_ar 4 rfl rfl rfl rfl (IntWalk.i64_in _ (by omega)) rfl rfl (by kernel_rfl) i3 hS ?_
  refine a_ixO 5 tK hd (gE hp) rfl rfl rfl (by omega) rfl rfl rfl rfl rfl rfl (by kernel_rfl) i4 hS ?_
  intro ibq17 iuq17 hobq17 hrq17 hatq17
  obtain ⟨szq17, kvq17, rfl, hyq17⟩ := fld_open hrq17
  replace hatq17 : OAt _ _ _ [.string l[(a + b) / 2 + m - 1 - (lo + hi) / 2].name, .int .u8 l[(a + b) / 2 + m - 1 - (lo + hi) / 2].ty.op, .string l[(a + b) / 2 + m - 1 - (lo + hi) / 2].ty.name, .int .i64 l[(a + b) / 2 + m - 1 - (lo + hi) / 2].ty.n, kvq17] := hatq17
  refine a_p 7 tK rfl rfl rfl rfl (by kernel_rfl) i3 hS ?_
  refine a_p 8 tK rfl rfl rfl rfl (by kernel_rfl) i3 hS ?_
  refine a_ixO 9 tK hd (gE hh) rfl rfl rfl (by omega) rfl rfl rfl rfl rfl rfl (by kernel_rfl) i4 hS ?_
  intro ibq18 iuq18 hobq18 hrq18 hatq18
  obtain ⟨szq18, kvq18, rfl, hyq18⟩ := fld_open hrq18
  replace hatq18 : OAt _ _ _ [.string l[(lo + hi) / 2].name, .int .u8 l[(lo + hi) / 2].ty.op, .string l[(lo + hi) / 2].ty.name, .int .i64 l[(lo + hi) / 2].ty.n, kvq18] := hatq18
  refine a_all [6, 10] (by kernel_rfl) rfl (all_cons (i := 6) rfl ?_ (all_cons (i := 10) rfl ?_ all_nil))
  ·refine oL tK (fun j v hv => hatq17.cell j v hv) rfl rfl rfl rfl rfl rfl ?_
   refine ⟨hS, ?_⟩
   refine a_one 10 rfl (by kernel_rfl) (oL tK (fun j v hv => hatq18.cell j v hv) rfl rfl rfl rfl rfl rfl ?_)
   refine ⟨hS, ?_⟩
   refine a_one 11 rfl (by kernel_rfl) (o_dyn rfl fo115 rfl rfl rfl (byName_spec M _ _ _ _ _ hrq17 hrq18 Lw) ?_)
   rintro _ w23 ⟨rfl, ew23⟩
   replace hF : ∀ x, x < w.heap.size → some x ≠ (v : Value).ownBlock → w23.heap[x]? = w.heap[x]? := fun x hx hn => (ew23.block x (lT hx hT.upd.1)).trans (hF x hx hn)
   replace hT := hT.then (Stp.Y ew23 Lw hB)
   replace hd := hd.Y Lw hB ew23
   replace hrq17 := Rep.Y hrq17 ew23
   replace hrq18 := Rep.Y hrq18 ew23
   replace Lw := Lw.Y ew23
   replace hB := ew23.z hB
   refine ⟨hS, ?_⟩
   refine a_p 12 tK rfl rfl rfl rfl (by kernel_rfl) i3 hS ?_
   refine a_p 13 tK rfl rfl rfl rfl (by kernel_rfl) i3 hS ?_
   refine a_end (by kernel_rfl) ?_
   refine xS ?_
   refine c_ifN _ rfl (fun hlt => ?_) (fun hlt => ?_)
   ·refine cG (lP 1 tK rfl ?_)
    refine lC (o_ai rfl rfl rfl (by omega) rfl rfl ?_)
    refine lP 1 tK rfl (q2 ?_)
    exact xN ((lo + hi) / 2 + 1) (hi) (s10 rfl rfl rfl rfl rfl rfl rfl (gN rfl (by omega)) rfl rfl) ⟨by omega, by omega, hhi, hcut.up (by omega) hh hp hlt, hd, Lw, hB, hT, hF⟩ (by omega)
   refine cG (lP 2 tK rfl (q2 ?_))
   exact xN (lo) ((lo + hi) / 2) (s10 rfl rfl rfl rfl rfl rfl rfl rfl rfl rfl) ⟨hlo, by omega, by omega, hcut.down (by omega) hh hp hlt, hd, Lw, hB, hT, hF⟩ (by omega)
  refine oL tK (fun j v hv => hatq18.cell j v hv) rfl rfl rfl rfl rfl rfl ?_
  refine ⟨hS, ?_⟩
  refine a_one 6 rfl (by kernel_rfl) (oL tK (fun j v hv => hatq17.cell j v hv) rfl rfl rfl rfl rfl rfl ?_)
  refine ⟨hS, ?_⟩
  refine a_one 11 rfl (by kernel_rfl) (o_dyn rfl fo115 rfl rfl rfl (byName_spec M _ _ _ _ _ hrq17 hrq18 Lw) ?_)
  rintro _ w24 ⟨rfl, ew24⟩
  replace hF : ∀ x, x < w.heap.size → some x ≠ (v : Value).ownBlock → w24.heap[x]? = w.heap[x]? := fun x hx hn => (ew24.block x (lT hx hT.upd.1)).trans (hF x hx hn)
  replace hT := hT.then (Stp.Y ew24 Lw hB)
  replace hd := hd.Y Lw hB ew24
  replace hrq17 := Rep.Y hrq17 ew24
  replace hrq18 := Rep.Y hrq18 ew24
  replace Lw := Lw.Y ew24
  replace hB := ew24.z hB
  refine ⟨hS, ?_⟩
  refine a_p 12 tK rfl rfl rfl rfl (by kernel_rfl) i3 hS ?_
  refine a_p 13 tK rfl rfl rfl rfl (by kernel_rfl) i3 hS ?_
  refine a_end (by kernel_rfl) ?_
  refine xS ?_
  refine c_ifN _ rfl (fun hlt => ?_) (fun hlt => ?_)
  ·refine cG (lP 1 tK rfl ?_)
   refine lC (o_ai rfl rfl rfl (by omega) rfl rfl ?_)
   refine lP 1 tK rfl (q2 ?_)
   exact xN ((lo + hi) / 2 + 1) (hi) (s10 rfl rfl rfl rfl rfl rfl rfl (gN rfl (by omega)) rfl rfl) ⟨by omega, by omega, hhi, hcut.up (by omega) hh hp hlt, hd, Lw, hB, hT, hF⟩ (by omega)
  refine cG (lP 2 tK rfl (q2 ?_))
  exact xN (lo) ((lo + hi) / 2) (s10 rfl rfl rfl rfl rfl rfl rfl rfl rfl rfl) ⟨hlo, by omega, by omega, hcut.down (by omega) hh hp hlt, hd, Lw, hB, hT, hF⟩ (by omega)
 obtain rfl : lo = hi := by omega
 have hmr := mrg_of ham hmb hbl hs1 hs2 hlh hlo hhi hcut
 have z1 := hmr.sm
 have z2 := hmr.e1
 have z3 := hmr.e2
 have z4 := hmr.aS
 have z5 := hmr.smid
 refine c_exit (xE (xE (x_blkE (xS (q0 (lP 2 tK rfl ?_))))))
 refine lC (o_ai rfl rfl rfl (by omega) rfl rfl ?_)
 refine lP 1 tK rfl (q1 ?_)
 refine c_cut (X := List Fld) (fun l' => [(0, v), (1, .int .i64 (a : Int)), (2, .int .i64 (m : Int)), (3, .int .i64 (b : Int)), (4, .func (.func 115) #[] #[]), (18, .int .i64 (((a + b) / 2 : Nat) : Int)), (20, .int .i64 (lo : Nat)), (24, .int .i64 (((a + b) / 2 + m - lo : Nat) : Int))]) (fun l' w' => Rng l l' a b ∧ Four l' a lo ((a + b) / 2) ((a + b) / 2 + m - lo) b ∧ OwnSl 125 B M w' v l' ∧ Low M w' ∧ B ≤ w'.heap.size ∧ Stp B M M w w' ∧ (∀ x, x < w.heap.size → some x ≠ (v : Value).ownBlock → w'.heap[x]? = w.heap[x]?)) ?_ ?_
 ·refine q0 (lP 4 tK rfl ?_)
  refine lS 181 _ rfl (fun c1 => ?_) (fun c1 => ?_)
  ·refine lP 4 tK rfl (q1 ?_)
   refine cP _ rfl (fun c2 => ?_) (fun c2 => ?_)
   ·refine cG (lP 5 tK rfl ?_)
    refine lC (oK fo125 rfl rfl rfl (rotate_spec M _ B v l _ _ _ lo m ((a + b) / 2 + m - lo) (by omega) (by omega) (by omega) (by omega) (by omega) (by omega) hd hl Lw hB) ?_)
    rintro _ w26 ⟨rfl, ⟨l1, hdw26, hrot⟩, sw26, frw26⟩
    replace hF : ∀ x, x < w.heap.size → some x ≠ (v : Value).ownBlock → w26.heap[x]? = w.heap[x]? := fun x hx hn => (frw26 x (lT hx hT.upd.1) hn).trans (hF x hx hn)
    replace hT := hT.then sw26
    replace Lw := sw26.low
    replace hB := sw26.z hB
    replace hd := hdw26
    refine lN ?_
    exact x_cut (l1) (s8 rfl rfl rfl rfl rfl rfl rfl (gN rfl (by omega))) ⟨(hmr.four hrot).1, (hmr.four hrot).2, hd, Lw, hB, hT, hF⟩
   refine cK ?_
   exact x_cut (l) (s8 rfl rfl rfl rfl rfl rfl rfl (gN rfl (by omega))) ⟨(hmr.four (rot_none (by omega) (by omega) (by omega))).1, (hmr.four (rot_none (by omega) (by omega) (by omega))).2, hd, Lw, hB, hT, hF⟩
  refine lP 4 tK rfl (q1 (c_ifF rfl (cK ?_)))
  exact x_cut (l) (s8 rfl rfl rfl rfl rfl rfl rfl (gN rfl (by omega))) ⟨(hmr.four (rot_none (by omega) (by omega) (by omega))).1, (hmr.four (rot_none (by omega) (by omega) (by omega))).2, hd, Lw, hB, hT, hF⟩
 rintro l1 w25 ⟨hrg, hfour, hd, Lw, hB, hT, hF⟩
 have hlen1 := hrg.len
 refine c_cut (X := List Fld) (fun l' => [(0, v), (1, .int .i64 (a : Int)), (2, .int .i64 (m : Int)), (3, .int .i64 (b : Int)), (4, .func (.func 115) #[] #[]), (18, .int .i64 (((a + b) / 2 : Nat) : Int)), (24, .int .i64 (((a + b) / 2 + m - lo : Nat) : Int))]) (fun l' w' => Rng l l' a b ∧ Four l' a ((a + b) / 2) ((a + b) / 2) ((a + b) / 2 + m - lo) b ∧ OwnSl 125 B M w' v l' ∧ Low M w' ∧ B ≤ w'.heap.size ∧ Stp B M M w w' ∧ (∀ x, x < w.heap.size → some x ≠ (v : Value).ownBlock → w'.heap[x]? = w.heap[x]?)) ?_ ?_
 ·refine q0 (lP 4 tK rfl ?_)
  refine lS 195 _ rfl (fun c3 => ?_) (fun c3 => ?_)
  ·refine lP 4 tK rfl (q1 ?_)
   refine cP _ rfl (fun c4 => ?_) (fun c4 => ?_)
   ·refine cG (lP 5 tK rfl ?_)
    refine lC (oK fo123 rfl rfl rfl (ih M _ B v l1 _ _ _ a lo ((a + b) / 2) (by omega) (by omega) (by omega) (by omega) (by omega) (by omega) (by omega) hfour.s1 hfour.s2 hd (by omega) Lw hB) ?_)
    rintro _ w28 ⟨rfl, ⟨l2, hdw28, hr2, ho2⟩, sw28, frw28⟩
    replace hF : ∀ x, x < w.heap.size → some x ≠ (v : Value).ownBlock → w28.heap[x]? = w.heap[x]? := fun x hx hn => (frw28 x (lT hx hT.upd.1) hn).trans (hF x hx hn)
    replace hT := hT.then sw28
    replace Lw := sw28.low
    replace hB := sw28.z hB
    replace hd := hdw28
    refine lN ?_
    exact x_cut (l2) (s7 rfl rfl rfl rfl rfl rfl rfl) ⟨hrg.trans (hr2.wider (lR _) (by omega)), hfour.left (by omega) (by omega) (by omega) (by omega) hr2 ho2, hd, Lw, hB, hT, hF⟩
   refine cK ?_
   exact x_cut (l1) (s7 rfl rfl rfl rfl rfl rfl rfl) ⟨hrg, hfour.leftN (by omega), hd, Lw, hB, hT, hF⟩
  refine lP 4 tK rfl (q1 (c_ifF rfl (cK ?_)))
  exact x_cut (l1) (s7 rfl rfl rfl rfl rfl rfl rfl) ⟨hrg, hfour.leftN (by omega), hd, Lw, hB, hT, hF⟩
 clear hrg hfour hlen1
 rintro l2 w27 ⟨hrg, hfour, hd, Lw, hB, hT, hF⟩
 have hlen2 := hrg.len
 refine q0 (lP 4 tK rfl ?_)
 refine lS 209 _ rfl (fun c5 => ?_) (fun c5 => ?_)
 ·refine lP 4 tK rfl (q1 ?_)
  refine cP _ rfl (fun c6 => ?_) (fun c6 => ?_)
  ·refine cG (lP 5 tK rfl ?_)
   refine lC (oK fo123 rfl rfl rfl (ih M _ B v l2 _ _ _ ((a + b) / 2) ((a + b) / 2 + m - lo) b (by omega) (by omega) (by omega) (by omega) (by omega) (by omega) (by omega) hfour.s3 hfour.s4 hd (by omega) Lw hB) ?_)
   rintro _ w29 ⟨rfl, ⟨l3, hdw29, hr3, ho3⟩, sw29, frw29⟩
   replace hF : ∀ x, x < w.heap.size → some x ≠ (v : Value).ownBlock → w29.heap[x]? = w.heap[x]? := fun x hx hn => (frw29 x (lT hx hT.upd.1) hn).trans (hF x hx hn)
   replace hT := hT.then sw29
   replace Lw := sw29.low
   replace hB := sw29.z hB
   replace hd := hdw29
   refine lN ?_
   refine x_ret0n rfl ?_
   exact ⟨rfl, ⟨l3, hd, hrg.trans (hr3.wider (by omega) (lR _)), hfour.right (by omega) (by omega) (by omega) hr3 ho3⟩, hT, hF⟩
  refine cK ?_
  refine x_ret0n rfl ?_
  exact ⟨rfl, ⟨l2, hd, hrg, hfour.rightN (by omega)⟩, hT, hF⟩
 refine lP 4 tK rfl (q1 (c_ifF rfl (cK ?_)))
 refine x_ret0n rfl ?_
 exact ⟨rfl, ⟨l2, hd, hrg, hfour.rightN (by omega)⟩, hT, hF⟩
theorem stable_spec (M : Nat → Prop) (w : World) (B : Nat) (v : Value) (l : List Fld) (hd : OwnSl 125 B M w v l) (hl : l.length < 140737488355328) (Lw : Low M w) (hB : B ≤ w.heap.size) :
  Calls Tryz.prog 119 #[v, .int .i64 (l.length : Int), .func (.func 115) #[] #[]] w (Ret fun r w' => r = .tuple #[] ∧ (∃ l', OwnSl 125 B M w' v l' ∧ Rng l l' 0 l.length ∧ SrtOn l' 0 l.length) ∧ Stp B M M w w' ∧ (∀ x, x < w.heap.size → some x ≠ v.ownBlock → w'.heap[x]? = w.heap[x]?)) := by
 have hT : Stp B M M w w := Stp.refl Lw
 have hF : (∀ x, x < w.heap.size → some x ≠ v.ownBlock → w.heap[x]? = w.heap[x]?) := fun _ _ _ => rfl
 refine cN (n := 63) Tryz.func119 rfl rfl rfl ?_
 refine q0 (lP 1 tK rfl (q1 (q0 (lP 3 tK rfl (q1 (cS (cB ?_)))))))
 refine c_loop2 (X := Nat) (Y := List Fld) (fun a l' => [(0, v), (1, .int .i64 (l.length : Int)), (2, .func (.func 115) #[] #[]), (6, .int .i64 20), (7, .int .i64 (a : Nat)), (8, .int .i64 ((a + 20 : Nat) : Int))]) (fun a l' w' => 20 ∣ a ∧ a ≤ l.length ∧ Blk1 l' 20 a ∧ Rng l l' 0 l.length ∧ OwnSl 125 B M w' v l' ∧ Low M w' ∧ B ≤ w'.heap.size ∧ Stp B M M w w' ∧ (∀ x, x < w.heap.size → some x ≠ (v : Value).ownBlock → w'.heap[x]? = w.heap[x]?)) (fun a l' => l.length - a) (0) (l) (s6 rfl rfl rfl rfl (gN rfl rfl) (gN rfl (by omega))) ?_ ?_
 ·exact ⟨Nat.dvd_zero _, Nat.zero_le _, Blk1.zero, Rng.refl _ _ _, hd, Lw, hB, hT, hF⟩
 rintro a l2 w1 ⟨hdv, hal, hbk, hrg, hd, Lw, hB, hT, hF⟩
 have hlen := hrg.len
 refine cS (q0 (lP 3 tK rfl (q1 ?_)))
 refine cP _ rfl (fun hc => ?_) (fun hc => ?_)
 ·refine cK (xS (cB (q0 (lP 4 tK rfl ?_))))
  refine lC (oK fo122 rfl rfl rfl (insertion_spec M _ B v l2 a (a + 20) hd (by omega) (by omega) (by omega) Lw hB) ?_)
  rintro _ w2 ⟨rfl, ⟨l3, hdw2, hr3, ho3⟩, sw2, frw2⟩
  replace hF : ∀ x, x < w.heap.size → some x ≠ (v : Value).ownBlock → w2.heap[x]? = w.heap[x]? := fun x hx hn => (frw2 x (lT hx hT.upd.1) hn).trans (hF x hx hn)
  replace hT := hT.then sw2
  replace Lw := sw2.low
  replace hB := sw2.z hB
  replace hd := hdw2
  refine q1 (q0 (lP 2 tK rfl (q1 (cG (lP 2 tK rfl ?_)))))
  refine lC (o_ai rfl rfl rfl (by omega) rfl rfl ?_)
  refine lP 1 tK rfl (q2 ?_)
  exact xN (a + 20) (l3) (s6 rfl rfl rfl rfl rfl (gN rfl (by omega))) ⟨(Nat.dvd_add_right hdv).2 (Nat.dvd_refl _), by omega, hbk.step hdv hr3 ho3, hrg.trans (hr3.wider (Nat.zero_le _) (by omega)), hd, Lw, hB, hT, hF⟩ (by omega)
 refine c_exit (xE (xE (x_blkE (xS (q0 (lP 4 tK rfl ?_))))))
 refine lC (oK fo122 rfl rfl rfl (insertion_spec M _ B v l2 a l.length hd (by omega) (by omega) (by omega) Lw hB) ?_)
 rintro _ w3 ⟨rfl, ⟨l3, hdw3, hr3, ho3⟩, sw3, frw3⟩
 replace hF : ∀ x, x < w.heap.size → some x ≠ (v : Value).ownBlock → w3.heap[x]? = w.heap[x]? := fun x hx hn => (frw3 x (lT hx hT.upd.1) hn).trans (hF x hx hn)
 replace hT := hT.then sw3
 replace Lw := sw3.low
 replace hB := sw3.z hB
 replace hd := hdw3
 have hblk := hbk.fin hdv (by omega) hr3 ho3
 replace hrg := hrg.trans (hr3.wider (Nat.zero_le _) (lR _))
 replace hlen := hrg.len
 refine q1 (cB ?_)
 refine c_loop2 (X := Nat) (Y := List Fld) (fun bs l' => [(0, v), (1, .int .i64 (l.length : Int)), (2, .func (.func 115) #[] #[]), (6, .int .i64 (bs : Nat))]) (fun bs l' w' => 0 < bs ∧ bs < 281474976710657 ∧ Blk l' bs l.length ∧ Rng l l' 0 l.length ∧ OwnSl 125 B M w' v l' ∧ Low M w' ∧ B ≤ w'.heap.size ∧ Stp B M M w w' ∧ (∀ x, x < w.heap.size → some x ≠ (v : Value).ownBlock → w'.heap[x]? = w.heap[x]?)) (fun bs l' => l.length - bs) (20) (l3) (s4 rfl rfl rfl rfl) ?_ ?_
 ·exact ⟨by omega, by omega, hblk, hrg, hd, Lw, hB, hT, hF⟩
 clear hrg hlen
 rintro bs l4 w4 ⟨hb0, hb1, hblk, hrg, hd, Lw, hB, hT, hF⟩
 have hlen := hrg.len
 refine cS (q0 (lP 3 tK rfl (q1 ?_)))
 refine cP _ rfl (fun hc => ?_) (fun hc => ?_)
 ·refine cK (xS (cB (q0 (lP 1 tK rfl ?_))))
  refine lC (o_ai rfl rfl rfl (by omega) rfl rfl ?_)
  refine lP 2 tK rfl (q1 (cS (cB ?_)))
  refine c_loop2 (X := Nat) (Y := List Fld) (fun a l' => [(0, v), (1, .int .i64 (l.length : Int)), (2, .func (.func 115) #[] #[]), (6, .int .i64 (bs : Nat)), (7, .int .i64 (a : Nat)), (8, .int .i64 ((a + 2 * bs : Nat) : Int))]) (fun a l' w' => a ≤ l.length ∧ B2 l' bs a l.length ∧ Rng l l' 0 l.length ∧ OwnSl 125 B M w' v l' ∧ Low M w' ∧ B ≤ w'.heap.size ∧ Stp B M M w w' ∧ (∀ x, x < w.heap.size → some x ≠ (v : Value).ownBlock → w'.heap[x]? = w.heap[x]?)) (fun a l' => l.length - a) (0) (l4) (s6 rfl rfl rfl rfl (gN rfl rfl) (gN rfl (by omega))) ?_ ?_
  ·exact ⟨Nat.zero_le _, B2.start hblk, hrg, hd, Lw, hB, hT, hF⟩
  clear hrg hlen
  rintro a l5 w5 ⟨hal, hb2, hrg, hd, Lw, hB, hT, hF⟩
  have hlen := hrg.len
  refine cS (q0 (lP 3 tK rfl (q1 ?_)))
  refine cP _ rfl (fun hc => ?_) (fun hc => ?_)
  ·refine cK (xS (cB (q0 (lP 4 tK rfl ?_))))
   refine lC (o_ai rfl rfl rfl (by omega) rfl rfl ?_)
   refine lP 2 tK rfl ?_
   have hR := hb2.right
   rw [Nat.min_eq_left (by omega)] at hR
   refine lC (oK fo123 rfl rfl rfl (symMerge_all _ M _ B v l5 _ _ _ a (a + bs) (a + 2 * bs) (by omega) (by omega) (by omega) (lR _) (by omega) (by omega) (by omega) (hb2.left (by omega)) hR hd (by omega) Lw hB) ?_)
   rintro _ w6 ⟨rfl, ⟨l6, hdw6, hr6, ho6⟩, sw6, frw6⟩
   replace hF : ∀ x, x < w.heap.size → some x ≠ (v : Value).ownBlock → w6.heap[x]? = w.heap[x]? := fun x hx hn => (frw6 x (lT hx hT.upd.1) hn).trans (hF x hx hn)
   replace hT := hT.then sw6
   replace Lw := sw6.low
   replace hB := sw6.z hB
   replace hd := hdw6
   refine q1 (q0 (lP 2 tK rfl (q1 (cG (lP 2 tK rfl ?_)))))
   refine lC (o_ai rfl rfl rfl (by omega) rfl rfl ?_)
   refine lC (o_ai rfl rfl rfl (by omega) rfl rfl ?_)
   refine lP 1 tK rfl (q2 ?_)
   exact xN (a + 2 * bs) (l6) (s6 rfl rfl rfl rfl rfl (gN rfl (by omega))) ⟨by omega, hb2.step hr6 ho6, hrg.trans (hr6.wider (Nat.zero_le _) (by omega)), hd, Lw, hB, hT, hF⟩ (by omega)
  refine c_exit (xE (xE (x_blkE (xS (cS (q0 (lP 2 tK rfl ?_)))))))
  refine lC (o_ai rfl rfl rfl (by omega) rfl rfl ?_)
  refine lP 1 tK rfl (q1 (q0 (lP 3 tK rfl (q1 ?_))))
  refine cP _ rfl (fun hc => ?_) (fun hc => ?_)
  ·refine cG (lP 5 tK rfl ?_)
   have hR := hb2.right
   rw [Nat.min_eq_right (by omega)] at hR
   refine lC (oK fo123 rfl rfl rfl (symMerge_all _ M _ B v l5 _ _ _ a (a + bs) l.length (by omega) (by omega) (by omega) (lR _) (by omega) (by omega) (by omega) (hb2.left (by omega)) hR hd (by omega) Lw hB) ?_)
   rintro _ w7 ⟨rfl, ⟨l6, hdw7, hr6, ho6⟩, sw7, frw7⟩
   replace hF : ∀ x, x < w.heap.size → some x ≠ (v : Value).ownBlock → w7.heap[x]? = w.heap[x]? := fun x hx hn => (frw7 x (lT hx hT.upd.1) hn).trans (hF x hx hn)
   replace hT := hT.then sw7
   replace Lw := sw7.low
   replace hB := sw7.z hB
   replace hd := hdw7
   refine q1 (cG (lP 1 tK rfl ?_))
   refine lC (o_ai rfl rfl rfl (by omega) rfl rfl ?_)
   refine lP 1 tK rfl (q2 ?_)
   exact xN (2 * bs) (l6) (s4 rfl rfl rfl (gN rfl (by omega))) ⟨by omega, by omega, hb2.fin (by omega) hr6 ho6, hrg.trans (hr6.wider (Nat.zero_le _) (lR _)), hd, Lw, hB, hT, hF⟩ (by omega)
  refine cK (xS (cG (lP 1 tK rfl ?_)))
  refine lC (o_ai rfl rfl rfl (by omega) rfl rfl ?_)
  refine lP 1 tK rfl (q2 ?_)
  exact xN (2 * bs) (l5) (s4 rfl rfl rfl (gN rfl (by omega))) ⟨by omega, by omega, hb2.finN (by omega) (by omega), hrg, hd, Lw, hB, hT, hF⟩ (by omega)
 refine c_exit (xE (xE (x_blkE ?_)))
 refine x_ret0n rfl ?_
 exact ⟨rfl, ⟨l4, hd, hrg, hblk.all (by omega)⟩, hT, hF⟩
theorem sortStable_spec (M : Nat → Prop) (w : World) (B : Nat) (v : Value) (l : List Fld) (hd : OwnSl 125 B M w v l) (hl : l.length < 140737488355328) (Lw : Low M w) (hB : B ≤ w.heap.size) :
  Calls Tryz.prog 114 #[v, .func (.func 115) #[] #[]] w (Ret fun r w' => r = .tuple #[] ∧ (∃ l', OwnSl 125 B M w' v l' ∧ l'.length = l.length ∧ StP l l' ∧ Srt l') ∧ Stp B M M w w' ∧ (∀ x, x < w.heap.size → some x ≠ v.ownBlock → w'.heap[x]? = w.heap[x]?)) := by
 have hT : Stp B M M w w := Stp.refl Lw
 have hF : (∀ x, x < w.heap.size → some x ≠ v.ownBlock → w.heap[x]? = w.heap[x]?) := fun _ _ _ => rfl
 refine cN (n := 9) Tryz.func114 rfl rfl rfl ?_
 refine cG (lP 2 tK rfl ?_)
 refine lC (o_lenO tK hd rfl rfl rfl rfl rfl ?_)
 refine lP 1 tK rfl ?_
 refine lC (oK fo119 rfl rfl rfl (stable_spec M _ B v l hd hl Lw hB) ?_)
 rintro _ w1 ⟨rfl, ⟨l2, hdw1, hrg, hso⟩, sw1, frw1⟩
 replace hF : ∀ x, x < w.heap.size → some x ≠ (v : Value).ownBlock → w1.heap[x]? = w.heap[x]? := fun x hx hn => (frw1 x (lT hx hT.upd.1) hn).trans (hF x hx hn)
 replace hT := hT.then sw1
 replace Lw := sw1.low
 replace hB := sw1.z hB
 replace hd := hdw1
 refine lN ?_
 refine x_ret0n rfl ?_
 exact ⟨rfl, ⟨l2, hd, hrg.len, hrg.st, srt_of (by rw [hrg.len]; exact hso)⟩, hT, hF⟩
end Go.Proofs.YtpoahmeacjggfaaGreat
namespace Rw
/-- A row's fields, in their order, and its tail. -/
def spineF : Ty → List Fld × Ty
  | .mk op s n l => match l.map fun x => (x, spineF x) with
    | [k, r] => bif decide (op = 11) then (⟨s, k.1⟩ :: r.2.1, r.2.2) else ([], .mk op s n l)
    | _ => ([], .mk op s n l)
theorem spineF_eq (t : Ty) : spineF t = match t.kids.map fun x => (x, spineF x) with
    | [k, r] => bif decide (t.op = 11) then (⟨t.name, k.1⟩ :: r.2.1, r.2.2) else ([], t)
    | _ => ([], t) := by
  cases t; rw [spineF]; rfl
theorem spine_no {t : Ty} (h : t.op ≠ 11) : spineF t = ([], t) := by
  rw [spineF_eq, show decide (t.op = 11) = false from dF h]
  split <;> rfl
theorem spine_yes {t k r : Ty} (h : t.op = 11) (hk : t.kids = [k, r]) : spineF t = (⟨t.name, k⟩ :: (spineF r).1, (spineF r).2) := by
  rw [spineF_eq, hk, h]; rfl
theorem shape_row {t : Ty} {c : UInt8} (h : shapeF t c = true) (ho : t.op = 11) : ∃ k r, t.kids = [k, r] ∧ shapeF k 116 = true ∧ shapeF r 114 = true := by
  have hk : kidsOf t.op = some ⟨#[116, 114]⟩ := by rw [ho]; rfl
  rw [shape_some hk] at h
  simp only [Bool.and_eq_true] at h
  have h2 := h.2.2
  rcases e : t.kids with _ | ⟨k, _ | ⟨r, _ | ⟨x, l⟩⟩⟩ <;> rw [e] at h2 <;> simp [all2] at h2
  exact ⟨k, r, rfl, h2.1, h2.2⟩
theorem shape_pos {t : Ty} {c : UInt8} (h : shapeF t c = true) : ∃ ks, kidsOf t.op = some ks ∧ t.kids.length = ks.size ∧ (∀ (j : Nat) x d, t.kids[j]? = some x → ks.data[j]? = some d → shapeF x d = true) ∧ headOk t.op t.name t.n = true ∧ (decide (8 ≤ t.op) == decide ((c.toNat : Int) = 114)) = true := by
  cases hk : kidsOf t.op with
  | none => rw [shape_none hk] at h; cases h
  | some ks =>
    have hl : t.kids.length = ks.size := by
      by_cases e : t.kids.length = ks.size
      · exact e
      · rw [shape_len hk e] at h; cases h
    refine ⟨ks, rfl, hl, fun j x d hx hd => ?_, ?_, ?_⟩
    · have hi := (List.getElem?_eq_some_iff.1 hx).1
      have hx2 : t.kids[j] = x := by rw [gE hi] at hx; exact Option.some.inj hx
      cases e : shapeF x d with
      | true => rfl
      | false => rw [shape_kid hk hi hd (by rw [hx2]; exact e)] at h; cases h
    · rw [shape_some hk] at h
      simp only [Bool.and_eq_true] at h
      exact h.2.1
    · rw [shape_some hk] at h
      simp only [Bool.and_eq_true] at h
      exact h.1
theorem spine_len (t : Ty) : (spineF t).1.length < psz t := by
  induction t using Ty.ind with
  | h t ih =>
    rw [spineF_eq, psz_eq]
    split
    · rename_i k r e
      have e1 : t.kids = [k.1, r.1] := by
        have := congrArg (List.map Prod.fst) e
        simpa [List.map_map, Function.comp_def] using this
      have e2 : r.2 = spineF r.1 := by
        rw [e1] at e
        simp at e
        rw [← e.2]
      have := ih r.1 (by rw [e1]; simp)
      rw [e1, pszs_cons, pszs_cons, e2]
      cases decide (t.op = 11)
      · simp
      · simp only [cond_true, List.length_cons]; omega
    · simp
/-- Put behind those whose names aren't greater. -/
def insF (f : Fld) : List Fld → List Fld
  | [] => [f]
  | x :: r => if cmpN f.name x.name < 0 then f :: x :: r else x :: insF f r
/-- Fields put in order. -/
def fieldsF (l : List Fld) : List Fld := l.foldl (fun acc f => insF f acc) []
theorem insF_mem {f y : Fld} : ∀ {l : List Fld}, y ∈ insF f l → y = f ∨ y ∈ l
  | [], h => by simp [insF] at h; exact .inl h
  | x :: r, h => by
    unfold insF at h
    split at h
    · rcases List.mem_cons.1 h with e | e
      · exact .inl e
      · exact .inr e
    · rcases List.mem_cons.1 h with e | e
      · exact .inr (by rw [e]; exact List.mem_cons_self)
      · rcases insF_mem e with e | e
        · exact .inl e
        · exact .inr (List.mem_cons_of_mem _ e)
theorem insF_srt {f : Fld} : ∀ {l : List Fld}, Srt l → Srt (insF f l)
  | [], _ => by unfold insF Srt; simp
  | x :: r, h => by
    have h' := List.pairwise_cons.1 h
    unfold insF
    split
    · rename_i hlt
      refine List.pairwise_cons.2 ⟨fun y hy => ?_, h⟩
      rcases List.mem_cons.1 hy with e | e
      · rw [e]; exact leN_of_lt hlt
      · exact leN_trans (leN_of_lt hlt) (h'.1 y e)
    · rename_i hnl
      refine List.pairwise_cons.2 ⟨fun y hy => ?_, insF_srt h'.2⟩
      rcases insF_mem hy with e | e
      · rw [e]; exact leN_of_nlt hnl
      · exact h'.1 y e
theorem insF_st {f : Fld} : ∀ {l : List Fld}, Srt l → StP (l ++ [f]) (insF f l)
  | [], _ => StP.refl _
  | x :: r, h => by
    have h' := List.pairwise_cons.1 h
    unfold insF
    split
    · rename_i hlt
      refine StP.swap2 fun y hy z hz e => ?_
      obtain rfl : z = f := by simpa using hz
      have h1 : cmpN z.name y.name < 0 := by
        rcases List.mem_cons.1 hy with e | e
        · rw [e]; exact hlt
        · exact cmpN_lt_of_lt_le hlt (h'.1 y e)
      rw [e, show cmpN z.name z.name = 0 from cmpN_eq.2 rfl] at h1
      omega
    · exact (StP.refl [x]).app (insF_st h'.2)
theorem fieldsF_gen : ∀ (l acc : List Fld), Srt acc → Srt (l.foldl (fun acc f => insF f acc) acc) ∧ StP (acc ++ l) (l.foldl (fun acc f => insF f acc) acc)
  | [], acc, h => ⟨h, by simpa using StP.refl acc⟩
  | f :: l, acc, h => by
    obtain ⟨h1, h2⟩ := fieldsF_gen l (insF f acc) (insF_srt h)
    refine ⟨h1, ?_⟩
    have h3 : StP (acc ++ [f] ++ l) (insF f acc ++ l) := (insF_st h).app (StP.refl _)
    rw [List.append_assoc] at h3
    exact h3.trans h2
theorem fieldsF_srt (l : List Fld) : Srt (fieldsF l) := (fieldsF_gen l [] (by simp [Srt])).1
theorem fieldsF_st (l : List Fld) : StP l (fieldsF l) := (fieldsF_gen l [] (by simp [Srt])).2
theorem fieldsF_uniq {l k : List Fld} (h : Srt k) (g : StP l k) : k = fieldsF l := srt_uniq h (fieldsF_srt l) (g.symm.trans (fieldsF_st l))
theorem insF_len (f : Fld) : ∀ l : List Fld, (insF f l).length = l.length + 1
  | [] => rfl
  | x :: r => by
    unfold insF
    split
    · rfl
    · simp [insF_len f r]
theorem fieldsF_app (l : List Fld) (f : Fld) : fieldsF (l ++ [f]) = insF f (fieldsF l) := by unfold fieldsF; rw [List.foldl_append]; rfl
theorem fieldsF_len (l : List Fld) : (fieldsF l).length = l.length := by
  have : ∀ (l acc : List Fld), (l.foldl (fun acc f => insF f acc) acc).length = acc.length + l.length := by
    intro l
    induction l with
    | nil => intro acc; simp
    | cons f l ih => intro acc; rw [List.foldl_cons, ih, insF_len]; simp; omega
  have h := this l []
  rwa [List.length_nil, Nat.zero_add] at h
/-- The row that has these fields ahead of a tail. -/
def ofF (l : List Fld) (e : Ty) : Ty := l.foldr (fun f r => .mk 11 f.name 0 [f.ty, r]) e
theorem ofF_cons (f : Fld) (l : List Fld) (e : Ty) : ofF (f :: l) e = .mk 11 f.name 0 [f.ty, ofF l e] := rfl
theorem ofF_drop {l : List Fld} {j : Nat} (h : j < l.length) (e : Ty) : ofF (l.drop j) e = .mk 11 l[j].name 0 [l[j].ty, ofF (l.drop (j + 1)) e] := by
  rw [List.drop_eq_getElem_cons h]; rfl
theorem insF_skip {f : Fld} : ∀ {l r : List Fld}, (∀ x ∈ l, ¬ cmpN f.name x.name < 0) → insF f (l ++ r) = l ++ insF f r
  | [], _, _ => rfl
  | x :: l, r, h => by
    show insF f (x :: (l ++ r)) = x :: (l ++ insF f r)
    rw [insF, if_neg (h x List.mem_cons_self), insF_skip (fun y hy => h y (List.mem_cons_of_mem _ hy))]
theorem insF_past {f : Fld} : ∀ {l r : List Fld}, (∃ x ∈ l, cmpN f.name x.name < 0) → insF f (l ++ r) = insF f l ++ r
  | [], _, h => by obtain ⟨_, h, _⟩ := h; cases h
  | x :: l, r, h => by
    show insF f (x :: (l ++ r)) = insF f (x :: l) ++ r
    rw [insF, insF]
    split
    · rfl
    · rename_i hn
      rw [insF_past (by
        obtain ⟨y, hy, hlt⟩ := h
        rcases List.mem_cons.1 hy with e | e
        · rw [e] at hlt; exact absurd hlt hn
        · exact ⟨y, e, hlt⟩)]
      rfl
/-- Half-way through the row's insertion: its first i have been looked at. -/
structure InsP (f : Fld) (l : List Fld) (i : Nat) (b : Bool) (n : List Fld) : Prop where
  yes : b = true → n = insF f (l.take i) ∧ ∃ x ∈ l.take i, cmpN f.name x.name < 0
  no : b = false → n = l.take i ∧ ∀ x ∈ l.take i, ¬ cmpN f.name x.name < 0
theorem InsP.start (f : Fld) (l : List Fld) : InsP f l 0 false [] := ⟨fun h => (by cases h), fun _ => ⟨by simp, by simp⟩⟩
theorem take_snoc {l : List Fld} {i : Nat} (h : i < l.length) : l.take (i + 1) = l.take i ++ [l[i]] := List.take_succ_eq_append_getElem h
theorem InsP.here {f : Fld} {l n : List Fld} {i : Nat} (h : InsP f l i false n) (hi : i < l.length) (hlt : cmpN f.name l[i].name < 0) : InsP f l (i + 1) true (n ++ [f] ++ [l[i]]) := by
  obtain ⟨h1, h2⟩ := h.no rfl
  refine ⟨fun _ => ⟨?_, l[i], by rw [take_snoc hi]; exact List.mem_append_right _ (List.mem_singleton.2 rfl), hlt⟩, fun h => (by cases h)⟩
  rw [take_snoc hi, insF_skip h2, h1, insF, if_pos hlt]; simp
theorem InsP.past {f : Fld} {l n : List Fld} {i : Nat} (h : InsP f l i true n) (hi : i < l.length) : InsP f l (i + 1) true (n ++ [l[i]]) := by
  obtain ⟨h1, h2⟩ := h.yes rfl
  refine ⟨fun _ => ⟨?_, ?_⟩, fun h => (by cases h)⟩
  · rw [take_snoc hi, insF_past h2, h1]
  · obtain ⟨x, hx, hlt⟩ := h2
    exact ⟨x, by rw [take_snoc hi]; exact List.mem_append_left _ hx, hlt⟩
theorem InsP.skip {f : Fld} {l n : List Fld} {i : Nat} (h : InsP f l i false n) (hi : i < l.length) (hn : ¬ cmpN f.name l[i].name < 0) : InsP f l (i + 1) false (n ++ [l[i]]) := by
  obtain ⟨h1, h2⟩ := h.no rfl
  refine ⟨fun h => (by cases h), fun _ => ⟨by rw [take_snoc hi, h1], fun x hx => ?_⟩⟩
  rw [take_snoc hi] at hx
  rcases List.mem_append.1 hx with e | e
  · exact h2 x e
  · obtain rfl : x = l[i] := by simpa using e
    exact hn
theorem InsP.fin1 {f : Fld} {l n : List Fld} {i : Nat} (h : InsP f l i true n) (hi : l.length ≤ i) : n = insF f l := by
  rw [(h.yes rfl).1, List.take_of_length_le hi]
theorem InsP.fin0 {f : Fld} {l n : List Fld} {i : Nat} (h : InsP f l i false n) (hi : l.length ≤ i) : n ++ [f] = insF f l := by
  obtain ⟨h1, h2⟩ := h.no rfl
  rw [List.take_of_length_le hi] at h1 h2
  have := insF_skip (r := []) h2
  rw [List.append_nil] at this
  rw [h1, this]; rfl
theorem InsP.len {f : Fld} {l n : List Fld} {i : Nat} {b : Bool} (h : InsP f l i b n) : n.length ≤ i + 1 := by
  cases b with
  | true => rw [(h.yes rfl).1, insF_len, List.length_take]; omega
  | false => rw [(h.no rfl).1, List.length_take]; omega
theorem bytesLess_cmp : ∀ a b : List UInt8, Go.Op.bytesLess a b = decide (Go.Lib.compareBytes a b < 0)
  | [], [] => by simp [Go.Op.bytesLess, Go.Lib.compareBytes]
  | [], _ :: _ => by simp [Go.Op.bytesLess, Go.Lib.compareBytes]
  | _ :: _, [] => by simp [Go.Op.bytesLess, Go.Lib.compareBytes]
  | x :: a, y :: b => by
    have ih := bytesLess_cmp a b
    simp only [Go.Op.bytesLess, Go.Lib.compareBytes]
    by_cases h : x < y
    · simp [h]
    · by_cases h2 : y < x
      · have : x ≠ y := fun e => by subst e; exact h h2
        simp [h, h2, this]
      · have : x = y := UInt8.le_antisymm (UInt8.not_lt.1 h2) (UInt8.not_lt.1 h)
        subst this
        simp [ih]
theorem sLt_cmpN (a b : ByteArray) : sLt a b = decide (cmpN a b < 0) := bytesLess_cmp _ _
end Rw
namespace Go.Proofs.YtpoahmeacjggfaaGreat
open Go Rw Go.RowKit
set_option maxRecDepth 100000
theorem flat_spec (t : Ty) (M : Nat → Prop) (w : World) (v : Value) (hsh : shapeF t 114 = true) (ht : Rep.R M w v t) (hlow0 : Low M w) (hsz : psz t ≤ 2000000) :
  Calls Tryz.prog 112 #[v] w (Ret fun r w' => ∃ x tv M', r = .tuple #[x, tv] ∧ OwnSl 125 w.heap.size M' w' x (fieldsF (spineF t).1) ∧ Rep.R M' w' tv (spineF t).2 ∧ Stp w.heap.size M M' w w') := by
 have Lw := hlow0
 have hB := lR w.heap.size
 have hE := Below.refl w.heap.size w
 have hsub : ∀ b, M b → M b := fun _ h => h
 obtain ⟨kv, rfl, op, nm, n64, hk⟩ := tO ht
 have hT : Stp w.heap.size M M w w := Stp.refl Lw
 have hsl := spine_len t
 refine cN (n := 26) Tryz.func112 rfl rfl rfl ?_
 refine q0 ?_
 refine lC (o_box rfl rfl rfl ?_)
 intro b1 w1 qb1 ew1 hb1
 have sw1 := Stp.add ew1 Lw hB (lQ qb1.symm) hb1.lt
 have h1 : MB w.heap.size (Rw.Add M b1) w1 b1 29 [.int .u8 t.op, .string t.name, .int .i64 t.n, kv] := MB.mk' hb1 qb1 hB
 replace hT := hT.then sw1
 replace hE := hE.trans sw1.below
 replace ht := Rep.sp ht sw1
 replace hk := hk.sp sw1
 replace hsub := sw1.sb hsub
 replace Lw := sw1.low
 replace hB := sw1.z hB
 refine lP 1 tK rfl ?_
 refine lC (o_new tK rfl rfl rfl ?_)
 intro b3 w2 qb3 ew2 hb3
 have ne_h1_h3 : b1 ≠ b3 := by have := h1.lt; omega
 have sw2 := Stp.add ew2 Lw hB (lQ qb3.symm) hb3.lt
 have h3 : MB w.heap.size (Rw.Add (Rw.Add M b1) b3) w2 b3 29 [.int .u8 0, .string ⟨#[]⟩, .int .i64 0, .slice none 0 0] := MB.mk' hb3 qb3 hB
 replace hT := hT.then sw2
 replace h1 := h1.sp sw2 (ew2.block b1 h1.lt)
 replace hE := hE.trans sw2.below
 replace ht := Rep.sp ht sw2
 replace hk := hk.sp sw2
 replace hsub := sw2.sb hsub
 replace Lw := sw2.low
 replace hB := sw2.z hB
 refine q1 (q0 (lP 1 tK rfl (q1 (cS (cB ?_)))))
 have d_ho_h1 : ∀ x, (.slice none 0 0 : Value).ownBlock = some x → x ≠ b1 := fun x hx => by simp [Value.ownBlock] at hx
 have d_ho_h3 : ∀ x, (.slice none 0 0 : Value).ownBlock = some x → x ≠ b3 := fun x hx => by simp [Value.ownBlock] at hx
 refine c_loop5 (X := Ty) (Y := Value) (Z := Value) (U := Nat → Prop) (V := List Fld) (fun t2 kv v M1 acc => [(1, .pointer (some ⟨b1, 0, none⟩)), (3, .pointer (some ⟨b3, 0, none⟩)), (4, v)]) (fun t2 kv v M1 acc w' => shapeF t2 114 = true ∧ acc ++ (spineF t2).1 = (spineF t).1 ∧ (spineF t2).2 = (spineF t).2 ∧ (0 ≤ t2.op ∧ t2.op ≤ 255) ∧ t2.name.size < 140737488355328 ∧ I64 t2.n ∧ OwnSl 125 w.heap.size M1 w' v acc ∧ MB w.heap.size M1 w' b1 29 [.int .u8 t2.op, .string t2.name, .int .i64 t2.n, kv] ∧ MB w.heap.size M1 w' b3 29 [.int .u8 0, .string ⟨#[]⟩, .int .i64 0, .slice none 0 0] ∧ (∀ x, (v : Value).ownBlock = some x → x ≠ b1) ∧ (∀ x, (v : Value).ownBlock = some x → x ≠ b3) ∧ Sl M1 w' kv t2.kids ∧ Stp w.heap.size M M1 w w' ∧ Low M1 w' ∧ (∀ b, M b → M1 b) ∧ Below w.heap.size w w' ∧ w.heap.size ≤ w'.heap.size) (fun t2 kv v M1 acc => psz t2) (t) (kv) (.slice none 0 0) ((Rw.Add (Rw.Add M b1) b3)) ([]) (s3 rfl rfl rfl) ?_ ?_
 ·exact ⟨hsh, rfl, rfl, op, nm, n64, own_nil, h1, h3, d_ho_h1, d_ho_h3, hk, hT, Lw, hsub, hE, hB⟩
 clear hk
 rintro t2 kv v M1 acc w3 ⟨hs2, hacc, htl, op2, nm2, n2, ho, h1, h3, d_ho_h1, d_ho_h3, hk, hT, Lw, hsub, hE, hB⟩
 refine cS (q0 (lP 1 tK rfl ?_))
 refine lC (oD tK (h1.cell 0 _ rfl) rfl rfl rfl rfl rfl ?_)
 refine lP 1 tK rfl (q1 ?_)
 refine cP _ rfl (fun hc => ?_) (fun hc => ?_)
 ·obtain ⟨k, r, hks, hsk, hsr⟩ := shape_row hs2 (by omega)
  have hsp := spine_yes (by omega) hks
  have hlen : acc.length < (spineF t).1.length := by rw [← hacc, hsp, List.length_append, List.length_cons]; omega
  refine cK (xS (cB (cS ?_)))
  refine a_beg Ext rfl ?_
  intro w4 ew4
  replace hT := hT.then (Stp.Y ew4 Lw hB)
  replace ho := ho.Y Lw hB ew4
  replace h1 := h1.Y Lw hB ew4
  replace h3 := h3.Y Lw hB ew4
  replace hE := ew4.bl hE hB
  replace hk := hk.Y ew4
  replace Lw := Lw.Y ew4
  replace hB := ew4.z hB
  have hS : Ext w4 w4 := ext_refl _
  have D_h1 := h1.box
  have D_h3 := h3.box
  have D_hk := hk
  refine a_p 0 tK rfl rfl rfl rfl (by kernel_rfl) i3 hS ?_
  refine a_p 1 tK rfl rfl rfl rfl (by kernel_rfl) i3 hS ?_
  refine a_ld 2 tK (fun _ hs => (D_h1.Y hs).cell 1 _ rfl) rfl rfl rfl rfl rfl rfl (by kernel_rfl) i3 hS ?_
  refine a_p 3 tK rfl rfl rfl rfl (by kernel_rfl) i3 hS ?_
  refine a_ld 4 tK (fun _ hs => (D_h1.Y hs).cell 3 _ rfl) rfl rfl rfl rfl rfl rfl (by kernel_rfl) i3 hS ?_
  refine a_ixS 5 tK D_hk (show t2.kids[0]? = some k by rw [hks]; rfl) rfl rfl rfl rfl rfl rfl rfl rfl rfl rfl (by kernel_rfl) i4 hS ?_
  intro ebx eox eux hyx hX
  obtain ⟨kvx, rfl, opx, nmx, n64x, hkx⟩ := tO hyx
  replace hX : At M1 w4 ebx eox [.int .u8 k.op, .string k.name, .int .i64 k.n, kvx] := hX
  refine a_lds 6 tK (fun _ hs j v hv => (hX.Y hs).cell j v hv) rfl rfl rfl rfl rfl rfl rfl (by kernel_rfl) i3 hS ?_
  refine a_build (cells := [.string t2.name, .int .u8 k.op, .string k.name, .int .i64 k.n, kvx]) (css := [[.string t2.name], [.int .u8 k.op, .string k.name, .int .i64 k.n, kvx]]) 7 bd125 rfl rfl rfl rfl rfl rfl (by kernel_rfl) i3 hS ?_
  have hfd := fld_mk (name := t2.name) (t := k) nm2 hyx
  refine a_one 8 rfl (by kernel_rfl) (o_bs tK rfl rfl rfl rfl rfl rfl rfl (sz1 rfl) rfl rfl rfl ?_)
  intro bw5 w5 qbw5 ew5 hbw5
  have nbw5 := nO Lw qbw5
  replace hS := hS.then ew5
  replace hT := hT.then (Stp.Y ew5 Lw hB)
  replace ho := ho.Y Lw hB ew5
  replace h1 := h1.Y Lw hB ew5
  replace h3 := h3.Y Lw hB ew5
  replace hE := ew5.bl hE hB
  replace hk := hk.Y ew5
  replace hyx := Rep.Y hyx ew5
  replace hkx := hkx.Y ew5
  replace hX := hX.Y ew5
  replace hfd := Rep.Y hfd ew5
  replace Lw := Lw.Y ew5
  replace hB := ew5.z hB
  refine ⟨hS, ?_⟩
  refine a_barS Ext 9 rfl (by kernel_rfl) (by kernel_rfl) (o_app1 tK ho hbw5 nbw5 hfd Lw hB rfl rfl rfl rfl rfl rfl rfl (by omega) (by show (_ + _) * 72 ≤ _; omega) rfl rfl ?_)
  intro vw6 w6 Mw6 hw6 sw6 frw6 blw6
  have zd_ho_h1 := d_ho_h1
  replace d_ho_h1 : ∀ x, (vw6 : Value).ownBlock = some x → x ≠ b1 := fun x hx => (blw6 x hx).elim (d_ho_h1 x) (fun h e => by have := h1.lt; omega)
  have zd_ho_h3 := d_ho_h3
  replace d_ho_h3 : ∀ x, (vw6 : Value).ownBlock = some x → x ≠ b3 := fun x hx => (blw6 x hx).elim (d_ho_h3 x) (fun h e => by have := h3.lt; omega)
  replace hT := hT.then sw6
  replace h1 := h1.sp sw6 (frw6 b1 h1.lt (fun e => zd_ho_h1 _ e.symm rfl))
  replace h3 := h3.sp sw6 (frw6 b3 h3.lt (fun e => zd_ho_h3 _ e.symm rfl))
  replace hE := hE.trans sw6.below
  replace hk := hk.sp sw6
  replace hyx := Rep.sp hyx sw6
  replace hkx := hkx.sp sw6
  replace hX := hX.sp sw6
  replace hfd := Rep.sp hfd sw6
  replace hsub := sw6.sb hsub
  replace Lw := sw6.low
  replace hB := sw6.z hB
  replace hS : Ext w6 w6 := ext_refl _
  replace ho := hw6
  clear hw6
  have D_h1 := h1.box
  have D_h3 := h3.box
  have D_hk := hk
  have D_hkx := hkx
  have D_hatx := hX
  refine a_p 10 tK rfl rfl rfl rfl (by kernel_rfl) i3 hS ?_
  refine a_end (by kernel_rfl) ?_
  refine xS (cG (lP 1 tK rfl ?_))
  refine lC (oD tK (h1.cell 3 _ rfl) rfl rfl rfl rfl rfl ?_)
  refine lC (o_ixS tK hk (show t2.kids[1]? = some r by rw [hks]; rfl) rfl rfl rfl rfl rfl rfl rfl rfl rfl ?_)
  intro eby eoy euy hyy haty
  obtain ⟨kvy, rfl, opy, nmy, n64y, hky⟩ := tO hyy
  replace haty : At Mw6 w6 eby eoy [.int .u8 r.op, .string r.name, .int .i64 r.n, kvy] := haty
  refine lC (oL tK (fun j v hv => haty.cell j v hv) rfl rfl rfl rfl rfl rfl ?_)
  refine lC (o_st tK h1.box rfl rfl rfl rfl (Rep.one hyy) rfl rfl ?_)
  intro w7 hw7 qw7 bew7
  have uw7 : UpdB _ _ _ := ⟨qw7, bew7⟩
  have sw7 := uw7.sp h1.inM Lw h1.ge
  have frw7 := qw7.2
  replace hT := hT.then sw7
  replace ho := ho.sp sw7 (fun x hx => frw7 x (ho.lt x hx).2 (d_ho_h1 x hx))
  replace h3 := h3.sp sw7 (frw7 b3 h3.lt ne_h1_h3.symm)
  replace hE := hE.trans sw7.below
  replace hk := hk.sp sw7
  replace hyx := Rep.sp hyx sw7
  replace hkx := hkx.sp sw7
  replace hX := hX.sp sw7
  replace hfd := Rep.sp hfd sw7
  replace hyy := Rep.sp hyy sw7
  replace hky := hky.sp sw7
  replace haty := haty.sp sw7
  replace hsub := sw7.sb hsub
  replace Lw := sw7.low
  replace hB := sw7.z hB
  replace h1 : MB w.heap.size _ w7 b1 _ [.int .u8 r.op, .string r.name, .int .i64 r.n, kvy] := ⟨hw7, h1.inM, h1.ge⟩
  refine q2 ?_
  exact x_round5 (r) (kvy) (vw6) (Mw6) (acc ++ [⟨t2.name, k⟩]) (s3 rfl rfl rfl) ⟨hsr, by rw [List.append_assoc, ← hacc, hsp]; rfl, by rw [← htl, hsp], opy, nmy, n64y, ho, h1, h3, d_ho_h1, d_ho_h3, hky, hT, Lw, hsub, hE, hB⟩ (by rw [psz_eq t2, hks, pszs_cons, pszs_cons]; omega)
 have hne : t2.op ≠ 11 := by omega
 rw [spine_no hne] at hacc htl
 simp only [List.append_nil] at hacc htl
 have hla : acc.length = (spineF t).1.length := by rw [hacc]
 refine c_exit (xE (xE (x_blkE (xS (q0 (lP 1 tK rfl ?_))))))
 refine lC (oK fo114 rfl rfl rfl (sortStable_spec M1 _ w.heap.size v acc ho (by omega) Lw hB) ?_)
 rintro _ w8 ⟨rfl, ⟨l2, ho2, hll, hst, hsr⟩, sw8, frw8⟩
 obtain rfl := fieldsF_uniq hsr hst
 replace hT := hT.then sw8
 replace h1 := h1.sp sw8 (frw8 b1 h1.lt (fun e => d_ho_h1 _ e.symm rfl))
 replace h3 := h3.sp sw8 (frw8 b3 h3.lt (fun e => d_ho_h3 _ e.symm rfl))
 replace hE := hE.trans sw8.below
 replace hk := hk.sp sw8
 replace hsub := sw8.sb hsub
 replace Lw := sw8.low
 replace hB := sw8.z hB
 replace ho := ho2
 refine q1 (cS ?_)
 refine a_beg Ext rfl ?_
 intro w9 ew9
 replace hT := hT.then (Stp.Y ew9 Lw hB)
 replace ho := ho.Y Lw hB ew9
 replace h1 := h1.Y Lw hB ew9
 replace h3 := h3.Y Lw hB ew9
 replace hE := ew9.bl hE hB
 replace hk := hk.Y ew9
 replace Lw := Lw.Y ew9
 replace hB := ew9.z hB
 have hS : Ext w9 w9 := ext_refl _
 have D_h1 := h1.box
 have D_h3 := h3.box
 have D_hk := hk
 refine a_p 0 tK rfl rfl rfl rfl (by kernel_rfl) i3 hS ?_
 refine a_lds 1 tK (fun _ hs j v hv => (D_h1.Y hs).cell j v hv) rfl rfl rfl rfl rfl rfl rfl (by kernel_rfl) i3 hS ?_
 refine a_p 2 tK rfl rfl rfl rfl (by kernel_rfl) i3 hS ?_
 have htl2 := ty_mk op2 nm2 n2 hk
 rw [← ty_eta] at htl2
 refine a_barS Ext 3 rfl (by kernel_rfl) (by kernel_rfl) (o_st tK h3.box rfl rfl rfl rfl (Rep.one htl2) rfl rfl ?_)
 intro w10 hw10 qw10 bew10
 have uw10 : UpdB _ _ _ := ⟨qw10, bew10⟩
 have sw10 := uw10.sp h3.inM Lw h3.ge
 have frw10 := qw10.2
 replace hT := hT.then sw10
 replace ho := ho.sp sw10 (fun x hx => frw10 x (ho.lt x hx).2 (d_ho_h3 x hx))
 replace h1 := h1.sp sw10 (frw10 b1 h1.lt ne_h1_h3)
 replace hE := hE.trans sw10.below
 replace hk := hk.sp sw10
 replace htl2 := Rep.sp htl2 sw10
 replace hsub := sw10.sb hsub
 replace Lw := sw10.low
 replace hB := sw10.z hB
 replace hS : Ext w10 w10 := ext_refl _
 replace h3 : MB w.heap.size _ w10 b3 _ [.int .u8 t2.op, .string t2.name, .int .i64 t2.n, kv] := ⟨hw10, h3.inM, h3.ge⟩
 have D_h1 := h1.box
 have D_h3 := h3.box
 have D_hk := hk
 refine a_end (by kernel_rfl) ?_
 refine xS (cR ?_)
 refine x_ret2ts tK (fun j v hv => h3.cell j v hv) rfl rfl rfl rfl rfl rfl ?_
 rw [hacc] at ho
 exact ⟨_, _, _, rfl, ho, by rw [← htl]; exact htl2, hT⟩
theorem field_spec (name : ByteArray) (t r : Ty) (M : Nat → Prop) (w : World) (v u : Value) (hnm : name.size < 140737488355328) (ht : Rep.R M w v t) (hr : Rep.R M w u r) (hlow0 : Low M w) :
  Calls Tryz.prog 103 #[.string name, v, u] w (Ret fun x w' => Rep.R M w' x (Ty.mk 11 name 0 [t, r]) ∧ Ext w w') := by
 have Lw := hlow0
 have hB := lR w.heap.size
 have hE := Below.refl w.heap.size w
 have hsub : ∀ b, M b → M b := fun _ h => h
 obtain ⟨kv, rfl, op, nm, n64, hk⟩ := tO ht
 obtain ⟨kvr, rfl, opr, nmr, n64r, hkr⟩ := tO hr
 refine cN (n := 12) Tryz.func103 rfl rfl rfl ?_
 refine q0 ?_
 refine lC (o_box rfl rfl rfl ?_)
 intro b4 w1 hb_b4 ew1 h4
 replace h4 : Box _ b4 29 [.int .u8 t.op, .string t.name, .int .i64 t.n, kv] := h4
 replace h4 := h4.at (nO Lw hb_b4)
 replace hE := ew1.bl hE hB
 replace ht := Rep.Y ht ew1
 replace hk := hk.Y ew1
 replace hr := Rep.Y hr ew1
 replace hkr := hkr.Y ew1
 replace Lw := Lw.Y ew1
 replace hB := ew1.z hB
 refine lC (o_box rfl rfl rfl ?_)
 intro b5 w2 hb_b5 ew2 h5
 replace h5 : Box _ b5 29 [.int .u8 r.op, .string r.name, .int .i64 r.n, kvr] := h5
 replace h5 := h5.at (nO Lw hb_b5)
 replace hE := ew2.bl hE hB
 replace ht := Rep.Y ht ew2
 replace hk := hk.Y ew2
 replace hr := Rep.Y hr ew2
 replace hkr := hkr.Y ew2
 replace h4 := h4.Y ew2
 replace Lw := Lw.Y ew2
 replace hB := ew2.z hB
 refine lC (o_new tK rfl rfl rfl ?_)
 intro b6 w3 qb6 ew3 hb6
 have sw3 := Stp.add ew3 Lw hB (lQ qb6.symm) hb6.lt
 have h6 : MB w.heap.size (Rw.Add M b6) w3 b6 29 [.int .u8 0, .string ⟨#[]⟩, .int .i64 0, .slice none 0 0] := MB.mk' hb6 qb6 hB
 replace hE := hE.trans sw3.below
 replace ht := Rep.sp ht sw3
 replace hk := hk.sp sw3
 replace hr := Rep.sp hr sw3
 replace hkr := hkr.sp sw3
 replace h4 := h4.sp sw3
 replace h5 := h5.sp sw3
 replace hsub := sw3.sb hsub
 replace Lw := sw3.low
 replace hB := sw3.z hB
 refine q1 (q0 (lP 1 tK rfl ?_))
 refine lC (oL tK (fun j v hv => h4.cell j v hv) rfl rfl rfl rfl rfl rfl ?_)
 refine lC (oL tK (fun j v hv => h5.cell j v hv) rfl rfl rfl rfl rfl rfl ?_)
 refine lC (o_bs tK rfl rfl rfl rfl rfl rfl rfl (sz2 rfl rfl) rfl rfl rfl ?_)
 intro bw4 w4 qbw4 ew4 hbw4
 have sw4 := Stp.add ew4 Lw hB (lQ qbw4.symm) hbw4.lt
 have le_bw4 := hB
 have d_ho_h6 : ∀ x, ((.slice (some ⟨bw4, 0, none⟩) 2 2) : Value).ownBlock = some x → x ≠ b6 := fun x hx => by have := ob_eq hx; have := h6.lt; omega
 replace h6 := h6.sp sw4 (ew4.block b6 h6.lt)
 replace hE := hE.trans sw4.below
 replace ht := Rep.sp ht sw4
 replace hk := hk.sp sw4
 replace hr := Rep.sp hr sw4
 replace hkr := hkr.sp sw4
 replace h4 := h4.sp sw4
 replace h5 := h5.sp sw4
 replace hsub := sw4.sb hsub
 replace Lw := sw4.low
 replace hB := sw4.z hB
 have ho := own_litS sw4 hbw4 (show Rs _ _ [_, _] [t, r] from ⟨ht, hr, trivial⟩) qbw4 le_bw4 (by simp [maxLen])
 refine lC (o_build (cells := [.int .u8 11, .string name, .int .i64 0, .slice (some ⟨bw4, 0, none⟩) 2 2]) bd29 rfl rfl rfl rfl rfl ?_)
 refine lC (o_st tK h6.box rfl rfl rfl rfl (by intro u hu; simp [Value.cells] at hu; rcases hu with rfl | rfl | rfl | rfl <;> rfl) rfl rfl ?_)
 intro w5 hw5 qw5 bew5
 have uw5 : UpdB _ _ _ := ⟨qw5, bew5⟩
 have sw5 := uw5.sp h6.inM Lw h6.ge
 have frw5 := qw5.2
 replace ho := ho.sp sw5 (fun x hx => frw5 x (ho.lt x hx).2 (d_ho_h6 x hx))
 replace hE := hE.trans sw5.below
 replace ht := Rep.sp ht sw5
 replace hk := hk.sp sw5
 replace hr := Rep.sp hr sw5
 replace hkr := hkr.sp sw5
 replace h4 := h4.sp sw5
 replace h5 := h5.sp sw5
 replace hsub := sw5.sb hsub
 replace Lw := sw5.low
 replace hB := sw5.z hB
 replace h6 : MB w.heap.size _ w5 b6 _ [.int .u8 11, .string name, .int .i64 0, .slice (some ⟨bw4, 0, none⟩) 2 2] := ⟨hw5, h6.inM, h6.ge⟩
 refine q1 (cR ?_)
 refine x_ret1s tK (fun j v hv => h6.cell j v hv) rfl rfl rfl rfl rfl ?_
 exact ⟨ty_mk (by decide) hnm ⟨by decide, by decide⟩ (ho.sl (by simp) hlow0 hsub), hE⟩
end Go.Proofs.YtpoahmeacjggfaaGreat
namespace Rw
open Go Go.RowKit
theorem At.drop {M : Nat → Prop} {w : World} {b off : Nat} {cs sub : List Value} (h : At M w b off cs) (k : Nat) (hs : cs.drop k = sub) (j : Nat) (v : Value) (hv : sub[j]? = some v) : w.cell? ⟨b, off + k + j, none⟩ = some v := by
  subst hs
  rw [List.getElem?_drop] at hv
  have := h.cell (k + j) v hv
  rwa [← Nat.add_assoc] at this
/-! ## Rounds' frames -/
/-- Any function, any depth; in the round of a loop, or in none. -/
def Fr : Option Nat → Fence
  | none => Fence.wide
  | some l => Fence.wide.inRound l
theorem fr_fn (r : Option Nat) (f : FuncId) : (Fr r).fn f := by cases r <;> trivial
theorem fr_depth (r : Option Nat) (p : Prop) : (Fr r).depth.isSome = true → p := by cases r <;> intro h <;> simp [Fr, Fence.wide] at h
theorem callsFr {r : Option Nat} {n : Nat} {P : Program} {f : FuncId} {args : Array Value} {w : World} {R : Ending → World → Prop} (h : Calls P f args w R) : CallsIn (Fr r) n P f args w R := by
  cases r with
  | none => exact callsIn_wide.2 h
  | some l => exact (callsIn_wide (n := n)).2 h
theorem rowsFr {r : Option Nat} {n : Nat} {P : Program} {row : String} {args : Array Value} {w : World} {R : Value → World → Prop} (h : Rows P row args w R) : RowsIn (Fr r) n P row args w R := by
  have key : RowsIn Fence.wide n P row args w R := fun c cs _ => let ⟨v, w', h1, h2⟩ := h c cs; ⟨v, w', h1, stepsIn_wide.2 h2⟩
  cases r with
  | none => exact key
  | some l => exact key
/-- It doesn't put off a call. -/
def noDef (o : Oper) : Bool := match o.op with
  | .defer _ => false
  | _ => true
theorem noDef_ne {o : Oper} (h : noDef o = true) : ∀ c, o.op ≠ .defer c := fun c e => by simp [noDef, e] at h
/-- With these deferred calls. -/
def wd (ds : List Deferred) (a : Act) : Act := { a with defers := ds }
theorem wd_put (ds : List Deferred) (a : Act) (d : Option Nat) (v : Value) : (wd ds a).put d v = wd ds (a.put d v) := by cases d <;> rfl
theorem wd_nil {a : Act} (h : a.defers = []) : wd [] a = a := by cases a; simp only at h; subst h; rfl
theorem put_defers (a : Act) (d : Option Nat) (v : Value) : (a.put d v).defers = a.defers := by cases d <;> rfl
section
variable {P : Program} {r : Option Nat} {m : Nat} {ds : List Deferred} {ops : Array Oper}
theorem oper_fr {o : Oper} {a : Act} {w : World} {next next' : Act → World → Prop} {Q Q' : Exit → Act → World → Prop} (hd : noDef o = true)
    (hn : ∀ a' w', next a' w' → a'.defers = [] ∧ next' (wd ds a') w') (hq : ∀ c w', Q (.panic c) a w' → Q' (.panic c) (wd ds a) w') (ho : ¬ LetsOut Q) (h : o.wp P a w next Q) : o.wpIn (Fr r) m P (wd ds a) w next' Q' := by
  refine ⟨fun f _ => fr_fn r f, ?_⟩
  rw [Oper.semAt_eq _ _ _ (noDef_ne hd), show (wd ds a).eval = a.eval from rfl]
  unfold Oper.wp at h
  generalize (execOp a.eval o).run P w = res at h
  cases res with
  | ok nx w' =>
    cases nx with
    | value v => rw [Oper.uponIn_value, wd_put]; exact (hn _ _ h).2
    | skip => rw [Oper.uponIn_skip, wd_put]; exact (hn _ _ h).2
    | defer d =>
      have h1 := (hn _ _ h).1
      rw [put_defers] at h1
      cases h1
    | enter f args =>
      rw [Oper.uponIn_enter]
      refine ⟨fr_depth r _, callsFr (Calls.mono h fun e w'' he => ?_)⟩
      cases e with
      | returned v => show next' _ _; rw [wd_put]; exact (hn _ _ he).2
      | panicked c => exact hq c _ he
      | outgrown => exact absurd he ho
    | row row args =>
      rw [Oper.uponIn_row]
      exact ⟨fr_depth r _, rowsFr (Rows.mono h fun v w'' he => by rw [wd_put]; exact (hn _ _ he).2)⟩
    | _ => exact h.elim
  | halt hlt w' =>
    cases hlt with
    | panic v => exact hq _ _ h
    | _ => exact h.elim
theorem ops_defers {Q : Exit → Act → World → Prop} (hQ : ∀ e a w, Q e a w → a.defers = []) (ho : ¬ LetsOut Q) : ∀ (l : List Nat) (a : Act) (w : World), wpOps P ops Q l a w → a.defers = []
  | [], a, w, h => hQ _ _ _ h
  | i :: rest, a, w, h => by
    have ih := ops_defers hQ ho rest
    unfold wpOps at h
    split at h
    · exact ih _ _ h
    · rename_i o _
      split at h
      · have h1 := h.resolve_right (fun x => ho x.2)
        unfold Oper.wp at h1
        generalize (execOp a.eval o).run P w = res at h1
        cases res with
        | ok nx w' =>
          cases nx with
          | value v => have := ih _ _ h1; rwa [put_defers] at this
          | skip => have := ih _ _ h1; rwa [put_defers] at this
          | defer d => have := ih _ _ h1; rw [put_defers] at this; cases this
          | enter f args =>
            obtain ⟨e, w'', fr, hR, _⟩ := h1 []
            cases e with
            | returned v => have := ih _ _ hR; rwa [put_defers] at this
            | panicked c => exact hQ _ _ _ hR
            | outgrown => exact absurd hR ho
          | row row args =>
            obtain ⟨v, w'', hR, _⟩ := h1 default []
            have := ih _ _ hR; rwa [put_defers] at this
          | _ => exact h1.elim
        | halt hlt w' =>
          cases hlt with
          | panic v => exact hQ _ _ _ h1
          | _ => exact h1.elim
      · have := ih _ _ h; rwa [put_defers] at this
theorem ops_fr {Q Q' : Exit → Act → World → Prop} (hd : ops.all noDef = true) (hQ : ∀ e a w, Q e a w → a.defers = [] ∧ Q' e (wd ds a) w) (ho : ¬ LetsOut Q) : ∀ (l : List Nat) (a : Act) (w : World), wpOps P ops Q l a w → wpOpsIn (Fr r) m P ops Q' l (wd ds a) w
  | [], a, w, h => (hQ _ _ _ h).2
  | i :: rest, a, w, h => by
    have ih := ops_fr hd hQ ho rest
    have id := ops_defers (P := P) (ops := ops) (fun e a w h => (hQ e a w h).1) ho rest
    unfold wpOps at h
    unfold wpOpsIn
    split at h
    · rename_i hi; rw [hi]; exact ih _ _ h
    · rename_i o hi
      rw [hi]
      simp only
      have hdo : noDef o = true := by
        rw [Array.all_eq_true'] at hd
        exact hd o (Array.mem_of_getElem? hi)
      rw [show (wd ds a).tmps = a.tmps from rfl]
      split at h
      · rename_i hw
        rw [if_pos hw]
        exact oper_fr hdo (fun a' w' h' => ⟨id _ _ h', ih _ _ h'⟩) (fun c w' h' => (hQ _ _ _ h').2) ho (h.resolve_right (fun x => ho x.2))
      · rename_i hw
        rw [if_neg hw]
        refine ⟨fun f _ => fr_fn r f, ?_⟩
        rw [wd_put]; exact ih _ _ h
theorem all_arr {ol : List Oper} (h : ol.all noDef = true) : ol.toArray.all noDef = true := by simpa using h
/-! ## Regions in a round's frame -/
/-- What is asked behind a region: it ends, and then. -/
def Ends (K : Act → World → Prop) : Exit → Act → World → Prop := fun e a w => e = .normal ∧ a.defers = [] ∧ K a w
theorem ends_out (K : Act → World → Prop) : ¬ LetsOut (Ends K) := fun ⟨_, _, h, _⟩ => by cases h
theorem ri_any {n : Nat} {id : Nat} {ol : List Oper} {K : Act → World → Prop} {Q : Exit → Act → World → Prop} {G : Env} {w : World} (S : World → World → Prop) (hm : P.follows .mixedOrders = true) (hd : ol.all noDef = true) (hq : ∀ a w, K a w → Q .normal (wd ds a) w)
    (h : ∀ w', Ext w w' → WA P n ol.toArray (Ends K) (S w') G w' ol.toArray.size []) : ∀ a, Models n a G → (Code.region id ol.toArray true).wpIn (Fr r) m P Q (wd ds a) w := by
  intro a ha
  refine wpIn_region_draw fun t => ?_
  simp only [Region.schedule, hm, Bool.true_or, if_true]
  exact ops_fr (all_arr hd) (fun e a w h => ⟨h.2.1, by obtain ⟨rfl, _, h⟩ := h; exact hq _ _ h⟩) (ends_out K) _ _ _ (wpAny_sound ol.toArray.size t _ a _ (wpAny_of_B _ (S w.drew) _ _ _ (by simpa [lst] using h w.drew (ext_drew w) a ha)))
theorem ri_reg {n : Nat} {id : Nat} {ol : List Oper} {K : Act → World → Prop} {Q : Exit → Act → World → Prop} {G : Env} {w : World} (hd : ol.all noDef = true) (hq : ∀ a w, K a w → Q .normal (wd ds a) w)
    (h : WL P n ol.toArray (Ends K) G w ol) : ∀ a, Models n a G → (Code.region id ol.toArray false).wpIn (Fr r) m P Q (wd ds a) w := by
  intro a ha
  refine wpIn_region (ops_fr (all_arr hd) (fun e a w h => ⟨h.2.1, by obtain ⟨rfl, _, h⟩ := h; exact hq _ _ h⟩) (ends_out K) _ _ _ ?_)
  rw [List.range_eq_range', ← Array.length_toList, wpOps_eq_wpList ol.toArray.toList 0 (by simp)]
  simpa using h a ha
theorem ri_any0 {n : Nat} {id : Nat} {ol : List Oper} {K : Act → World → Prop} {Q : Exit → Act → World → Prop} {G : Env} {w : World} (S : World → World → Prop) (hm : P.follows .mixedOrders = true) (hd : ol.all noDef = true) (hq : ∀ a w, K a w → Q .normal a w)
    (h : ∀ w', Ext w w' → WA P n ol.toArray (Ends fun a w => a.defers = [] ∧ K a w) (S w') G w' ol.toArray.size []) : ∀ a, Models n a G → (Code.region id ol.toArray true).wpIn (Fr r) m P Q a w := fun a ha => by
  have := ri_any (r := r) (m := m) (ds := []) (Q := Q) (id := id) S hm hd (fun a w h => by rw [wd_nil h.1]; exact hq a w h.2) h a ha
  rwa [wd_nil ha.defers] at this
theorem ri_reg0 {n : Nat} {id : Nat} {ol : List Oper} {K : Act → World → Prop} {Q : Exit → Act → World → Prop} {G : Env} {w : World} (hd : ol.all noDef = true) (hq : ∀ a w, K a w → Q .normal a w)
    (h : WL P n ol.toArray (Ends fun a w => a.defers = [] ∧ K a w) G w ol) : ∀ a, Models n a G → (Code.region id ol.toArray false).wpIn (Fr r) m P Q a w := fun a ha => by
  have := ri_reg (r := r) (m := m) (ds := []) (Q := Q) (id := id) hd (fun a w h => by rw [wd_nil h.1]; exact hq a w h.2) h a ha
  rwa [wd_nil ha.defers] at this
/-! ## A region in which yield is called -/
def WI (P : Program) (n : Nat) (m : Nat) (ops : Array Oper) (Q : Exit → Act → World → Prop) (G : Env) (w : World) (l : List Nat) : Prop := ∀ a, Models n a G → wpOpsIn (Fr none) m P ops Q l a w
theorem li_nil {n : Nat} {Q : Exit → Act → World → Prop} {G : Env} {w : World} (h : WX n Q G w .normal) : WI P n m ops Q G w [] := fun a ha => h a ha
theorem li_cons {n : Nat} {Q : Exit → Act → World → Prop} {G : Env} {w : World} {i : Nat} {l : List Nat} {o : Oper} (hi : ops[i]? = some o) (hd : noDef o = true) (ho : ¬ LetsOut Q) (h : OW P n ops Q G w o (fun G' w' => WI P n m ops Q G' w' l)) : WI P n m ops Q G w (i :: l) := by
  intro a ha
  have h1 := h a ha (fun a' w' => a'.defers = [] ∧ wpOpsIn (Fr none) m P ops Q l a' w') (fun G' w' hk a' ha' => ⟨ha'.defers, hk a' ha'⟩)
  unfold wpOpsIn
  rw [hi]
  simp only
  split at h1
  · rename_i hw
    rw [if_pos hw]
    have := oper_fr (r := none) (m := m) (ds := []) (next' := wpOpsIn (Fr none) m P ops Q l) (Q' := Q) hd (fun a' w' h' => ⟨h'.1, by rw [wd_nil h'.1]; exact h'.2⟩) (fun c w' h' => by rw [wd_nil ha.defers]; exact h') ho h1
    rwa [wd_nil ha.defers] at this
  · rename_i hw
    rw [if_neg hw]
    exact ⟨fun f _ => fr_fn none f, h1.2⟩
theorem li_yield {n : Nat} {Q : Exit → Act → World → Prop} {G : Env} {w : World} {i k : Nat} {l : List Nat} {d ty : Nat} {x : Operand} {args : Array Operand} {tys : Array TypeId} {pos : String} {af : Array Go.Edge} {vs : List Value} {R : Ending → World → Prop} (hi : ops[i]? = some ⟨some d, .call ⟨.value x, args, tys⟩, ty, pos, af, none⟩)
    (hx : Env.ev G x = some (.func (.yield k) #[] #[])) (hv : Env.evs G args.toList = some vs) (hdn : Nat.blt d n = true) (hy : YieldAt (Fr none) (m - 1) P k vs.toArray w R) (h : ∀ e w', R e w' → ∃ b, e = .returned (.bool b) ∧ WI P n m ops Q ((d, .bool b) :: G) w' l) : WI P n m ops Q G w (i :: l) := by
  intro a ha
  obtain ⟨fn, tmps, assign, body, hrun, hround⟩ := hy
  unfold wpOpsIn
  rw [hi]
  simp only
  rw [if_pos (by simp [Region.wanted])]
  refine ⟨fun f _ => fr_fn none f, ?_⟩
  have e : args.map a.eval = vs.toArray := array_of_toList (by simp [ha.evs hv])
  have hr : (Oper.semAt (Fr none).round a.eval ⟨some d, .call ⟨.value x, args, tys⟩, ty, pos, af, none⟩).run P w = .ok (.round k fn tmps assign body) w := by
    rw [Oper.semAt_eq _ _ _ (by intro c h; cases h)]
    simp [execOp, resolve, e, Deferred.ofValue, ha.ev hx, invoke, hrun]
  rw [hr, Oper.uponIn_round]
  refine ⟨fr_depth none _, hround.mono fun en w' he => ?_⟩
  obtain ⟨b, rfl, hK⟩ := h en w' he
  exact hK _ (ha.put hdn _)
theorem c_regI {n : Nat} {id : Nat} {Q : Exit → Act → World → Prop} {G : Env} {w : World} {ol : List Oper} {l : List Nat} (hl : l = List.range ol.toArray.size) (h : WI P n m ol.toArray Q G w l) : WC P n Q G w (.region id ol.toArray false) :=
  fun a ha => (wpIn_wide (n := m)).1 (wpIn_region (by rw [← hl]; exact h a ha))
end
/-! ## What an iterator does: it hands these things to yield, one by one -/
def IterOk (P : Program) (m : Nat) (gf : Nat) (lb : Array Value) (xs : List (Value × Value)) (Kp : World → World → Prop) (w0 : World) : Prop :=
  ∀ (l : Nat) (J : Nat → World → Prop) (W : World), Kp w0 W → (∀ k x W1, J k W1 → xs[k]? = some x → YieldAt (Fr none) (m - 1) P l #[x.1, x.2] W1 fun e W' => e = .returned (.bool true) ∧ J (k + 1) W' ∧ Kp W1 W') → J 0 W →
    Calls P gf (#[.func (.yield l) #[] #[]] ++ lb) W (Ret fun _ W' => J xs.length W')
theorem range_wp {P : Program} {n m N : Nat} {g : Operand} {p1 p2 : Nat} {assign body : Code} {Q : Exit → Act → World → Prop} {G : Env} {w : World} {gf : Nat} {lb : Array Value} {xs : List (Value × Value)} {I : Nat → World → Prop} {Kp : World → World → Prop}
    (hg : Env.ev G g = some (.func (.func gf) #[] lb)) (hf : FnOk P gf) (hp1 : Nat.blt p1 n = true) (hp2 : Nat.blt p2 n = true) (hit : IterOk P m gf lb xs Kp w)
    (hKt : ∀ A B C, Kp A B → Kp B C → Kp A C) (hKp : ∀ W l o', w.heap.size ≤ l → Kp W (W.putObj l o')) (hKa : ∀ W o, w.heap.size ≤ W.heap.size → Kp W (W.alloc o))
    (h0 : I 0 w) (hIa : ∀ W o, I 0 W → I 0 (W.alloc o)) (hIp : ∀ k W l o o', I k W → w.heap.size ≤ l → W.heap[l]? = some o → o.isCells = false → I k (W.putObj l o'))
    (rnd : ∀ k x W l, I k W → xs[k]? = some x → ∀ a, Models n a ((p2, x.2) :: (p1, x.1) :: G) →
      assign.wpIn (Fr (some l)) (m - 1) P (fun e a1 w1 => e = .normal ∧ KeepsFrom w.heap.size W w1 ∧ Kp W w1 ∧ ∀ o o', w.heap.size ≤ l → w1.heap[l]? = some o → o.isCells = false →
        body.wpIn (Fr (some l)) (m - 1) P (fun e _ w3 => e = .normal ∧ KeepsFrom w.heap.size (w1.putObj l o') w3 ∧ Kp (w1.putObj l o') w3 ∧ I (k + 1) w3) a1 (w1.putObj l o')) a W)
    (done : ∀ a D W, Models n a G → w.heap.size ≤ D → I xs.length W → W.heap[D]? = some (.deferred (some [])) → Q .normal (wd [{ target := .collected D, args := #[] }] a) W) :
    ∀ a, Models n a G → (Code.rangeFunc g #[p1, p2] assign body).wpIn (Fr none) N P Q a w := by
  intro a ha
  refine wpIn_rangeFunc fun fn _ => ?_
  obtain ⟨rec, hrec⟩ : ∃ rec : LoopState → Option Code → Loop, rec = fun st pe => { state := st, pending := pe, fn, tmps := a.tmps, params := #[p1, p2], assign, body, defers := w.heap.size } := ⟨_, rfl⟩
  obtain ⟨W1, hW1⟩ : ∃ W1, (w.alloc (.deferred (some []))).alloc (.loop (rec .ready none)) = W1 := ⟨_, rfl⟩
  have hL1 : W1.heap[w.heap.size + 1]? = some (.loop (rec .ready none)) := by
    rw [← hW1]
    have := World.alloc_heap_new (w.alloc (.deferred (some []))) (.loop (rec .ready none))
    rwa [World.size_alloc] at this
  have hD1 : W1.heap[w.heap.size]? = some (.deferred (some [])) := by
    rw [← hW1]
    exact (Below.heap_alloc _ _ _ (by simp)).trans (World.alloc_heap_new w _)
  have hI1 : I 0 W1 := by rw [← hW1]; exact hIa _ _ (hIa _ _ h0)
  have hK1 : Kp w W1 := by rw [← hW1]; exact hKt _ _ _ (hKa _ _ (lR _)) (hKa _ _ (by simp))
  refine ⟨w.heap.size + 1, [{ target := .collected w.heap.size, args := #[] }], W1, { target := .fn (.func gf) lb, args := #[.func (.yield (w.heap.size + 1)) #[] #[]] }, W1, gf,
    #[.func (.yield (w.heap.size + 1)) #[] #[]] ++ lb, W1, ?_, ?_, fun _ _ => fr_fn _ _, ?_, fr_depth _ _, ?_⟩
  · rw [← hW1, hrec]; exact run_enterLoop_outer _ _ _ _ _
  · simp only [resolve, ha.ev hg]
    simp [go_sem]
  · simp [invoke, go_sem, run_callFunc_ok hf]
  · refine callsFr ((hit (w.heap.size + 1) (fun k W => I k W ∧ W.heap[w.heap.size + 1]? = some (.loop (rec .ready none)) ∧ W.heap[w.heap.size]? = some (.deferred (some []))) W1 hK1 ?_ ⟨hI1, hL1, hD1⟩).mono ?_)
    · rintro k x W ⟨hi, hl, hd⟩ hx
      have hlt : w.heap.size + 1 < W.heap.size := (Array.getElem?_eq_some_iff.1 hl).1
      have hy := run_yield (P := P) (args := #[x.1, x.2]) hl (by rw [hrec]; rfl)
      rw [hrec] at hy
      refine ⟨fn, _, assign, body, hy, roundIn_of_wpIn (F := Fr none) (fr_fn _ _) ?_⟩
      have hm : Models n { tmps := (a.tmps.setIfInBounds p1 x.1).setIfInBounds p2 x.2, defers := [] } ((p2, x.2) :: (p1, x.1) :: G) := by
        have := (ha.put hp1 x.1).put hp2 x.2
        refine ⟨?_, rfl, ?_⟩
        · simpa [Act.put] using this.size
        · intro q v hq
          simpa [Act.put] using this.val q v hq
      have hr := rnd k x W (w.heap.size + 1) hi hx _ hm
      have et : (#[p1, p2].zip #[x.1, x.2]).foldl (fun (tmps : Array Value) (x : Nat × Value) => tmps.setIfInBounds x.1 x.2) a.tmps = (a.tmps.setIfInBounds p1 x.1).setIfInBounds p2 x.2 := by simp
      rw [← et] at hr
      refine wpIn_mono (F := Fr (some (w.heap.size + 1))) hr ?_
      rintro e a1 w1 ⟨rfl, hkf, hkp, hb⟩
      have hl1 := hkf.same _ _ (by omega) hl rfl
      have hd1 := hkf.same _ _ (lR _) hd rfl
      refine ⟨_, run_beginRound hl1 (by rw [hrec]), ?_⟩
      have hlt1 := (Array.getElem?_eq_some_iff.1 hl1).1
      have hl2 : (w1.putObj (w.heap.size + 1) (.loop { rec .ready none with state := .busy })).heap[w.heap.size + 1]? = some (.loop { rec .ready none with state := .busy }) := World.putObj_heap_same hlt1
      have hd2 : (w1.putObj (w.heap.size + 1) (.loop { rec .ready none with state := .busy })).heap[w.heap.size]? = some (.deferred (some [])) := (World.putObj_heap_other (by omega)).trans hd1
      refine wpIn_mono (F := Fr (some (w.heap.size + 1))) (hb _ _ (by omega) hl1 rfl) ?_
      rintro e a3 w3 ⟨rfl, hkf3, hkp3, hi3⟩
      have hl3 := hkf3.same _ _ (by omega) hl2 rfl
      have hd3 := hkf3.same _ _ (lR _) hd2 rfl
      have hend := run_endRound (P := P) none hl3
      rw [hrec] at hend
      refine ⟨_, _, hend, rfl, ⟨hIp _ _ _ _ _ hi3 (by omega) hl3 rfl, ?_, (World.putObj_heap_other (by omega)).trans hd3⟩, ?_⟩
      · rw [hrec]; exact World.putObj_heap_same (Array.getElem?_eq_some_iff.1 hl3).1
      · exact hKt _ _ _ (hKt _ _ _ (hKt _ _ _ hkp (hKp _ _ _ (by omega))) hkp3) (hKp _ _ _ (by omega))
    · rintro e W2 hr
      cases e with
      | returned v =>
        obtain ⟨hi, hl, hd⟩ := hr
        refine ⟨none, W2.putObj (w.heap.size + 1) (.loop { rec .ready none with state := .exhausted }), ?_, ?_⟩
        · have := run_endLoop (P := P) hl (by rw [hrec]; simp)
          rw [hrec] at this ⊢
          exact this
        · have hdd := done a w.heap.size _ ha (lR _) (hIp _ _ _ _ (.loop { rec .ready none with state := .exhausted }) hi (by omega) hl rfl) ((World.putObj_heap_other (by omega)).trans hd)
          have e1 : wd [{ target := .collected w.heap.size, args := #[] }] a = { a with defers := [{ target := .collected w.heap.size, args := #[] }] ++ a.defers } := by
            rw [ha.defers]; rfl
          rw [e1] at hdd
          exact hdd
      | panicked c => exact hr.elim
      | outgrown => exact hr.elim
theorem c_enterM {P : Program} {n m : Nat} {f : FuncId} {fn : Func} {c : Code} {args : Array Value} {w : World} {R : Value → World → Prop} (hf : P.funcs[f]? = some fn) (hb : fn.body = some c) (hn : fn.ntmps = n) (hs : Nat.ble args.size n = true)
    (h : WC P n (bodyPostM (Fr none) m P fn (Ret R)) (argEnv 0 args.toList) w c) : Calls P f args w (Ret R) := by
  refine (callsIn_wide (n := m)).1 (callsIn_of_wp_marks hf hb (fr_fn none f) ((wpIn_wide (n := m)).2 (h _ ⟨?_, rfl, fun k v hv => ?_⟩)) rfl)
  · have hs' : args.size ≤ n := by simpa using hs
    simp [hn]; omega
  · obtain ⟨_, h2⟩ := argEnv_get _ _ _ _ hv
    simp only [Nat.sub_zero, Array.getElem?_toList] at h2
    have hlt : k < args.size := (Array.getElem?_eq_some_iff.1 h2).1
    rw [Array.getElem?_append_left hlt]
    exact h2
theorem c_range {P : Program} {n N : Nat} {Q : Exit → Act → World → Prop} {G : Env} {w : World} {c : Code} (h : ∀ a, Models n a G → c.wpIn (Fr none) N P Q a w) : WC P n Q G w c := fun a ha => (wpIn_wide (n := N)).1 (h a ha)
theorem m_ret {P : Program} {m : Nat} {fn : Func} {R : Value → World → Prop} {a : Act} {D : Nat} {w : World} (hD : w.heap[D]? = some (.deferred (some []))) (h : bodyPost P fn (Ret R) .ret a (w.putObj D (.deferred none))) :
    bodyPostM (Fr none) m P fn (Ret R) .ret (wd [{ target := .collected D, args := #[] }] a) w :=
  ⟨by simp, .inl ⟨_, _, rfl, run_takeDeferred hD, h.2⟩⟩
/-! ## Blocks that hold no cells -/
theorem put_cell {W : World} {l : Nat} {o o' : Obj} {p : Addr} {v : Value} (hl : W.heap[l]? = some o) (hc : o.isCells = false) (h : W.cell? p = some v) : (W.putObj l o').cell? p = some v :=
  cell_kept h (grownBy_putObj' W l o') (fun r e => by cases e; exact ⟨o, hl, hc⟩)
theorem put_at {M : Nat → Prop} {W : World} {l b off : Nat} {o o' : Obj} {cs : List Value} (hl : W.heap[l]? = some o) (hc : o.isCells = false) (h : At M W b off cs) : At M (W.putObj l o') b off cs :=
  ⟨by simpa using h.lt, h.nM, fun j v hv => put_cell hl hc (h.cell j v hv)⟩
theorem put_box {W : World} {l b t : Nat} {o o' : Obj} {cs : List Value} (hl : W.heap[l]? = some o) (hc : o.isCells = false) (h : Box W b t cs) : Box (W.putObj l o') b t cs := by
  refine ⟨(World.putObj_heap_other fun e => ?_).trans h.heap⟩
  have hb := h.heap
  rw [e, hl] at hb
  cases hb
  cases hc
theorem put_keeps {B : Nat} {W : World} {l : Nat} {o o' : Obj} (hl : W.heap[l]? = some o) (hc : o.isCells = false) {M : Nat → Prop} {b t : Nat} {cs : List Value} (h : MB B M W b t cs) : MB B M (W.putObj l o') b t cs := ⟨put_box hl hc h.box, h.inM, h.ge⟩
theorem put_low {M : Nat → Prop} {W : World} {l : Nat} {o' : Obj} (h : Low M W) : Low M (W.putObj l o') := fun b hb => by simpa using h b hb
theorem put_below {n : Nat} {w0 W : World} {l : Nat} {o' : Obj} (h : Below n w0 W) (hn : n ≤ l) (hs : n ≤ W.heap.size) : Below n w0 (W.putObj l o') := h.grown (grownBy_putObj' W l o') hs (fun k e => by cases e; exact hn)
theorem ext_keeps {B : Nat} {W W' : World} (h : Ext W W') : KeepsFrom B W W' := ⟨h.size, fun k _ _ hk _ => (h.block k (Array.getElem?_eq_some_iff.1 hk).1).trans hk⟩
theorem updb_keeps {B b t : Nat} {W W' : World} {cs : List Value} (h : UpdB b W W') (hb : Box W b t cs) : KeepsFrom B W W' := ⟨h.upd.1, fun k o _ hk hc => by
  refine (h.upd.2 k (Array.getElem?_eq_some_iff.1 hk).1 fun e => ?_).trans hk
  subst e
  rw [hb.heap] at hk
  cases hk
  cases hc⟩
theorem sl_choose {α : Type} [Rep α] {M : Nat → Prop} {w : World} {v : Value} {l : List α} (h : Sl M w v l) : ∃ (bs off cap : Nat) (us : Nat → Value), ∀ i x, l[i]? = some x → v = .slice (some ⟨bs, off, none⟩) l.length cap ∧ Rep.R M w (us i) x ∧ At M w bs (off + i * Rep.sz α) (us i).cells.toList := by
  obtain ⟨a, cap, rfl, _, _, he⟩ := h
  rcases he with he | ⟨bs, off, rfl, hel⟩
  · subst he
    exact ⟨0, 0, 0, fun _ => .nilFunc, fun i x hx => by simp at hx⟩
  · have key : ∀ i : Nat, ∃ u : Value, ∀ x, l[i]? = some x → Rep.R M w u x ∧ At M w bs (off + i * Rep.sz α) u.cells.toList := fun i => by
      cases hi : l[i]? with
      | none => exact ⟨.nilFunc, fun x hx => by cases hx⟩
      | some x =>
        obtain ⟨u, h1, h2⟩ := hel i x hi
        exact ⟨u, fun y hy => by cases hy; exact ⟨h1, h2⟩⟩
    obtain ⟨us, hus⟩ := Classical.axiomOfChoice key
    exact ⟨bs, off, cap, us, fun i x hx => ⟨rfl, hus i x hx⟩⟩
/-! ## A part of an element of a slice of the call's own; slices that won't be written any more -/
section
variable {P : Program} {T : Tab} {n : Nat} {ops : Array Oper} {Q : Exit → Act → World → Prop} {G : Env} {w : World} {K : Env → World → Prop}
  {ty : Nat} {pos : String} {af : Array Go.Edge} {g : Option (Nat × Bool)}
theorem splice_in (c u x : List Value) (o k : Nat) (hu : ∀ j v, u[j]? = some v → c[o + j]? = some v) (hk : k + x.length ≤ u.length) (ho : o + u.length ≤ c.length) :
    c.take (o + k) ++ x ++ c.drop (o + k + x.length) = c.take o ++ (u.take k ++ x ++ u.drop (k + x.length)) ++ c.drop (o + u.length) := by
  apply List.ext_getElem?
  intro i
  have t1 : (c.take (o + k)).length = o + k := by rw [List.length_take]; omega
  have t2 : (c.take o).length = o := by rw [List.length_take]; omega
  have t3 : (u.take k).length = k := by rw [List.length_take]; omega
  have hcu : ∀ j, j < u.length → u[j]? = c[o + j]? := fun j hj => by rw [gE hj]; exact (hu j _ (gE hj)).symm
  have hL : (c.take (o + k) ++ x ++ c.drop (o + k + x.length))[i]? = if i < o + k then c[i]? else if i < o + k + x.length then x[i - (o + k)]? else c[i]? := by
    rw [List.append_assoc]
    split
    · rw [List.getElem?_append_left (by omega), List.getElem?_take, if_pos (by assumption)]
    · rw [List.getElem?_append_right (by omega), t1]
      split
      · rw [List.getElem?_append_left (by omega)]
      · rw [List.getElem?_append_right (by omega), List.getElem?_drop]
        congr 1; omega
  have hY : ∀ q, (u.take k ++ x ++ u.drop (k + x.length))[q]? = if q < k then u[q]? else if q < k + x.length then x[q - k]? else u[q]? := fun q => by
    rw [List.append_assoc]
    split
    · rw [List.getElem?_append_left (by omega), List.getElem?_take, if_pos (by assumption)]
    · rw [List.getElem?_append_right (by omega), t3]
      split
      · rw [List.getElem?_append_left (by omega)]
      · rw [List.getElem?_append_right (by omega), List.getElem?_drop]
        congr 1; omega
  have l1 : (u.take k ++ x ++ u.drop (k + x.length)).length = u.length := by simp; omega
  have hR : (c.take o ++ (u.take k ++ x ++ u.drop (k + x.length)) ++ c.drop (o + u.length))[i]? = if i < o then c[i]? else if i < o + u.length then (u.take k ++ x ++ u.drop (k + x.length))[i - o]? else c[i]? := by
    rw [List.append_assoc (c.take o)]
    split
    · rw [List.getElem?_append_left (by omega), List.getElem?_take, if_pos (by assumption)]
    · rw [List.getElem?_append_right (by omega), t2]
      split
      · rw [List.getElem?_append_left (by omega)]
      · rw [List.getElem?_append_right (by omega), l1, List.getElem?_drop]
        congr 1; omega
  rw [hL, hR, hY]
  repeat' split
  all_goals first | rfl | (exfalso; omega) | (rw [hcu _ (by omega)]; congr 1; omega) | (congr 1; omega)
theorem o_stP {t e B : Nat} {x y : Operand} {b o j k : Nat} {α : Type} [Rep α] {M : Nat → Prop} {v vx u : Value} {l : List α} {z : α} {us : List Value} {te tx : TI} (hT : TabOk P T) (hs : OwnSl e B M w v l) (hb : v.ownBlock = some b) (hj : j < l.length) (hat : ∀ q a, us[q]? = some a → w.cell? ⟨b, j * te.size + q, none⟩ = some a) (husl : us.length = te.size) (hR : Rep.R M w u z) (hl : Low M w)
    (hx : Env.ev G x = some (.pointer (some ⟨b, o, none⟩))) (ho : o = j * te.size + k) (hy : Env.ev G y = some vx) (ht : T.get t = some tx) (hte : T.get e = some te) (hsz : te.size = Rep.sz α) (hvx : vx.cells.size = tx.size) (hone : ∀ a ∈ vx.cells.toList, a.oneCell' = true) (hk : k + tx.size ≤ te.size)
    (hu : u.cells.toList = us.take k ++ vx.cells.toList ++ us.drop (k + vx.cells.toList.length))
    (hg : gd ops G ⟨none, .store t x y, ty, pos, af, g⟩ = some true)
    (h : ∀ w', OwnSl e B M w' v (l.set j z) → Stp B M M w w' → (∀ k, k < w.heap.size → k ≠ b → w'.heap[k]? = w.heap[k]?) → K G w') : OW P n ops Q G w ⟨none, .store t x y, ty, pos, af, g⟩ K := by
  obtain ⟨vs, hr, hrs⟩ := hs.row
  subst ho
  rcases hr.2 with ⟨rfl, hn⟩ | ⟨b', cap, cur, rfl, hB, hh, hnc, hcm, hcs, htake⟩
  · omega
  simp only [Value.ownBlock, Option.some.injEq] at hb
  subst hb
  have husz : u.cells.size = te.size := by rw [hsz]; exact Rep.size hR
  have hlen : vs.length = l.length := hrs.length
  have hle : (j + 1) * te.size ≤ l.length * te.size := Nat.mul_le_mul_right _ hj
  have hle2 : l.length * te.size ≤ cap * te.size := Nat.mul_le_mul_right _ hnc
  rw [Nat.add_mul, Nat.one_mul] at hle
  have hct0 : cur.toList.length = cap * te.size := by rw [hsz]; simpa using hcs
  have hfit : j * te.size + k + vx.cells.size ≤ cur.size := by rw [hvx, hcs, ← hsz]; omega
  have hrun := run_store_row hT ht hh hvx hone hfit
  have hfitu : j * te.size + u.cells.size ≤ cur.size := by rw [husz, hcs, ← hsz]; omega
  have hM := hs.inM b' rfl
  have hcell : ∀ q a, us[q]? = some a → cur.toList[j * te.size + q]? = some a := fun q a hq => by
    have := hat q a hq
    simp only [World.cell?, hh] at this
    rw [Array.getElem?_toList]
    simpa using this
  have hlv : vx.cells.toList.length = vx.cells.size := by simp
  have hsp := splice_in cur.toList us vx.cells.toList (j * te.size) k hcell (by rw [hlv]; omega) (by omega)
  rw [← hu, husl] at hsp
  have hrow : (cur.toList.take (j * te.size + k) ++ vx.cells.toList ++ cur.toList.drop (j * te.size + k + vx.cells.size)).toArray = (cur.toList.take (j * te.size) ++ u.cells.toList ++ cur.toList.drop (j * te.size + u.cells.size)).toArray := by
    rw [← hlv, hsp, husz]
  rw [hrow] at hrun
  refine o_unit (w' := w.setRow b' (cur.toList.take (j * te.size) ++ u.cells.toList ++ cur.toList.drop (j * te.size + u.cells.size)).toArray) hg rfl (fun a ha => ?_)
    (h _ ⟨⟨vs.set j u, ⟨?_, .inr ⟨b', cap, _, ?_, hB, setRow_heap w b' cur _ e _ hh, ?_, hcm, ?_, ?_⟩⟩, ?_⟩, hs.inM⟩ ?_ (fun k _ hk => setRow_other w b' k _ hk))
  · simp [execOp, ha.ev hx, ha.ev hy, Instr.storeAt, Instr.sureAddr, hrun]
  · have := (hrs.set j hR).flat_length
    rw [this]
  · rw [List.length_set]
  · rw [List.length_set]; exact hnc
  · simp only [List.size_toArray, List.length_append, List.length_take, List.length_drop, Array.length_toList]
    omega
  · rw [List.length_set, flat_set vs hrs.sizes j u (by omega) (by rw [husz, hsz]), ← htake]
    rw [hsz] at hle hle2 husz
    simp only [hsz, husz]
    have hct : cur.toList.length = cap * Rep.sz α := by simpa using hcs
    have hul : u.cells.toList.length = Rep.sz α := by simpa using husz
    have hml : (j + 1) * Rep.sz α ≤ l.length * Rep.sz α := Nat.mul_le_mul_right _ hj
    rw [Nat.add_mul, Nat.one_mul] at hml
    have := take_splice cur.toList u.cells.toList (j * Rep.sz α) (l.length * Rep.sz α) (by rw [hul]; exact hml) (by rw [hct]; exact hle2)
    rw [hul] at this
    rw [this, List.take_take, Nat.min_eq_left (by omega)]
  · exact Rs.set (Rs.upd hrs ⟨by simp, fun k _ hk => setRow_other w b' k _ (fun e => hk (e ▸ hM))⟩) j (Rep.upd hR ⟨by simp, fun k _ hk => setRow_other w b' k _ (fun e => hk (e ▸ hM))⟩)
  · exact ⟨⟨by simp, fun k _ hk => setRow_other w b' k _ (fun e => hk (e ▸ hM))⟩, fun _ _ h => h, fun _ h => h, fun k hk => by simpa using hl k hk, ⟨rfl, rfl, rfl, by simp, fun k hk => setRow_other w b' k _ (by omega)⟩⟩
end
/-- M but for a slice's block: it won't be written any more. -/
def Less (M : Nat → Prop) (v : Value) : Nat → Prop := fun b => M b ∧ v.ownBlock ≠ some b
theorem less_sub {M : Nat → Prop} {v : Value} (b : Nat) (h : Less M v b) : M b := h.1
theorem OwnSl.froze {α : Type} [Rep α] {e B : Nat} {M : Nat → Prop} {w : World} {v : Value} {l : List α} (h : OwnSl e B M w v l) (hl : l.length < 140737488355328) : Sl (Less M v) w v l := by
  obtain ⟨us, hr, hs⟩ := h.row
  have hlt := hr.lt
  rcases hr.2 with ⟨rfl, hn⟩ | ⟨g, cap, cur, rfl, hB, hg, hc, _, _, htake⟩
  · have : l = [] := List.eq_nil_of_length_eq_zero hn
    subst this
    exact sl_nil
  · refine ⟨_, cap, rfl, hl, hc, .inr ⟨g, 0, rfl, fun i x hx => ?_⟩⟩
    obtain ⟨u, hu, hR⟩ := hs.get hx
    refine ⟨u, Rep.wk hR (fun b _ hb => hb.1), (hlt g rfl).2, fun hm => hm.2 rfl, fun j c hc => ?_⟩
    have := hr.cells (g := g) rfl (i * Rep.sz α + j) c (hs.flat_get hu j c hc)
    rw [addr_add] at this
    rwa [show 0 + i * Rep.sz α + j = 0 + (i * Rep.sz α + j) by omega]
theorem MB.less {B : Nat} {M : Nat → Prop} {w : World} {b t : Nat} {cs : List Value} {v : Value} (h : MB B M w b t cs) (hn : ∀ x, v.ownBlock = some x → x ≠ b) : MB B (Less M v) w b t cs := ⟨h.box, ⟨h.inM, fun e => hn _ e rfl⟩, h.ge⟩
theorem OwnSl.mono {α : Type} [Rep α] {e B B' : Nat} {M : Nat → Prop} {w : World} {v : Value} {l : List α} (h : OwnSl e B M w v l) (hB : B' ≤ B) : OwnSl e B' M w v l := by
  obtain ⟨us, hr, hs⟩ := h.row
  refine ⟨⟨us, ⟨hr.1, ?_⟩, hs⟩, h.inM⟩
  rcases hr.2 with hn | ⟨g, cap, cur, h1, h2, rest⟩
  · exact .inl hn
  · exact .inr ⟨g, cap, cur, h1, Nat.le_trans hB h2, rest⟩
theorem Stp.mono {B B' : Nat} {M M' : Nat → Prop} {w w' : World} (h : Stp B M M' w w') (hB : B' ≤ B) : Stp B' M M' w w' := ⟨h.upd, h.wk, h.sub, h.low, Below.mono h.below hB⟩
end Rw
namespace Go.Proofs.YtpoahmeacjggfaaGreat
open Go Rw Go.RowKit
set_option maxRecDepth 100000
theorem backward_spec (M : Nat → Prop) (w : World) (v : Value) (l : List Fld) (hs : Sl M w v l) (Lw : Low M w) :
  Calls Tryz.prog 118 #[v] w (Ret fun r w' => (∃ b, r = .func (.func 121) #[] #[.pointer (some ⟨b, 0, none⟩)] ∧ At M w' b 0 [v]) ∧ Ext w w') := by
 have hE := Below.refl w.heap.size w
 have hB := lR w.heap.size
 refine cN (n := 4) Tryz.func118 rfl rfl rfl ?_
 refine q0 ?_
 refine lC (o_box rfl rfl rfl ?_)
 intro b1 w1 hb_b1 ew1 h1
 replace h1 := h1.at (nO Lw hb_b1)
 replace hE := ew1.bl hE hB
 replace hs := hs.Y ew1
 replace Lw := Lw.Y ew1
 replace hB := ew1.z hB
 replace h1 := h1.sl hs
 refine lP 1 tK rfl (q1 (q0 (lP 2 tK rfl (q1 (cR (x1_ rfl rfl ?_))))))
 exact ⟨⟨b1, rfl, h1⟩, hE⟩
/-- What it hands to yield. -/
def backL (l : List Fld) (us : Nat → Value) : List (Value × Value) := (List.range l.length).map fun (k : Nat) => (Value.int .i64 ((l.length : Int) - 1 - (k : Int)), us (l.length - 1 - k))
theorem backL_get {l : List Fld} {us : Nat → Value} {k : Nat} (hk : k < l.length) : (backL l us)[k]? = some (Value.int .i64 ((l.length : Int) - 1 - (k : Int)), us (l.length - 1 - k)) := by
 unfold backL
 rw [List.getElem?_map, List.getElem?_range hk]; rfl
theorem backL_of {l : List Fld} {us : Nat → Value} {k : Nat} {x : Value × Value} (h : (backL l us)[k]? = some x) : k < l.length ∧ x = (Value.int .i64 ((l.length : Int) - 1 - (k : Int)), us (l.length - 1 - k)) := by
 have hk : k < l.length := by
  have := (List.getElem?_eq_some_iff.1 h).1
  simpa [backL] using this
 rw [backL_get hk] at h
 exact ⟨hk, (Option.some.inj h).symm⟩
theorem backward_iter (M : Nat → Prop) (w0 : World) (b1 bs off cap m : Nat) (v : Value) (l : List Fld) (us : Nat → Value) (Kp : World → World → Prop) (hL : l.length < 140737488355328)
  (hagg : ∀ i x, l[i]? = some x → us i = .agg (us i).cells.toList.toArray ∧ (us i).cells.toList.length = 5) (hKt : ∀ A B C, Kp A B → Kp B C → Kp A C)
  (hk : ∀ W, Kp w0 W → At M W b1 0 [v] ∧ Sl M W v l ∧ ∀ i x, l[i]? = some x → v = .slice (some ⟨bs, off, none⟩) l.length cap ∧ At M W bs (off + i * 5) (us i).cells.toList) :
  IterOk Tryz.prog m 121 #[.pointer (some ⟨b1, 0, none⟩)] (backL l us) Kp w0 := by
 intro lp J w hk0 hround h0
 show Calls Tryz.prog 121 #[.func (.yield lp) #[] #[], .pointer (some ⟨b1, 0, none⟩)] w _
 obtain ⟨h1, hs, _⟩ := hk w hk0
 refine cN (n := 19) Tryz.func121 rfl rfl rfl ?_
 refine q0 ?_
 refine lC (oD tK (h1.cell 0 _ rfl) rfl rfl rfl rfl rfl ?_)
 refine lC (o_len tK hs rfl rfl rfl rfl rfl ?_)
 refine lC (o_ai rfl rfl rfl (by omega) rfl rfl ?_)
 refine lP 1 tK rfl (q1 (cB ?_))
 refine c_loop (X := Nat) (fun j => [(0, .func (.yield lp) #[] #[]), (1, .pointer (some ⟨b1, 0, none⟩)), (3, .int .i64 ((j : Int) - 1))]) (fun j w' => j ≤ l.length ∧ J (l.length - j) w' ∧ Kp w0 w') (fun j => j) (l.length) (s3 rfl rfl rfl) ?_ ?_
 ·exact ⟨lR _, by rw [Nat.sub_self]; exact h0, hk0⟩
 clear h1 hs
 rintro j w1 ⟨hj, hJ, hkp⟩
 refine cS (q0 (lP 2 tK rfl (q1 ?_)))
 refine cP _ rfl (fun hc => ?_) (fun hc => ?_)
 ·obtain ⟨j0, rfl⟩ : ∃ j0, j = j0 + 1 := ⟨j - 1, by omega⟩
  have hj0 : j0 < l.length := by omega
  obtain ⟨h1, hs, hel⟩ := hk _ hkp
  obtain ⟨rfl, hat⟩ := hel j0 _ (gE hj0)
  obtain ⟨hag, hsz⟩ := hagg j0 _ (gE hj0)
  have hy := hround (l.length - (j0 + 1)) (Value.int .i64 (((j0 + 1 : Nat) : Int) - 1), us j0) _ hJ (by rw [backL_get (by omega)]; congr 3 <;> omega)
  simp only at hy
  rw [hag] at hy
  refine cK (xS (cS (cB (cS ?_))))
  refine c_regI (m := m) (l := [0, 1, 2, 3, 4, 5, 6, 7]) rfl ?_
  refine li_cons rfl rfl (fun ⟨_, _, h⟩ => h) (o_p tK rfl rfl rfl ?_)
  refine li_cons rfl rfl (fun ⟨_, _, h⟩ => h) (o_p tK rfl rfl rfl ?_)
  refine li_cons rfl rfl (fun ⟨_, _, h⟩ => h) (oD tK (h1.cell 0 _ rfl) rfl rfl rfl rfl rfl ?_)
  refine li_cons rfl rfl (fun ⟨_, _, h⟩ => h) (o_p tK rfl rfl rfl ?_)
  refine li_cons rfl rfl (fun ⟨_, _, h⟩ => h) (o_ix tK rfl rfl rfl rfl rfl (j := j0) (by omega) hj0 rfl rfl ?_)
  refine li_cons rfl rfl (fun ⟨_, _, h⟩ => h) (oL tK (cs := (us j0).cells.toList) (fun j v hv => hat.cell j v hv) rfl rfl rfl hsz rfl rfl ?_)
  refine li_yield rfl rfl rfl rfl hy ?_
  rintro _ w2 ⟨rfl, hJ2, hkp2⟩
  refine ⟨true, rfl, ?_⟩
  refine li_cons rfl rfl (fun ⟨_, _, h⟩ => h) (o_p tK rfl rfl rfl ?_)
  refine li_nil ?_
  refine xS (c_ifF rfl (cK (x_blk (xS (cG (lP 1 tK rfl ?_))))))
  refine lC (o_ai rfl rfl rfl (by omega) rfl rfl ?_)
  refine lP 1 tK rfl (lN ?_)
  exact x_round (j0) (s3 rfl rfl (gN rfl (by omega))) ⟨by omega, by rw [show l.length - j0 = l.length - (j0 + 1) + 1 by omega]; exact hJ2, hKt _ _ _ hkp hkp2⟩ (by omega)
 obtain rfl : j = 0 := by omega
 refine c_exit (xE (xE (x_blkE ?_)))
 refine x_ret0n rfl ?_
 show J (backL l us).length _
 rw [show (backL l us).length = l.length by simp [backL]]
 exact hJ
theorem otyPutO {E B : Nat} {W : World} {t : Ty} {v : Value} {F : Nat → Prop} {l : Nat} {o o' : Obj} (hl : W.heap[l]? = some o) (hc : o.isCells = false) (h : OTy E B W t v F) : OTy E B (W.putObj l o') t v F :=
 h.keepC (by simp) fun c cs T _ hg => World.putObj_heap_other (fun e => by subst e; rw [hg] at hl; cases hl; simp [Obj.isCells] at hc)
def JI (M : Nat → Prop) (B : Nat) (w wr : World) (b4 b5 : Nat) (t : Ty) (W : World) : Prop := ∃ kv F, MB B M W b5 29 [.int .u8 t.op, .string t.name, .int .i64 t.n, kv] ∧ OTy 29 B W t (.agg #[.int .u8 t.op, .string t.name, .int .i64 t.n, kv]) F ∧ (∀ x, F x → x ≠ b4) ∧ (∀ x, F x → x ≠ b5) ∧ MB B M W b4 29 [.int .u8 0, .string ⟨#[]⟩, .int .i64 0, .slice none 0 0] ∧ Low M W ∧ B ≤ W.heap.size ∧ Below B w W ∧
 (wr.heap.size ≤ W.heap.size ∧ ∀ x, x < wr.heap.size → x ≠ b5 → W.heap[x]? = wr.heap[x]?)
theorem JI.alloc {M : Nat → Prop} {B : Nat} {w wr : World} {b4 b5 : Nat} {t : Ty} {W : World} (o : Obj) (h : JI M B w wr b4 b5 t W) : JI M B w wr b4 b5 t (W.alloc o) := by
 obtain ⟨kv, F, h5, ht, hd4, hd5, h4, Lw, hB, hE, hf⟩ := h
 have e := ext_alloc W o
 exact ⟨kv, F, h5.Y Lw hB e, ht.Y Lw hB e, hd4, hd5, h4.Y Lw hB e, Lw.Y e, Nat.le_trans hB e.size, hE.trans (Below.mono e hB), Nat.le_trans hf.1 e.size, fun x hx hn => (e.block x (lT hx hf.1)).trans (hf.2 x hx hn)⟩
theorem JI.put {M : Nat → Prop} {B : Nat} {w wr : World} {b4 b5 : Nat} {t : Ty} {W : World} {l : Nat} {o o' : Obj} (h : JI M B w wr b4 b5 t W) (hB0 : B ≤ wr.heap.size) (hw : wr.heap.size ≤ l) (hl : W.heap[l]? = some o) (hc : o.isCells = false) : JI M B w wr b4 b5 t (W.putObj l o') := by
 obtain ⟨kv, F, h5, ht, hd4, hd5, h4, Lw, hB, hE, hf⟩ := h
 exact ⟨kv, F, put_keeps hl hc h5, otyPutO hl hc ht, hd4, hd5, put_keeps hl hc h4, put_low Lw, by simpa using hB, put_below hE (by omega) hB, by simpa using hf.1, fun x hx hn => (World.putObj_heap_other (by omega)).trans (hf.2 x hx hn)⟩
theorem join_own (l : List Fld) (e : Ty) (M : Nat → Prop) (w : World) (v u : Value) (m : Nat) (hs : Sl M w v l) (he : Rep.R M w u e) (hlow0 : Low M w) (hz : ∀ x ∈ l, psz x.ty ≤ 2000000) (hze : psz e ≤ 2000000) :
  Calls Tryz.prog 113 #[v, u] w (Ret fun r w' => OTy 29 w.heap.size w' (ofF l e) r (Plus NoM w w') ∧ Ext w w') := by
 have Lw := hlow0
 have hB := lR w.heap.size
 have hE := Below.refl w.heap.size w
 have hsub : ∀ b, M b → M b := fun _ h => h
 obtain ⟨kve, rfl, ope, nme, n64e, hke⟩ := tO he
 have hL := hs.lt
 refine c_enterM (n := 23) (m := m) Tryz.func113 rfl rfl rfl ?_
 refine q0 ?_
 refine lC (o_box rfl rfl rfl ?_)
 intro b3 w1 hb_b3 ew1 h3
 replace h3 : Box _ b3 29 [.int .u8 e.op, .string e.name, .int .i64 e.n, kve] := h3
 replace h3 := h3.at (nO Lw hb_b3)
 replace hE := ew1.bl hE hB
 replace he := Rep.Y he ew1
 replace hke := hke.Y ew1
 replace hs := hs.Y ew1
 replace Lw := Lw.Y ew1
 replace hB := ew1.z hB
 refine lC (o_new tK rfl rfl rfl ?_)
 intro b4 w2 qb4 ew2 hb4
 have sw2 := Stp.add ew2 Lw hB (lQ qb4.symm) hb4.lt
 have h4 : MB w.heap.size (Rw.Add M b4) w2 b4 29 [.int .u8 0, .string ⟨#[]⟩, .int .i64 0, .slice none 0 0] := MB.mk' hb4 qb4 hB
 replace hE := hE.trans sw2.below
 replace he := Rep.sp he sw2
 replace hke := hke.sp sw2
 replace hs := hs.sp sw2
 replace h3 := h3.sp sw2
 replace hsub := sw2.sb hsub
 replace Lw := sw2.low
 replace hB := sw2.z hB
 refine q1 (q0 ?_)
 refine lC (oL tK (fun j v hv => h3.cell j v hv) rfl rfl rfl rfl rfl rfl ?_)
 have l_h4 := h4.lt
 have hB0 := hB
 refine lC (oK fo117 rfl rfl rfl (copied_own e _ _ _ he Lw hze) ?_)
 rintro vr w3 ⟨hr, ew3⟩
 replace hr := hr.ge hB0
 have hGl : ∀ c, Plus NoM w2 w3 c → w2.heap.size ≤ c := fun c h => h.elim (fun h => h.elim) (fun h => h.1)
 replace h4 := h4.Y Lw hB ew3
 replace hE := ew3.bl hE hB
 replace he := Rep.Y he ew3
 replace hke := hke.Y ew3
 replace hs := hs.Y ew3
 replace h3 := h3.Y ew3
 replace Lw := Lw.Y ew3
 replace hB := ew3.z hB
 generalize Plus NoM w2 w3 = F at hr hGl
 have d_hr_h4 : ∀ x, F x → x ≠ b4 := fun x hx => by have := hGl x hx; omega
 obtain ⟨kvr, usr, Hr, rfl, opr, nmr, n64r, hknr, hrr, hOr, hHr⟩ := oty_open hr
 refine lC (o_new tK rfl rfl rfl ?_)
 intro b5 w4 qb5 ew4 hb5
 have ne_h4_h5 : b4 ≠ b5 := by have := h4.lt; omega
 have d_hr_h5 : ∀ x, F x → x ≠ b5 := fun x hx => by have := (hr.lt x hx).2; omega
 have sw4 := Stp.add ew4 Lw hB (lQ qb5.symm) hb5.lt
 have h5 : MB w.heap.size (Rw.Add (Rw.Add M b4) b5) w4 b5 29 [.int .u8 0, .string ⟨#[]⟩, .int .i64 0, .slice none 0 0] := MB.mk' hb5 qb5 hB
 replace h4 := h4.sp sw4 (ew4.block b4 h4.lt)
 replace hr := hr.sp sw4 (fun x hx => ew4.block x (hr.lt x hx).2)
 replace hE := hE.trans sw4.below
 replace he := Rep.sp he sw4
 replace hke := hke.sp sw4
 replace hs := hs.sp sw4
 replace h3 := h3.sp sw4
 replace hsub := sw4.sb hsub
 replace Lw := sw4.low
 replace hB := sw4.z hB
 refine lC (o_st tK h5.box rfl rfl rfl rfl hr.one rfl rfl ?_)
 intro w5 hw5 qw5 bew5
 have uw5 : UpdB _ _ _ := ⟨qw5, bew5⟩
 have sw5 := uw5.sp h5.inM Lw h5.ge
 have frw5 := qw5.2
 replace h4 := h4.sp sw5 (frw5 b4 h4.lt ne_h4_h5)
 replace hr := hr.sp sw5 (fun x hx => frw5 x (hr.lt x hx).2 (d_hr_h5 x hx))
 replace hE := hE.trans sw5.below
 replace he := Rep.sp he sw5
 replace hke := hke.sp sw5
 replace hs := hs.sp sw5
 replace h3 := h3.sp sw5
 replace hsub := sw5.sb hsub
 replace Lw := sw5.low
 replace hB := sw5.z hB
 replace h5 : MB w.heap.size _ w5 b5 _ [.int .u8 e.op, .string e.name, .int .i64 e.n, kvr] := ⟨hw5, h5.inM, h5.ge⟩
 refine q1 (cS (q0 (lP 1 tK rfl ?_)))
 refine lC (oK fo118 rfl rfl rfl (backward_spec _ _ v l hs Lw) ?_)
 rintro _ w6 ⟨⟨bb, rfl, hbb⟩, ew6⟩
 replace h4 := h4.Y Lw hB ew6
 replace hr := hr.Y Lw hB ew6
 replace h5 := h5.Y Lw hB ew6
 replace hE := ew6.bl hE hB
 replace he := Rep.Y he ew6
 replace hke := hke.Y ew6
 replace hs := hs.Y ew6
 replace h3 := h3.Y ew6
 replace Lw := Lw.Y ew6
 replace hB := ew6.z hB
 refine q1 (cB ?_)
 obtain ⟨bs, off, cap, us, hus⟩ := sl_choose hs
 have H4 : b4 < w6.heap.size := h4.lt
 have hB0 : w.heap.size ≤ w6.heap.size := hB
 refine c_range (N := 1) (range_wp (m := m) (xs := backL l us) (I := fun k W => JI (Rw.Add (Rw.Add M b4) b5) w.heap.size w w6 b4 b5 (ofF (l.drop (l.length - k)) e) W) (Kp := fun A B => A.heap.size ≤ B.heap.size ∧ ∀ x, x < w6.heap.size → x ≠ b5 → B.heap[x]? = A.heap[x]?)
  rfl fo121 rfl rfl (backward_iter (Rw.Add (Rw.Add M b4) b5) w6 bb bs off cap m v l us _ hL (fun i x hx => ?_) (fun A B C h k => ⟨Nat.le_trans h.1 k.1, fun x hx hn => (k.2 x hx hn).trans (h.2 x hx hn)⟩) (fun W hW => ?_))
  (fun A B C h k => ⟨Nat.le_trans h.1 k.1, fun x hx hn => (k.2 x hx hn).trans (h.2 x hx hn)⟩) (fun W l o' hl => ⟨by simp, fun x hx _ => World.putObj_heap_other (by omega)⟩) (fun W o hs => ⟨by simp, fun x hx _ => (ext_alloc W o).block x (by omega)⟩)
  ?_ (fun W o h => h.alloc o) (fun k W l o o' h hl ho hc => h.put hB0 hl ho hc) ?_ ?_)
 ·obtain ⟨_, hR, _⟩ := hus i x hx
  obtain ⟨_, kvx, hux, _⟩ := fld_open hR
  rw [hux]; exact ⟨rfl, rfl⟩
 ·have hU : Upd (Rw.Add (Rw.Add M b4) b5) w6 W := ⟨hW.1, fun x hx hn => hW.2 x hx (fun e => hn (e ▸ h5.inM))⟩
  exact ⟨hbb.upd hU, hs.upd hU, fun i x hx => ⟨(hus i x hx).1, (hus i x hx).2.2.upd hU⟩⟩
 ·show JI _ _ _ _ _ _ (ofF (l.drop (l.length - 0)) e) _
  rw [Nat.sub_zero, List.drop_length]
  exact ⟨kvr, F, h5, hr, d_hr_h4, d_hr_h5, h4, Lw, hB, hE, lR _, fun _ _ _ => rfl⟩
 ·intro k x W lp hI hx a ha
  obtain ⟨hkl, rfl⟩ := backL_of hx
  obtain ⟨kv, F, h5, hr, d_hr_h4, d_hr_h5, h4, Lw, hB, hE, hfr⟩ := hI
  have hi : l.length - 1 - k < l.length := by omega
  have hU : Upd (Rw.Add (Rw.Add M b4) b5) w6 W := ⟨hfr.1, fun x hx hn => hfr.2 x hx (fun e => hn (e ▸ h5.inM))⟩
  have hfl := Rep.upd (hus _ _ (gE hi)).2.1 hU
  have hzz := hz _ (gM hi)
  have hT : ofF (l.drop (l.length - (k + 1))) e = .mk 11 l[l.length - 1 - k].name 0 [l[l.length - 1 - k].ty, (ofF (l.drop (l.length - k)) e)] := by
   rw [show l.length - (k + 1) = l.length - 1 - k by omega, List.drop_eq_getElem_cons hi, show l.length - 1 - k + 1 = l.length - k by omega]; rfl
  generalize hx0 : l[l.length - 1 - k] = x0 at hfl hzz hT
  generalize hr0 : (ofF (l.drop (l.length - k)) e) = r0 at hr h5 hT
  generalize hu0 : us (l.length - 1 - k) = u0 at hfl ha
  obtain ⟨szf, kvf, rfl, hyf⟩ := fld_open hfl
  refine ri_reg0 (K := fun a1 w1 => KeepsFrom w6.heap.size W w1 ∧ (W.heap.size ≤ w1.heap.size ∧ ∀ x, x < w6.heap.size → x ≠ b5 → w1.heap[x]? = W.heap[x]?) ∧ _) rfl (fun a1 w1 h => ⟨rfl, h.1, h.2.1, h.2.2⟩) ?_ a ha
  refine lC (o_new tK rfl rfl rfl ?_)
  intro b7 w7 qb7 ew7 hb7
  have nb7 := nO Lw qb7
  refine lC (o_st tK hb7 rfl rfl rfl rfl (Rep.one hfl) rfl rfl ?_)
  intro w8 h7 uw8 bew8
  have ew8 : Ext W w8 := ew7.trans (bew8 _ (lQ qb7.symm))
  replace h5 := h5.Y Lw hB ew8
  replace h4 := h4.Y Lw hB ew8
  replace hr := hr.Y Lw hB ew8
  replace hE := ew8.bl hE hB
  replace hfl := Rep.Y hfl ew8
  replace hyf := Rep.Y hyf ew8
  replace Lw := Lw.Y ew8
  replace hB := ew8.z hB
  replace h7 : Box w8 b7 125 [.string x0.name, .int .u8 x0.ty.op, .string x0.ty.name, .int .i64 x0.ty.n, kvf] := h7
  replace h7 := h7.at nb7
  refine lN ?_
  intro a1 ha1
  refine ⟨rfl, ha1.defers, ha1.defers, ext_keeps ew8, ⟨ew8.size, fun x hx hn => ew8.block x (lT hx hfr.1)⟩, ?_⟩
  intro o o' hlp ho hoc
  have hfr2 : ∀ x, x < w6.heap.size → x ≠ b5 → (w8.putObj lp o').heap[x]? = w6.heap[x]? := fun x hx hn => (World.putObj_heap_other (by omega)).trans ((ew8.block x (lT hx hfr.1)).trans (hfr.2 x hx hn))
  have hsz2 : w6.heap.size ≤ (w8.putObj lp o').heap.size := by simpa using Nat.le_trans hfr.1 ew8.size
  replace h5 := put_keeps (o' := o') ho hoc h5
  replace h4 := put_keeps (o' := o') ho hoc h4
  replace hr := otyPutO (o' := o') ho hoc hr
  replace hyf : Rep.R _ (w8.putObj lp o') _ x0.ty := TyR.map (fun h => put_at ho hoc h) _ _ hyf
  replace h7 := put_at (o' := o') ho hoc h7
  replace Lw := put_low (l := lp) (o' := o') Lw
  replace hE := put_below (l := lp) (o' := o') hE (by omega) hB
  replace hB : w.heap.size ≤ (w8.putObj lp o').heap.size := by simpa using hB
  generalize hW2 : w8.putObj lp o' = W2 at hfr2 hsz2 h5 h4 hr hyf h7 Lw hE hB
  have hU2 := UpdB.refl b5 W2
  have hb5 := h5.box
  refine wpIn_block (ri_any0 (K := fun a1 w3 => KeepsFrom w6.heap.size W2 w3 ∧ (W2.heap.size ≤ w3.heap.size ∧ ∀ x, x < w6.heap.size → x ≠ b5 → w3.heap[x]? = W2.heap[x]?) ∧ _) Ext rfl rfl (fun a1 w1 h => ⟨rfl, h.1, h.2.1, h.2.2⟩) ?_ a1 ha1)
  intro w9 ew9
  replace hU2 := hU2.trans (UpdB.Y ew9 h5.lt)
  replace h5 := h5.Y Lw hB ew9
  replace h4 := h4.Y Lw hB ew9
  replace hr := hr.Y Lw hB ew9
  replace hE := ew9.bl hE hB
  replace hyf := Rep.Y hyf ew9
  replace h7 := h7.Y ew9
  replace Lw := Lw.Y ew9
  replace hB := ew9.z hB
  have hS : Ext w9 w9 := ext_refl _
  have D_h5 := h5.box
  have D_h4 := h4.box
  have D_h7 := h7
  refine a_p 0 tK rfl rfl rfl rfl (by kernel_rfl) i3 hS ?_
  refine a_ld 1 tK (fun _ hs => (D_h7.Y hs).cell 0 _ rfl) rfl rfl rfl rfl rfl rfl (by kernel_rfl) i3 hS ?_
  refine a_p 2 tK rfl rfl rfl rfl (by kernel_rfl) i3 hS ?_
  refine a_lds 3 tK (fun _ hs j v hv => ((D_h7.Y hs)).drop 1 (sub := [.int .u8 x0.ty.op, .string x0.ty.name, .int .i64 x0.ty.n, kvf]) rfl j v hv) rfl rfl rfl rfl rfl rfl rfl (by kernel_rfl) i3 hS ?_
  refine a_lds 5 tK (fun _ hs j v hv => (D_h5.Y hs).cell j v hv) rfl rfl rfl rfl rfl rfl rfl (by kernel_rfl) i3 hS ?_
  have l_h4 := h4.lt
  have l_h5 := h5.lt
  have l_hr := hr.lt
  have hB0 := hB
  refine a_one 4 rfl (by kernel_rfl) (oK fo117 rfl rfl rfl (copied_own x0.ty _ _ _ hyf Lw hzz) ?_)
  rintro vc w10 ⟨hc, ew10⟩
  replace hc := hc.ge hB0
  have hGl : ∀ c, Plus NoM w9 w10 c → w9.heap.size ≤ c := fun c h => h.elim (fun h => h.elim) (fun h => h.1)
  replace hS := hS.then ew10
  replace hU2 := hU2.trans (UpdB.Y ew10 h5.lt)
  replace h5 := h5.Y Lw hB ew10
  replace h4 := h4.Y Lw hB ew10
  replace hr := hr.Y Lw hB ew10
  replace hE := ew10.bl hE hB
  replace hyf := Rep.Y hyf ew10
  replace h7 := h7.Y ew10
  replace Lw := Lw.Y ew10
  replace hB := ew10.z hB
  refine ⟨hS, ?_⟩
  generalize Plus NoM w9 w10 = G at hc hGl
  have d_hc_h4 : ∀ x, G x → x ≠ b4 := fun x hx => by have := hGl x hx; omega
  have d_hc_h5 : ∀ x, G x → x ≠ b5 := fun x hx => by have := hGl x hx; omega
  have dcr : ∀ c, F c → ¬ (NoM c ∨ G c) := fun c hf hg => hg.elim id fun hg => by have := hGl c hg; have := (l_hr c hf).2; omega
  have l_h4 := h4.lt
  have l_h5 := h5.lt
  have l_hr := hr.lt
  have l_hc := hc.lt
  have hB0 := hB
  refine a_one 6 rfl (by kernel_rfl) (o_bs tK rfl rfl rfl rfl rfl rfl rfl (sz2 hc.size rfl) rfl rfl rfl ?_)
  intro bw11 w11 qbw11 ew11 hbw11
  have nbw11 := nO Lw qbw11
  replace hS := hS.then ew11
  replace hU2 := hU2.trans (UpdB.Y ew11 h5.lt)
  replace h5 := h5.Y Lw hB ew11
  replace h4 := h4.Y Lw hB ew11
  replace hr := hr.Y Lw hB ew11
  replace hc := hc.Y Lw hB ew11
  replace hE := ew11.bl hE hB
  replace hyf := Rep.Y hyf ew11
  replace h7 := h7.Y ew11
  replace Lw := Lw.Y ew11
  replace hB := ew11.z hB
  refine ⟨hS, ?_⟩
  have hrs : Rs (α := VN 3) (fun c => c = bw11) w11 [vc, .agg #[.int .u8 r0.op, .string r0.name, .int .i64 r0.n, kv]] [⟨vc⟩, ⟨.agg #[.int .u8 r0.op, .string r0.name, .int .i64 r0.n, kv]⟩] := ⟨hc.vn, hr.vn, trivial⟩
  have hown : OwnSl 29 w.heap.size (fun c => c = bw11) w11 (.slice (some ⟨bw11, 0, none⟩) 2 2) ([⟨vc⟩, ⟨.agg #[.int .u8 r0.op, .string r0.name, .int .i64 r0.n, kv]⟩] : List (VN 3)) := own_lit hbw11 hrs rfl (by omega) (by simp [maxLen])
  have hts := ((ots_nil (E := 29) (B := w.heap.size) (w := w11) (F := NoM) (fun _ h => h.elim)).app hc (fun _ _ h => h)).app hr dcr
  have hbl := hbw11.lt
  refine a_build (cells := [.int .u8 11, .string x0.name, .int .i64 0, .slice (some ⟨bw11, 0, none⟩) 2 2]) 7 bd29 rfl rfl rfl rfl rfl rfl (by kernel_rfl) i3 hS ?_
  have hnew : OTy 29 w.heap.size w11 (Ty.mk 11 x0.name 0 [x0.ty, r0]) (.agg #[.int .u8 11, .string x0.name, .int .i64 0, .slice (some ⟨bw11, 0, none⟩) 2 2]) (fun c => c = bw11 ∨ ((NoM c ∨ G c) ∨ F c)) := oty_mk (by decide) szf ⟨by decide, by decide⟩ (by simp) (fun c hc2 => hc2.elim (fun h => by subst h; omega) (fun h => h.elim (fun h => h.elim (fun h => h.elim) (hc.lt c)) (hr.lt c))) (hown.keepV (fun x hx => .inl (hown.inM x hx)) (fun _ _ _ _ _ => rfl)) hts (fun c hc2 => ⟨.inr hc2, fun e => by simp [Value.ownBlock] at e; subst e; exact hc2.elim (fun h => h.elim id (fun h => by have := (l_hc _ h).2; omega)) (fun h => by have := (l_hr _ h).2; omega)⟩)
  have d_hnew_h4 : ∀ x, (fun c => c = bw11 ∨ ((NoM c ∨ G c) ∨ F c)) x → x ≠ b4 := fun x hx => hx.elim (fun h => by omega) (fun h => h.elim (fun h => h.elim (fun h => h.elim) (d_hc_h4 x)) (d_hr_h4 x))
  have d_hnew_h5 : ∀ x, (fun c => c = bw11 ∨ ((NoM c ∨ G c) ∨ F c)) x → x ≠ b5 := fun x hx => hx.elim (fun h => by omega) (fun h => h.elim (fun h => h.elim (fun h => h.elim) (d_hc_h5 x)) (d_hr_h5 x))
  refine a_barS Ext 8 rfl (by kernel_rfl) (by kernel_rfl) (o_st tK h5.box rfl rfl rfl rfl (by intro u hu; simp [Value.cells] at hu; rcases hu with rfl | rfl | rfl | rfl <;> rfl) rfl rfl ?_)
  intro w12 hw12 qw12 bew12
  have uw12 : UpdB _ _ _ := ⟨qw12, bew12⟩
  have sw12 := uw12.sp h5.inM Lw h5.ge
  have frw12 := qw12.2
  replace hU2 := hU2.trans uw12
  replace h4 := h4.sp sw12 (frw12 b4 h4.lt ne_h4_h5)
  replace hnew := hnew.sp sw12 (fun x hx => frw12 x (hnew.lt x hx).2 (d_hnew_h5 x hx))
  replace hE := hE.trans sw12.below
  replace hyf := Rep.sp hyf sw12
  replace h7 := h7.sp sw12
  replace Lw := sw12.low
  replace hB := sw12.z hB
  replace hS : Ext w12 w12 := ext_refl _
  replace h5 : MB w.heap.size _ w12 b5 _ [.int .u8 11, .string x0.name, .int .i64 0, .slice (some ⟨bw11, 0, none⟩) 2 2] := ⟨hw12, h5.inM, h5.ge⟩
  have D_h5 := h5.box
  have D_h4 := h4.box
  have D_h7 := h7
  refine a_end (by kernel_rfl) ?_
  intro a3 ha3
  refine ⟨rfl, ha3.defers, ha3.defers, updb_keeps hU2 hb5, ⟨hU2.upd.1, fun x hx hn => hU2.upd.2 x (lT hx hsz2) hn⟩, ?_⟩
  show JI _ _ _ _ _ _ (ofF (l.drop (l.length - (k + 1))) e) _
  rw [hT]
  exact ⟨_, _, h5, hnew, d_hnew_h4, d_hnew_h5, h4, Lw, hB, hE, Nat.le_trans hsz2 hU2.upd.1, fun x hx hn => (hU2.upd.2 x (lT hx hsz2) hn).trans (hfr2 x hx hn)⟩
 ·intro a D W ha hD hI hDd
  rw [show (backL l us).length = l.length by simp [backL]] at hI
  replace hI : JI _ _ _ _ _ _ (ofF (l.drop (l.length - l.length)) e) _ := hI
  rw [Nat.sub_self, List.drop_zero] at hI
  obtain ⟨kv, F, h5, hr, d_hr_h4, d_hr_h5, h4, Lw, hB, hE, hfr⟩ := hI
  refine (wpIn_wide (n := m)).1 (wpIn_seq (F := Fr none) ?_)
  refine ri_reg (r := none) (K := fun a1 w1 => bodyPostM (Fr none) m Tryz.prog Tryz.f113 (Ret fun r w' => OTy 29 w.heap.size w' (ofF l e) r (Plus NoM w w') ∧ Ext w w') .ret (wd [{ target := .collected D, args := #[] }] a1) w1) rfl (fun a1 w1 h => ?_) ?_ a ha
  ·exact wpIn_ret (F := Fr none) h
  generalize hr0 : ofF l e = r0 at hr h5
  refine lC (oL tK (fun j v hv => h5.cell j v hv) rfl rfl rfl rfl rfl rfl ?_)
  refine lC (o_st tK h4.box rfl rfl rfl rfl hr.one rfl rfl ?_)
  intro w13 hw13 qw13 bew13
  have uw13 : UpdB _ _ _ := ⟨qw13, bew13⟩
  have sw13 := uw13.sp h4.inM Lw h4.ge
  have frw13 := qw13.2
  replace h5 := h5.sp sw13 (frw13 b5 h5.lt ne_h4_h5.symm)
  replace hr := hr.sp sw13 (fun x hx => frw13 x (hr.lt x hx).2 (d_hr_h4 x hx))
  replace hE := hE.trans sw13.below
  replace Lw := sw13.low
  replace hB := sw13.z hB
  replace h4 : MB w.heap.size _ w13 b4 _ [.int .u8 r0.op, .string r0.name, .int .i64 r0.n, kv] := ⟨hw13, h4.inM, h4.ge⟩
  refine lN ?_
  intro a1 ha1
  have hDd2 : w13.heap[D]? = some (.deferred (some [])) := (qw13.2 D (Array.getElem?_eq_some_iff.1 hDd).1 (fun e => by have := h4.ge; have hb := h4.box.heap; have hx := h4.lt; have : b4 < w6.heap.size := H4; omega)).trans hDd
  refine ⟨rfl, ha1.defers, m_ret hDd2 ?_⟩
  refine x_ret1s tK (fun j v hv => (put_box hDd2 rfl h4.box).cell j v hv) rfl rfl rfl rfl rfl ?_ a1 ha1
  refine ⟨?_, put_below hE (by omega) hB⟩
  
  have hfin := otyPutO (o' := .deferred none) hDd2 rfl hr
  exact hfin.mono (fun c hc => .inr (hfin.lt c hc)) (fun c hc => hc.elim (fun h => h.elim) id)
open Go Rw Go.RowKit
set_option maxRecDepth 100000
theorem of_spec (l : List Fld) (e : Ty) (M : Nat → Prop) (w : World) (v u : Value) (hs : Sl M w v l) (he : Rep.R M w u e) (hlow0 : Low M w) :
  Calls Tryz.prog 92 #[v, u] w (Ret fun r w' => Rep.R M w' r (ofF l e) ∧ Ext w w') := by
 have Lw := hlow0
 have hB := lR w.heap.size
 have hE := Below.refl w.heap.size w
 have hsub : ∀ b, M b → M b := fun _ h => h
 obtain ⟨kve, rfl, ope, nme, n64e, hke⟩ := tO he
 have hL := hs.lt
 refine cN (n := 28) Tryz.func92 rfl rfl rfl ?_
 refine q0 ?_
 refine lC (o_box rfl rfl rfl ?_)
 intro b3 w1 hb_b3 ew1 h3
 replace h3 : Box _ b3 29 [.int .u8 e.op, .string e.name, .int .i64 e.n, kve] := h3
 replace h3 := h3.at (nO Lw hb_b3)
 replace hE := ew1.bl hE hB
 replace he := Rep.Y he ew1
 replace hke := hke.Y ew1
 replace hs := hs.Y ew1
 replace Lw := Lw.Y ew1
 replace hB := ew1.z hB
 refine lC (o_new tK rfl rfl rfl ?_)
 intro b4 w2 qb4 ew2 hb4
 have sw2 := Stp.add ew2 Lw hB (lQ qb4.symm) hb4.lt
 have h4 : MB w.heap.size (Rw.Add M b4) w2 b4 29 [.int .u8 0, .string ⟨#[]⟩, .int .i64 0, .slice none 0 0] := MB.mk' hb4 qb4 hB
 replace hE := hE.trans sw2.below
 replace he := Rep.sp he sw2
 replace hke := hke.sp sw2
 replace hs := hs.sp sw2
 replace h3 := h3.sp sw2
 replace hsub := sw2.sb hsub
 replace Lw := sw2.low
 replace hB := sw2.z hB
 refine q1 (q0 ?_)
 refine lC (oL tK (fun j v hv => h3.cell j v hv) rfl rfl rfl rfl rfl rfl ?_)
 refine lC (o_new tK rfl rfl rfl ?_)
 intro b5 w3 qb5 ew3 hb5
 have ne_h4_h5 : b4 ≠ b5 := by have := h4.lt; omega
 have sw3 := Stp.add ew3 Lw hB (lQ qb5.symm) hb5.lt
 have h5 : MB w.heap.size (Rw.Add (Rw.Add M b4) b5) w3 b5 29 [.int .u8 0, .string ⟨#[]⟩, .int .i64 0, .slice none 0 0] := MB.mk' hb5 qb5 hB
 replace h4 := h4.sp sw3 (ew3.block b4 h4.lt)
 replace hE := hE.trans sw3.below
 replace he := Rep.sp he sw3
 replace hke := hke.sp sw3
 replace hs := hs.sp sw3
 replace h3 := h3.sp sw3
 replace hsub := sw3.sb hsub
 replace Lw := sw3.low
 replace hB := sw3.z hB
 refine lC (o_st tK h5.box rfl rfl rfl rfl (Rep.one he) rfl rfl ?_)
 intro w4 hw4 qw4 bew4
 have uw4 : UpdB _ _ _ := ⟨qw4, bew4⟩
 have sw4 := uw4.sp h5.inM Lw h5.ge
 have frw4 := qw4.2
 replace h4 := h4.sp sw4 (frw4 b4 h4.lt ne_h4_h5)
 replace hE := hE.trans sw4.below
 replace he := Rep.sp he sw4
 replace hke := hke.sp sw4
 replace hs := hs.sp sw4
 replace h3 := h3.sp sw4
 replace hsub := sw4.sb hsub
 replace Lw := sw4.low
 replace hB := sw4.z hB
 replace h5 : MB w.heap.size _ w4 b5 _ [.int .u8 e.op, .string e.name, .int .i64 e.n, kve] := ⟨hw4, h5.inM, h5.ge⟩
 have hsub0 := hsub
 refine q1 (cS (q0 (lP 1 tK rfl ?_)))
 refine lC (o_len tK hs rfl rfl rfl rfl rfl ?_)
 refine lC (o_ai rfl rfl rfl (by omega) rfl rfl ?_)
 refine lP 1 tK rfl (q1 (cB ?_))
 refine c_loop2 (X := Nat) (Y := Value) (fun j kv => [(0, v), (4, .pointer (some ⟨b4, 0, none⟩)), (5, .pointer (some ⟨b5, 0, none⟩)), (6, .int .i64 ((j : Int) - 1))]) (fun j kv w' => j ≤ l.length ∧ Sl (Rw.Add (Rw.Add M b4) b5) w' v l ∧ MB w.heap.size (Rw.Add (Rw.Add M b4) b5) w' b5 29 [.int .u8 (ofF (l.drop j) e).op, .string (ofF (l.drop j) e).name, .int .i64 (ofF (l.drop j) e).n, kv] ∧ Rep.R (Rw.Add (Rw.Add M b4) b5) w' (.agg #[.int .u8 (ofF (l.drop j) e).op, .string (ofF (l.drop j) e).name, .int .i64 (ofF (l.drop j) e).n, kv]) (ofF (l.drop j) e) ∧ MB w.heap.size (Rw.Add (Rw.Add M b4) b5) w' b4 29 [.int .u8 0, .string ⟨#[]⟩, .int .i64 0, .slice none 0 0] ∧ Low (Rw.Add (Rw.Add M b4) b5) w' ∧ Below w.heap.size w w' ∧ w.heap.size ≤ w'.heap.size) (fun j kv => j) (l.length) (kve) (s4 rfl rfl rfl rfl) ?_ ?_
 ·refine ⟨lR _, hs, ?_⟩
  rw [List.drop_length]
  exact ⟨h5, he, h4, Lw, hE, hB⟩
 rintro j kv w5 ⟨hj, hs, h5, hr, h4, Lw, hE, hB⟩
 refine cS (q0 (lP 2 tK rfl (q1 ?_)))
 refine cP _ rfl (fun hc => ?_) (fun hc => ?_)
 ·obtain ⟨j0, rfl⟩ : ∃ j0, j = j0 + 1 := ⟨j - 1, by omega⟩
  have hj0 : j0 < l.length := by omega
  have hT := ofF_drop hj0 e
  refine cK (xS (cS (cB ?_)))
  refine a_beg Ext rfl ?_
  intro w6 ew6
  replace h5 := h5.Y Lw hB ew6
  replace h4 := h4.Y Lw hB ew6
  replace hE := ew6.bl hE hB
  replace hs := hs.Y ew6
  replace hr := Rep.Y hr ew6
  replace Lw := Lw.Y ew6
  replace hB := ew6.z hB
  have hS : Ext w6 w6 := ext_refl _
  have D_hs := hs
  have D_h5 := h5.box
  have D_h4 := h4.box
  refine a_p 0 tK rfl rfl rfl rfl (by kernel_rfl) i3 hS ?_
  refine a_p 1 tK rfl rfl rfl rfl (by kernel_rfl) i3 hS ?_
  refine a_ixS 2 tK D_hs (gE hj0) rfl rfl rfl (by omega) rfl rfl rfl rfl rfl rfl (by kernel_rfl) i4 hS ?_
  intro ebq1 eoq1 euq1 hrq1 hatq1
  obtain ⟨szq1, kvq1, rfl, hyq1⟩ := fld_open hrq1
  replace hatq1 : At _ w6 ebq1 eoq1 [.string l[j0].name, .int .u8 l[j0].ty.op, .string l[j0].ty.name, .int .i64 l[j0].ty.n, kvq1] := hatq1
  refine a_p 3 tK rfl rfl rfl rfl (by kernel_rfl) i3 hS ?_
  refine a_ld 4 tK (fun _ hs => (hatq1.Y hs).cell 0 _ rfl) rfl rfl rfl rfl rfl rfl (by kernel_rfl) i3 hS ?_
  refine a_p 5 tK rfl rfl rfl rfl (by kernel_rfl) i3 hS ?_
  refine a_p 6 tK rfl rfl rfl rfl (by kernel_rfl) i3 hS ?_
  refine a_ixS 7 tK D_hs (gE hj0) rfl rfl rfl (by omega) rfl rfl rfl rfl rfl rfl (by kernel_rfl) i4 hS ?_
  intro ebq2 eoq2 euq2 hrq2 hatq2
  obtain ⟨szq2, kvq2, rfl, hyq2⟩ := fld_open hrq2
  replace hatq2 : At _ w6 ebq2 eoq2 [.string l[j0].name, .int .u8 l[j0].ty.op, .string l[j0].ty.name, .int .i64 l[j0].ty.n, kvq2] := hatq2
  refine a_p 8 tK rfl rfl rfl rfl (by kernel_rfl) i3 hS ?_
  refine a_lds 9 tK (fun _ hs j v hv => ((hatq2.Y hs)).drop 1 (sub := [.int .u8 l[j0].ty.op, .string l[j0].ty.name, .int .i64 l[j0].ty.n, kvq2]) rfl j v hv) rfl rfl rfl rfl rfl rfl rfl (by kernel_rfl) i3 hS ?_
  refine a_lds 10 tK (fun _ hs j v hv => (D_h5.Y hs).cell j v hv) rfl rfl rfl rfl rfl rfl rfl (by kernel_rfl) i3 hS ?_
  refine a_bar 11 rfl (by kernel_rfl) (by kernel_rfl) (oK fo103 rfl rfl rfl (field_spec _ _ _ _ _ _ _ szq1 hyq2 hr Lw) ?_)
  rintro vf w7 ⟨hf, ew7⟩
  replace hf : Rep.R _ _ _ (Ty.mk 11 l[j0].name 0 [l[j0].ty, (ofF (l.drop (j0 + 1)) e)]) := hf
  replace hS := hS.then ew7
  replace h5 := h5.Y Lw hB ew7
  replace h4 := h4.Y Lw hB ew7
  replace hE := ew7.bl hE hB
  replace hs := hs.Y ew7
  replace hr := Rep.Y hr ew7
  replace hrq1 := Rep.Y hrq1 ew7
  replace hyq1 := Rep.Y hyq1 ew7
  replace hatq1 := hatq1.Y ew7
  replace hrq2 := Rep.Y hrq2 ew7
  replace hyq2 := Rep.Y hyq2 ew7
  replace hatq2 := hatq2.Y ew7
  replace Lw := Lw.Y ew7
  replace hB := ew7.z hB
  obtain ⟨kvn, rfl, opn, nmn, n64n, hkn⟩ := tO hf
  refine a_barS Ext 12 rfl (by kernel_rfl) (by kernel_rfl) (o_st tK h5.box rfl rfl rfl rfl (Rep.one hf) rfl rfl ?_)
  intro w8 hw8 qw8 bew8
  have uw8 : UpdB _ _ _ := ⟨qw8, bew8⟩
  have sw8 := uw8.sp h5.inM Lw h5.ge
  have frw8 := qw8.2
  replace h4 := h4.sp sw8 (frw8 b4 h4.lt ne_h4_h5)
  replace hE := hE.trans sw8.below
  replace hs := hs.sp sw8
  replace hr := Rep.sp hr sw8
  replace hrq1 := Rep.sp hrq1 sw8
  replace hyq1 := Rep.sp hyq1 sw8
  replace hatq1 := hatq1.sp sw8
  replace hrq2 := Rep.sp hrq2 sw8
  replace hyq2 := Rep.sp hyq2 sw8
  replace hatq2 := hatq2.sp sw8
  replace hf := Rep.sp hf sw8
  replace Lw := sw8.low
  replace hB := sw8.z hB
  replace hS : Ext w8 w8 := ext_refl _
  replace h5 : MB w.heap.size _ w8 b5 _ [.int .u8 (Ty.mk 11 l[j0].name 0 [l[j0].ty, (ofF (l.drop (j0 + 1)) e)]).op, .string (Ty.mk 11 l[j0].name 0 [l[j0].ty, (ofF (l.drop (j0 + 1)) e)]).name, .int .i64 (Ty.mk 11 l[j0].name 0 [l[j0].ty, (ofF (l.drop (j0 + 1)) e)]).n, kvn] := ⟨hw8, h5.inM, h5.ge⟩
  have D_hs := hs
  have D_h5 := h5.box
  have D_h4 := h4.box
  have D_hatq1 := hatq1
  have D_hatq2 := hatq2
  refine a_end (by kernel_rfl) ?_
  refine x_blk (xS (cG (lP 1 tK rfl ?_)))
  refine lC (o_ai rfl rfl rfl (by omega) rfl rfl ?_)
  refine lP 1 tK rfl (lN ?_)
  exact xN (j0) (kvn) (s4 rfl rfl rfl (gN rfl (by omega))) ⟨by omega, hs, by rw [hT]; exact h5, by rw [hT]; exact hf, h4, Lw, hE, hB⟩ (by omega)
 obtain rfl : j = 0 := by omega
 refine c_exit (xE (xE (x_blkE (xS (q0 ?_)))))
 refine lC (oL tK (fun j v hv => h5.cell j v hv) rfl rfl rfl rfl rfl rfl ?_)
 refine lC (o_st tK h4.box rfl rfl rfl rfl (Rep.one hr) rfl rfl ?_)
 intro w9 hw9 qw9 bew9
 have uw9 : UpdB _ _ _ := ⟨qw9, bew9⟩
 have sw9 := uw9.sp h4.inM Lw h4.ge
 have frw9 := qw9.2
 replace h5 := h5.sp sw9 (frw9 b5 h5.lt ne_h4_h5.symm)
 replace hE := hE.trans sw9.below
 replace hs := hs.sp sw9
 replace hr := Rep.sp hr sw9
 replace Lw := sw9.low
 replace hB := sw9.z hB
 replace h4 : MB w.heap.size _ w9 b4 _ [.int .u8 (ofF (l.drop 0) e).op, .string (ofF (l.drop 0) e).name, .int .i64 (ofF (l.drop 0) e).n, kv] := ⟨hw9, h4.inM, h4.ge⟩
 refine q1 (cR ?_)
 refine x_ret1s tK (fun j v hv => h4.cell j v hv) rfl rfl rfl rfl rfl ?_
 exact ⟨Rep.wk hr (fun b _ h => hsub0 b h), hE⟩
theorem fields_own (t : Ty) (M : Nat → Prop) (w : World) (v : Value) (hsh : shapeF t 114 = true) (ht : Rep.R M w v t) (hlow0 : Low M w) (hsz : psz t ≤ 2000000) :
  Calls Tryz.prog 91 #[v] w (Ret fun r w' => ∃ x tv M', r = .tuple #[x, tv] ∧ OwnSl 125 w.heap.size M' w' x (fieldsF (spineF t).1) ∧ Rep.R M' w' tv (spineF t).2 ∧ Stp w.heap.size M M' w w') := by
 have Lw := hlow0
 have hB := lR w.heap.size
 have hE := Below.refl w.heap.size w
 have hsub : ∀ b, M b → M b := fun _ h => h
 obtain ⟨kv, rfl, op, nm, n64, hk⟩ := tO ht
 have hsl := spine_len t
 have hT : Stp w.heap.size M M w w := Stp.refl Lw
 refine cN (n := 61) Tryz.func91 rfl rfl rfl ?_
 refine q0 ?_
 refine lC (o_box rfl rfl rfl ?_)
 intro b1 w1 qb1 ew1 hb1
 have sw1 := Stp.add ew1 Lw hB (lQ qb1.symm) hb1.lt
 have h1 : MB w.heap.size (Rw.Add M b1) w1 b1 29 [.int .u8 t.op, .string t.name, .int .i64 t.n, kv] := MB.mk' hb1 qb1 hB
 replace hT := hT.then sw1
 replace hE := hE.trans sw1.below
 replace ht := Rep.sp ht sw1
 replace hk := hk.sp sw1
 replace hsub := sw1.sb hsub
 replace Lw := sw1.low
 replace hB := sw1.z hB
 refine lP 1 tK rfl ?_
 refine lC (o_new tK rfl rfl rfl ?_)
 intro b3 w2 qb3 ew2 hb3
 have ne_h1_h3 : b1 ≠ b3 := by have := h1.lt; omega
 have sw2 := Stp.add ew2 Lw hB (lQ qb3.symm) hb3.lt
 have h3 : MB w.heap.size (Rw.Add (Rw.Add M b1) b3) w2 b3 29 [.int .u8 0, .string ⟨#[]⟩, .int .i64 0, .slice none 0 0] := MB.mk' hb3 qb3 hB
 replace hT := hT.then sw2
 replace h1 := h1.sp sw2 (ew2.block b1 h1.lt)
 replace hE := hE.trans sw2.below
 replace ht := Rep.sp ht sw2
 replace hk := hk.sp sw2
 replace hsub := sw2.sb hsub
 replace Lw := sw2.low
 replace hB := sw2.z hB
 refine q1 (q0 (lP 1 tK rfl (q1 (cS (cB ?_)))))
 have d_ho_h1 : ∀ x, (.slice none 0 0 : Value).ownBlock = some x → x ≠ b1 := fun x hx => by simp [Value.ownBlock] at hx
 have d_ho_h3 : ∀ x, (.slice none 0 0 : Value).ownBlock = some x → x ≠ b3 := fun x hx => by simp [Value.ownBlock] at hx
 refine c_loop5 (X := Ty) (Y := Value) (Z := Value) (U := Nat → Prop) (V := List Fld) (fun t2 kv v M1 dn => [(1, .pointer (some ⟨b1, 0, none⟩)), (3, .pointer (some ⟨b3, 0, none⟩)), (4, v)]) (fun t2 kv v M1 dn w' => shapeF t2 114 = true ∧ dn ++ (spineF t2).1 = (spineF t).1 ∧ (spineF t2).2 = (spineF t).2 ∧ (0 ≤ t2.op ∧ t2.op ≤ 255) ∧ t2.name.size < 140737488355328 ∧ I64 t2.n ∧ OwnSl 125 w.heap.size M1 w' v (fieldsF dn) ∧ MB w.heap.size M1 w' b1 29 [.int .u8 t2.op, .string t2.name, .int .i64 t2.n, kv] ∧ MB w.heap.size M1 w' b3 29 [.int .u8 0, .string ⟨#[]⟩, .int .i64 0, .slice none 0 0] ∧ (∀ x, (v : Value).ownBlock = some x → x ≠ b1) ∧ (∀ x, (v : Value).ownBlock = some x → x ≠ b3) ∧ Sl M1 w' kv t2.kids ∧ Stp w.heap.size M M1 w w' ∧ Low M1 w' ∧ (∀ b, M b → M1 b) ∧ Below w.heap.size w w' ∧ w.heap.size ≤ w'.heap.size) (fun t2 kv v M1 dn => psz t2) (t) (kv) (.slice none 0 0) ((Rw.Add (Rw.Add M b1) b3)) ([]) (s3 rfl rfl rfl) ?_ ?_
 ·exact ⟨hsh, rfl, rfl, op, nm, n64, own_nil, h1, h3, d_ho_h1, d_ho_h3, hk, hT, Lw, hsub, hE, hB⟩
 clear hk
 rintro t2 kv v M1 dn w3 ⟨hs2, hacc, htl, op2, nm2, n2, ho, h1, h3, d_ho_h1, d_ho_h3, hk, hT, Lw, hsub, hE, hB⟩
 refine cS (q0 (lP 1 tK rfl ?_))
 refine lC (oD tK (h1.cell 0 _ rfl) rfl rfl rfl rfl rfl ?_)
 refine lP 1 tK rfl (q1 ?_)
 refine cP _ rfl (fun hc => ?_) (fun hc => ?_)
 ·obtain ⟨k, r, hks, hsk, hsr⟩ := shape_row hs2 (by omega)
  have hsp := spine_yes (by omega) hks
  have hlen : (fieldsF dn).length < (spineF t).1.length := by rw [fieldsF_len, ← hacc, hsp, List.length_append, List.length_cons]; omega
  refine cK (xS (cB (cS ?_)))
  refine a_beg Ext rfl ?_
  intro w4 ew4
  replace hT := hT.then (Stp.Y ew4 Lw hB)
  replace ho := ho.Y Lw hB ew4
  replace h1 := h1.Y Lw hB ew4
  replace h3 := h3.Y Lw hB ew4
  replace hE := ew4.bl hE hB
  replace hk := hk.Y ew4
  replace Lw := Lw.Y ew4
  replace hB := ew4.z hB
  have hS : Ext w4 w4 := ext_refl _
  have D_h1 := h1.box
  have D_h3 := h3.box
  have D_hk := hk
  refine a_p 0 tK rfl rfl rfl rfl (by kernel_rfl) i3 hS ?_
  refine a_ld 1 tK (fun _ hs => (D_h1.Y hs).cell 1 _ rfl) rfl rfl rfl rfl rfl rfl (by kernel_rfl) i3 hS ?_
  refine a_p 2 tK rfl rfl rfl rfl (by kernel_rfl) i3 hS ?_
  refine a_ld 3 tK (fun _ hs => (D_h1.Y hs).cell 3 _ rfl) rfl rfl rfl rfl rfl rfl (by kernel_rfl) i3 hS ?_
  refine a_ixS 4 tK D_hk (show t2.kids[0]? = some k by rw [hks]; rfl) rfl rfl rfl rfl rfl rfl rfl rfl rfl rfl (by kernel_rfl) i4 hS ?_
  intro ebx eox eux hyx hX
  obtain ⟨kvx, rfl, opx, nmx, n64x, hkx⟩ := tO hyx
  replace hX : At M1 w4 ebx eox [.int .u8 k.op, .string k.name, .int .i64 k.n, kvx] := hX
  refine a_lds 5 tK (fun _ hs j v hv => (hX.Y hs).cell j v hv) rfl rfl rfl rfl rfl rfl rfl (by kernel_rfl) i3 hS ?_
  refine a_build (cells := [.string t2.name, .int .u8 k.op, .string k.name, .int .i64 k.n, kvx]) (css := [[.string t2.name], [.int .u8 k.op, .string k.name, .int .i64 k.n, kvx]]) 6 bd125 rfl rfl rfl rfl rfl rfl (by kernel_rfl) i3 hS ?_
  have hfd : Rep.R _ _ (.agg #[.string t2.name, .int .u8 k.op, .string k.name, .int .i64 k.n, kvx]) (⟨t2.name, k⟩ : Fld) := fld_mk (name := t2.name) (t := k) nm2 hyx
  refine a_one 7 rfl (by kernel_rfl) (o_new tK rfl rfl rfl ?_)
  intro b5 w5 qb5 ew5 hb5
  have gS_b5 := Nat.le_trans hS.size (lQ qb5.symm)
  replace hS := hS.then ew5
  have ne_h1_h5 : b1 ≠ b5 := by have := h1.lt; omega
  have ne_h3_h5 : b3 ≠ b5 := by have := h3.lt; omega
  have d_ho_h5 : ∀ x, (v : Value).ownBlock = some x → x ≠ b5 := fun x hx => by have := (ho.lt x hx).2; omega
  have sw5 := Stp.add ew5 Lw hB (lQ qb5.symm) hb5.lt
  have h5 : MB w.heap.size (Rw.Add M1 b5) w5 b5 125 [.string ⟨#[]⟩, .int .u8 0, .string ⟨#[]⟩, .int .i64 0, .slice none 0 0] := MB.mk' hb5 qb5 hB
  replace hT := hT.then sw5
  replace ho := ho.sp sw5 (fun x hx => ew5.block x (ho.lt x hx).2)
  replace h1 := h1.sp sw5 (ew5.block b1 h1.lt)
  replace h3 := h3.sp sw5 (ew5.block b3 h3.lt)
  replace hE := hE.trans sw5.below
  replace hk := hk.sp sw5
  replace hyx := Rep.sp hyx sw5
  replace hkx := hkx.sp sw5
  replace hX := hX.sp sw5
  replace hfd := Rep.sp hfd sw5
  replace hsub := sw5.sb hsub
  replace Lw := sw5.low
  replace hB := sw5.z hB
  refine ⟨hS, ?_⟩
  refine a_barS Ext 8 rfl (by kernel_rfl) (by kernel_rfl) (o_st tK h5.box rfl rfl rfl rfl (Rep.one hfd) rfl rfl ?_)
  intro w6 hw6 qw6 bew6
  have uw6 : UpdB _ _ _ := ⟨qw6, bew6⟩
  have sw6 := uw6.sp h5.inM Lw h5.ge
  have frw6 := qw6.2
  replace hT := hT.then sw6
  replace ho := ho.sp sw6 (fun x hx => frw6 x (ho.lt x hx).2 (d_ho_h5 x hx))
  replace h1 := h1.sp sw6 (frw6 b1 h1.lt ne_h1_h5)
  replace h3 := h3.sp sw6 (frw6 b3 h3.lt ne_h3_h5)
  replace hE := hE.trans sw6.below
  replace hk := hk.sp sw6
  replace hyx := Rep.sp hyx sw6
  replace hkx := hkx.sp sw6
  replace hX := hX.sp sw6
  replace hfd := Rep.sp hfd sw6
  replace hsub := sw6.sb hsub
  replace Lw := sw6.low
  replace hB := sw6.z hB
  replace hS : Ext w6 w6 := ext_refl _
  replace h5 : MB w.heap.size _ w6 b5 _ [.string t2.name, .int .u8 k.op, .string k.name, .int .i64 k.n, kvx] := ⟨hw6, h5.inM, h5.ge⟩
  have D_h1 := h1.box
  have D_h3 := h3.box
  have D_hk := hk
  have D_hkx := hkx
  have D_hatx := hX
  have D_h5 := h5.box
  refine a_end (by kernel_rfl) ?_
  refine xS (q0 (lP 1 tK rfl (q1 (q0 (lP 1 tK rfl (q1 (cS (q0 (lP 1 tK rfl (q1 (cB ?_)))))))))))
  have d_hn_h1 : ∀ x, (.slice none 0 0 : Value).ownBlock = some x → x ≠ b1 := fun x hx => by simp [Value.ownBlock] at hx
  have d_hn_h3 : ∀ x, (.slice none 0 0 : Value).ownBlock = some x → x ≠ b3 := fun x hx => by simp [Value.ownBlock] at hx
  have dd_hn_ho : ∀ x y, (.slice none 0 0 : Value).ownBlock = some x → (v : Value).ownBlock = some y → x ≠ y := fun x y hx => by simp [Value.ownBlock] at hx
  have d_hn_h5 : ∀ x, (.slice none 0 0 : Value).ownBlock = some x → x ≠ b5 := fun x hx => by simp [Value.ownBlock] at hx
  refine c_loop5 (X := Nat) (Y := Value) (Z := Nat → Prop) (U := Bool) (V := List Fld) (fun i v2 M2 bb nx => [(1, .pointer (some ⟨b1, 0, none⟩)), (3, .pointer (some ⟨b3, 0, none⟩)), (4, v), (5, .pointer (some ⟨b5, 0, none⟩)), (6, v2), (7, .bool bb), (8, .int .i64 (i : Nat))]) (fun i v2 M2 bb nx w' => i ≤ (fieldsF dn).length ∧ InsP (⟨t2.name, k⟩ : Fld) (fieldsF dn) i bb nx ∧ OwnSl 125 w.heap.size M2 w' v (fieldsF dn) ∧ OwnSl 125 w.heap.size M2 w' v2 nx ∧ MB w.heap.size M2 w' b1 29 [.int .u8 t2.op, .string t2.name, .int .i64 t2.n, kv] ∧ MB w.heap.size M2 w' b3 29 [.int .u8 0, .string ⟨#[]⟩, .int .i64 0, .slice none 0 0] ∧ MB w.heap.size M2 w' b5 125 [.string t2.name, .int .u8 k.op, .string k.name, .int .i64 k.n, kvx] ∧ Rep.R M2 w' (.agg #[.string t2.name, .int .u8 k.op, .string k.name, .int .i64 k.n, kvx]) (⟨t2.name, k⟩ : Fld) ∧ (∀ x, (v : Value).ownBlock = some x → x ≠ b1) ∧ (∀ x, (v : Value).ownBlock = some x → x ≠ b3) ∧ (∀ x, (v : Value).ownBlock = some x → x ≠ b5) ∧ (∀ x, (v2 : Value).ownBlock = some x → x ≠ b1) ∧ (∀ x, (v2 : Value).ownBlock = some x → x ≠ b3) ∧ (∀ x y, (v2 : Value).ownBlock = some x → (v : Value).ownBlock = some y → x ≠ y) ∧ (∀ x, (v2 : Value).ownBlock = some x → x ≠ b5) ∧ Sl M2 w' kv t2.kids ∧ Stp w.heap.size M M2 w w' ∧ Low M2 w' ∧ (∀ b, M b → M2 b) ∧ Below w.heap.size w w' ∧ w.heap.size ≤ w'.heap.size) (fun i v2 M2 bb nx => (fieldsF dn).length - i) (0) (.slice none 0 0) ((Rw.Add M1 b5)) (false) ([]) (s7 rfl rfl rfl rfl rfl rfl rfl) ?_ ?_
  ·exact ⟨Nat.zero_le _, InsP.start _ _, ho, own_nil, h1, h3, h5, hfd, d_ho_h1, d_ho_h3, d_ho_h5, d_hn_h1, d_hn_h3, dd_hn_ho, d_hn_h5, hk, hT, Lw, hsub, hE, hB⟩
  rintro i v2 M2 bb nx w7 ⟨hi, hip, ho, hn, h1, h3, h5, hfd, d_ho_h1, d_ho_h3, d_ho_h5, d_hn_h1, d_hn_h3, dd_hn_ho, d_hn_h5, hk, hT, Lw, hsub, hE, hB⟩
  have hlx := hip.len
  refine cS (q0 (lP 2 tK rfl ?_))
  refine lC (o_lenO tK ho rfl rfl rfl rfl rfl ?_)
  refine lP 1 tK rfl (q1 ?_)
  refine cP _ rfl (fun hc1 => ?_) (fun hc1 => ?_)
  ·have hil : i < (fieldsF dn).length := by omega
   refine cK (xS (cS (cB (cS (cS ?_)))))
   refine a_beg Ext rfl ?_
   intro w8 ew8
   replace hT := hT.then (Stp.Y ew8 Lw hB)
   replace ho := ho.Y Lw hB ew8
   replace hn := hn.Y Lw hB ew8
   replace h1 := h1.Y Lw hB ew8
   replace h3 := h3.Y Lw hB ew8
   replace h5 := h5.Y Lw hB ew8
   replace hE := ew8.bl hE hB
   replace hfd := Rep.Y hfd ew8
   replace hk := hk.Y ew8
   replace Lw := Lw.Y ew8
   replace hB := ew8.z hB
   have hS : Ext w8 w8 := ext_refl _
   have D_h1 := h1.box
   have D_h3 := h3.box
   have D_h5 := h5.box
   have D_hk := hk
   refine a_p 0 tK rfl rfl rfl rfl (by kernel_rfl) i3 hS ?_
   refine a_p 1 tK rfl rfl rfl rfl (by kernel_rfl) i3 hS ?_
   refine a_p 2 tK rfl rfl rfl rfl (by kernel_rfl) i3 hS ?_
   refine a_splitB 27 _ rfl (fun hbb => ?_) (fun hbb => ?_)
   ·refine a_p 3 tK rfl rfl rfl rfl (by kernel_rfl) i3 hS ?_
    refine a_ld 4 tK (fun _ hs => (D_h5.Y hs).cell 0 _ rfl) rfl rfl rfl rfl rfl rfl (by kernel_rfl) i3 hS ?_
    refine a_p 5 tK rfl rfl rfl rfl (by kernel_rfl) i3 hS ?_
    refine a_p 6 tK rfl rfl rfl rfl (by kernel_rfl) i3 hS ?_
    refine a_ixO 7 tK ho (gE hil) rfl rfl rfl rfl rfl rfl rfl rfl rfl rfl (by kernel_rfl) i4 hS ?_
    intro ibe0 iue0 hobe0 hre0 hate0
    obtain ⟨sze0, kve0, rfl, hye0⟩ := fld_open hre0
    replace hate0 : At NoM w8 ibe0 _ [.string (fieldsF dn)[i].name, .int .u8 (fieldsF dn)[i].ty.op, .string (fieldsF dn)[i].ty.name, .int .i64 (fieldsF dn)[i].ty.n, kve0] := ⟨(ho.lt _ hobe0).2, fun h => h, hate0.cell⟩
    refine a_p 8 tK rfl rfl rfl rfl (by kernel_rfl) i3 hS ?_
    refine a_ld 9 tK (fun _ hs => (hate0.Y hs).cell 0 _ rfl) rfl rfl rfl rfl rfl rfl (by kernel_rfl) i3 hS ?_
    refine a_p 10 tK rfl rfl rfl rfl (by kernel_rfl) i3 hS ?_
    refine a_p 11 tK rfl rfl rfl rfl (by kernel_rfl) i3 hS ?_
    refine a_end (by kernel_rfl) ?_
    refine xS ?_
    refine c_if _ rfl (fun hc2 => ?_) (fun hc2 => ?_)
    ·rw [sLt_cmpN] at hc2
     replace hc2 := of_decide_eq_true hc2
     refine q0 (lP 1 tK rfl ?_)
     refine lC (oL tK (fun j v hv => h5.cell j v hv) rfl rfl rfl rfl rfl rfl ?_)
     refine lC (o_bs tK rfl rfl rfl rfl rfl rfl rfl (sz1 rfl) rfl rfl rfl ?_)
     intro bw9 w9 qbw9 ew9 hbw9
     have nbw9 := nO Lw qbw9
     replace hT := hT.then (Stp.Y ew9 Lw hB)
     replace ho := ho.Y Lw hB ew9
     replace hn := hn.Y Lw hB ew9
     replace h1 := h1.Y Lw hB ew9
     replace h3 := h3.Y Lw hB ew9
     replace h5 := h5.Y Lw hB ew9
     replace hE := ew9.bl hE hB
     replace hfd := Rep.Y hfd ew9
     replace hk := hk.Y ew9
     replace hre0 := Rep.Y hre0 ew9
     replace hye0 := Rep.Y hye0 ew9
     replace Lw := Lw.Y ew9
     replace hB := ew9.z hB
     refine lC (o_app1 tK hn hbw9 nbw9 hfd Lw hB rfl rfl rfl rfl rfl rfl rfl (by (try simp only [List.length_append, List.length_cons, List.length_nil]); omega) (by show (_ + _) * 72 ≤ _; (try simp only [List.length_append, List.length_cons, List.length_nil]); omega) rfl rfl ?_)
     intro vw10 w10 Mw10 hw10 sw10 frw10 blw10
     have zd_hn_h1 := d_hn_h1
     replace d_hn_h1 : ∀ x, (vw10 : Value).ownBlock = some x → x ≠ b1 := fun x hx => (blw10 x hx).elim (d_hn_h1 x) (fun h e => by have := h1.lt; omega)
     have zd_hn_h3 := d_hn_h3
     replace d_hn_h3 : ∀ x, (vw10 : Value).ownBlock = some x → x ≠ b3 := fun x hx => (blw10 x hx).elim (d_hn_h3 x) (fun h e => by have := h3.lt; omega)
     have zdd_hn_ho := dd_hn_ho
     replace dd_hn_ho : ∀ x y, (vw10 : Value).ownBlock = some x → (v : Value).ownBlock = some y → x ≠ y := fun x y hx hy => (blw10 x hx).elim (fun h => dd_hn_ho x y h hy) (fun h e => by have := (ho.lt y hy).2; omega)
     have zd_hn_h5 := d_hn_h5
     replace d_hn_h5 : ∀ x, (vw10 : Value).ownBlock = some x → x ≠ b5 := fun x hx => (blw10 x hx).elim (d_hn_h5 x) (fun h e => by have := h5.lt; omega)
     replace hT := hT.then sw10
     replace ho := ho.sp sw10 (fun x hx => frw10 x (ho.lt x hx).2 (fun e => zdd_hn_ho x x e.symm hx rfl))
     replace h1 := h1.sp sw10 (frw10 b1 h1.lt (fun e => zd_hn_h1 _ e.symm rfl))
     replace h3 := h3.sp sw10 (frw10 b3 h3.lt (fun e => zd_hn_h3 _ e.symm rfl))
     replace h5 := h5.sp sw10 (frw10 b5 h5.lt (fun e => zd_hn_h5 _ e.symm rfl))
     replace hE := hE.trans sw10.below
     replace hfd := Rep.sp hfd sw10
     replace hk := hk.sp sw10
     replace hre0 := Rep.sp hre0 sw10
     replace hye0 := Rep.sp hye0 sw10
     replace hsub := sw10.sb hsub
     replace Lw := sw10.low
     replace hB := sw10.z hB
     replace hn := hw10
     clear hw10
     refine lP 1 tK rfl (q1 (cG (lP 1 tK rfl (q1 (cG (lP 3 tK rfl ?_))))))
     refine lC (o_ixO tK ho (gE hil) rfl rfl rfl rfl rfl rfl rfl rfl rfl ?_)
     intro ibe1 iue1 hobe1 hre1 hate1
     obtain ⟨sze1, kve1, rfl, hye1⟩ := fld_open hre1
     replace hate1 : At NoM w10 ibe1 _ [.string (fieldsF dn)[i].name, .int .u8 (fieldsF dn)[i].ty.op, .string (fieldsF dn)[i].ty.name, .int .i64 (fieldsF dn)[i].ty.n, kve1] := ⟨(ho.lt _ hobe1).2, fun h => h, hate1.cell⟩
     refine lC (oL tK (fun j v hv => hate1.cell j v hv) rfl rfl rfl rfl rfl rfl ?_)
     refine lC (o_bs tK rfl rfl rfl rfl rfl rfl rfl (sz1 rfl) rfl rfl rfl ?_)
     intro bw11 w11 qbw11 ew11 hbw11
     have nbw11 := nO Lw qbw11
     replace hT := hT.then (Stp.Y ew11 Lw hB)
     replace ho := ho.Y Lw hB ew11
     replace hn := hn.Y Lw hB ew11
     replace h1 := h1.Y Lw hB ew11
     replace h3 := h3.Y Lw hB ew11
     replace h5 := h5.Y Lw hB ew11
     replace hE := ew11.bl hE hB
     replace hfd := Rep.Y hfd ew11
     replace hk := hk.Y ew11
     replace hre0 := Rep.Y hre0 ew11
     replace hye0 := Rep.Y hye0 ew11
     replace hre1 := Rep.Y hre1 ew11
     replace hye1 := Rep.Y hye1 ew11
     replace Lw := Lw.Y ew11
     replace hB := ew11.z hB
     refine lC (o_app1 tK hn hbw11 nbw11 hre1 Lw hB rfl rfl rfl rfl rfl rfl rfl (by (try simp only [List.length_append, List.length_cons, List.length_nil]); omega) (by show (_ + _) * 72 ≤ _; (try simp only [List.length_append, List.length_cons, List.length_nil]); omega) rfl rfl ?_)
     intro vw12 w12 Mw12 hw12 sw12 frw12 blw12
     have zd_hn_h1 := d_hn_h1
     replace d_hn_h1 : ∀ x, (vw12 : Value).ownBlock = some x → x ≠ b1 := fun x hx => (blw12 x hx).elim (d_hn_h1 x) (fun h e => by have := h1.lt; omega)
     have zd_hn_h3 := d_hn_h3
     replace d_hn_h3 : ∀ x, (vw12 : Value).ownBlock = some x → x ≠ b3 := fun x hx => (blw12 x hx).elim (d_hn_h3 x) (fun h e => by have := h3.lt; omega)
     have zdd_hn_ho := dd_hn_ho
     replace dd_hn_ho : ∀ x y, (vw12 : Value).ownBlock = some x → (v : Value).ownBlock = some y → x ≠ y := fun x y hx hy => (blw12 x hx).elim (fun h => dd_hn_ho x y h hy) (fun h e => by have := (ho.lt y hy).2; omega)
     have zd_hn_h5 := d_hn_h5
     replace d_hn_h5 : ∀ x, (vw12 : Value).ownBlock = some x → x ≠ b5 := fun x hx => (blw12 x hx).elim (d_hn_h5 x) (fun h e => by have := h5.lt; omega)
     replace hT := hT.then sw12
     replace ho := ho.sp sw12 (fun x hx => frw12 x (ho.lt x hx).2 (fun e => zdd_hn_ho x x e.symm hx rfl))
     replace h1 := h1.sp sw12 (frw12 b1 h1.lt (fun e => zd_hn_h1 _ e.symm rfl))
     replace h3 := h3.sp sw12 (frw12 b3 h3.lt (fun e => zd_hn_h3 _ e.symm rfl))
     replace h5 := h5.sp sw12 (frw12 b5 h5.lt (fun e => zd_hn_h5 _ e.symm rfl))
     replace hE := hE.trans sw12.below
     replace hfd := Rep.sp hfd sw12
     replace hk := hk.sp sw12
     replace hre0 := Rep.sp hre0 sw12
     replace hye0 := Rep.sp hye0 sw12
     replace hre1 := Rep.sp hre1 sw12
     replace hye1 := Rep.sp hye1 sw12
     replace hsub := sw12.sb hsub
     replace Lw := sw12.low
     replace hB := sw12.z hB
     replace hn := hw12
     clear hw12
     refine lP 1 tK rfl (q2 (xS (cG (lP 1 tK rfl ?_))))
     refine lC (o_ai rfl rfl rfl (by omega) rfl rfl ?_)
     refine lP 1 tK rfl (lN ?_)
     exact x_round5 (i + 1) (vw12) (Mw12) (true) (nx ++ [(⟨t2.name, k⟩ : Fld)] ++ [(fieldsF dn)[i]]) (s7 rfl rfl rfl rfl rfl rfl (gN rfl (by omega))) ⟨by omega, by rw [hbb] at hip; exact hip.here hil hc2, ho, hn, h1, h3, h5, hfd, d_ho_h1, d_ho_h3, d_ho_h5, d_hn_h1, d_hn_h3, dd_hn_ho, d_hn_h5, hk, hT, Lw, hsub, hE, hB⟩ (by omega)
    rw [sLt_cmpN] at hc2
    replace hc2 := of_decide_eq_false hc2
    refine cK (xS (cG (lP 3 tK rfl ?_)))
    refine lC (o_ixO tK ho (gE hil) rfl rfl rfl rfl rfl rfl rfl rfl rfl ?_)
    intro ibe1 iue1 hobe1 hre1 hate1
    obtain ⟨sze1, kve1, rfl, hye1⟩ := fld_open hre1
    replace hate1 : At NoM w8 ibe1 _ [.string (fieldsF dn)[i].name, .int .u8 (fieldsF dn)[i].ty.op, .string (fieldsF dn)[i].ty.name, .int .i64 (fieldsF dn)[i].ty.n, kve1] := ⟨(ho.lt _ hobe1).2, fun h => h, hate1.cell⟩
    refine lC (oL tK (fun j v hv => hate1.cell j v hv) rfl rfl rfl rfl rfl rfl ?_)
    refine lC (o_bs tK rfl rfl rfl rfl rfl rfl rfl (sz1 rfl) rfl rfl rfl ?_)
    intro bw13 w13 qbw13 ew13 hbw13
    have nbw13 := nO Lw qbw13
    replace hT := hT.then (Stp.Y ew13 Lw hB)
    replace ho := ho.Y Lw hB ew13
    replace hn := hn.Y Lw hB ew13
    replace h1 := h1.Y Lw hB ew13
    replace h3 := h3.Y Lw hB ew13
    replace h5 := h5.Y Lw hB ew13
    replace hE := ew13.bl hE hB
    replace hfd := Rep.Y hfd ew13
    replace hk := hk.Y ew13
    replace hre0 := Rep.Y hre0 ew13
    replace hye0 := Rep.Y hye0 ew13
    replace hre1 := Rep.Y hre1 ew13
    replace hye1 := Rep.Y hye1 ew13
    replace Lw := Lw.Y ew13
    replace hB := ew13.z hB
    refine lC (o_app1 tK hn hbw13 nbw13 hre1 Lw hB rfl rfl rfl rfl rfl rfl rfl (by (try simp only [List.length_append, List.length_cons, List.length_nil]); omega) (by show (_ + _) * 72 ≤ _; (try simp only [List.length_append, List.length_cons, List.length_nil]); omega) rfl rfl ?_)
    intro vw14 w14 Mw14 hw14 sw14 frw14 blw14
    have zd_hn_h1 := d_hn_h1
    replace d_hn_h1 : ∀ x, (vw14 : Value).ownBlock = some x → x ≠ b1 := fun x hx => (blw14 x hx).elim (d_hn_h1 x) (fun h e => by have := h1.lt; omega)
    have zd_hn_h3 := d_hn_h3
    replace d_hn_h3 : ∀ x, (vw14 : Value).ownBlock = some x → x ≠ b3 := fun x hx => (blw14 x hx).elim (d_hn_h3 x) (fun h e => by have := h3.lt; omega)
    have zdd_hn_ho := dd_hn_ho
    replace dd_hn_ho : ∀ x y, (vw14 : Value).ownBlock = some x → (v : Value).ownBlock = some y → x ≠ y := fun x y hx hy => (blw14 x hx).elim (fun h => dd_hn_ho x y h hy) (fun h e => by have := (ho.lt y hy).2; omega)
    have zd_hn_h5 := d_hn_h5
    replace d_hn_h5 : ∀ x, (vw14 : Value).ownBlock = some x → x ≠ b5 := fun x hx => (blw14 x hx).elim (d_hn_h5 x) (fun h e => by have := h5.lt; omega)
    replace hT := hT.then sw14
    replace ho := ho.sp sw14 (fun x hx => frw14 x (ho.lt x hx).2 (fun e => zdd_hn_ho x x e.symm hx rfl))
    replace h1 := h1.sp sw14 (frw14 b1 h1.lt (fun e => zd_hn_h1 _ e.symm rfl))
    replace h3 := h3.sp sw14 (frw14 b3 h3.lt (fun e => zd_hn_h3 _ e.symm rfl))
    replace h5 := h5.sp sw14 (frw14 b5 h5.lt (fun e => zd_hn_h5 _ e.symm rfl))
    replace hE := hE.trans sw14.below
    replace hfd := Rep.sp hfd sw14
    replace hk := hk.sp sw14
    replace hre0 := Rep.sp hre0 sw14
    replace hye0 := Rep.sp hye0 sw14
    replace hre1 := Rep.sp hre1 sw14
    replace hye1 := Rep.sp hye1 sw14
    replace hsub := sw14.sb hsub
    replace Lw := sw14.low
    replace hB := sw14.z hB
    replace hn := hw14
    clear hw14
    refine lP 1 tK rfl (q2 (xS (cG (lP 1 tK rfl ?_))))
    refine lC (o_ai rfl rfl rfl (by omega) rfl rfl ?_)
    refine lP 1 tK rfl (lN ?_)
    exact x_round5 (i + 1) (vw14) (Mw14) (bb) (nx ++ [(fieldsF dn)[i]]) (s7 rfl rfl rfl rfl rfl rfl (gN rfl (by omega))) ⟨by omega, by rw [hbb] at hip ⊢; exact hip.skip hil hc2, ho, hn, h1, h3, h5, hfd, d_ho_h1, d_ho_h3, d_ho_h5, d_hn_h1, d_hn_h3, dd_hn_ho, d_hn_h5, hk, hT, Lw, hsub, hE, hB⟩ (by omega)
   refine aK 3 rfl rfl rfl (by kernel_rfl) i3 hS ?_
   refine aK 4 rfl rfl rfl (by kernel_rfl) i3 hS ?_
   refine aK 5 rfl rfl rfl (by kernel_rfl) i3 hS ?_
   refine aK 6 rfl rfl rfl (by kernel_rfl) i3 hS ?_
   refine aK 7 rfl rfl rfl (by kernel_rfl) i3 hS ?_
   refine aK 8 rfl rfl rfl (by kernel_rfl) i3 hS ?_
   refine aK 9 rfl rfl rfl (by kernel_rfl) i3 hS ?_
   refine aK 10 rfl rfl rfl (by kernel_rfl) i3 hS ?_
   refine a_p 11 tK rfl rfl rfl rfl (by kernel_rfl) i3 hS ?_
   refine a_end (by kernel_rfl) ?_
   refine xS (c_ifF rfl (cK (xS (cG (lP 3 tK rfl ?_)))))
   refine lC (o_ixO tK ho (gE hil) rfl rfl rfl rfl rfl rfl rfl rfl rfl ?_)
   intro ibe0 iue0 hobe0 hre0 hate0
   obtain ⟨sze0, kve0, rfl, hye0⟩ := fld_open hre0
   replace hate0 : At NoM w8 ibe0 _ [.string (fieldsF dn)[i].name, .int .u8 (fieldsF dn)[i].ty.op, .string (fieldsF dn)[i].ty.name, .int .i64 (fieldsF dn)[i].ty.n, kve0] := ⟨(ho.lt _ hobe0).2, fun h => h, hate0.cell⟩
   refine lC (oL tK (fun j v hv => hate0.cell j v hv) rfl rfl rfl rfl rfl rfl ?_)
   refine lC (o_bs tK rfl rfl rfl rfl rfl rfl rfl (sz1 rfl) rfl rfl rfl ?_)
   intro bw15 w15 qbw15 ew15 hbw15
   have nbw15 := nO Lw qbw15
   replace hT := hT.then (Stp.Y ew15 Lw hB)
   replace ho := ho.Y Lw hB ew15
   replace hn := hn.Y Lw hB ew15
   replace h1 := h1.Y Lw hB ew15
   replace h3 := h3.Y Lw hB ew15
   replace h5 := h5.Y Lw hB ew15
   replace hE := ew15.bl hE hB
   replace hfd := Rep.Y hfd ew15
   replace hk := hk.Y ew15
   replace hre0 := Rep.Y hre0 ew15
   replace hye0 := Rep.Y hye0 ew15
   replace Lw := Lw.Y ew15
   replace hB := ew15.z hB
   refine lC (o_app1 tK hn hbw15 nbw15 hre0 Lw hB rfl rfl rfl rfl rfl rfl rfl (by (try simp only [List.length_append, List.length_cons, List.length_nil]); omega) (by show (_ + _) * 72 ≤ _; (try simp only [List.length_append, List.length_cons, List.length_nil]); omega) rfl rfl ?_)
   intro vw16 w16 Mw16 hw16 sw16 frw16 blw16
   have zd_hn_h1 := d_hn_h1
   replace d_hn_h1 : ∀ x, (vw16 : Value).ownBlock = some x → x ≠ b1 := fun x hx => (blw16 x hx).elim (d_hn_h1 x) (fun h e => by have := h1.lt; omega)
   have zd_hn_h3 := d_hn_h3
   replace d_hn_h3 : ∀ x, (vw16 : Value).ownBlock = some x → x ≠ b3 := fun x hx => (blw16 x hx).elim (d_hn_h3 x) (fun h e => by have := h3.lt; omega)
   have zdd_hn_ho := dd_hn_ho
   replace dd_hn_ho : ∀ x y, (vw16 : Value).ownBlock = some x → (v : Value).ownBlock = some y → x ≠ y := fun x y hx hy => (blw16 x hx).elim (fun h => dd_hn_ho x y h hy) (fun h e => by have := (ho.lt y hy).2; omega)
   have zd_hn_h5 := d_hn_h5
   replace d_hn_h5 : ∀ x, (vw16 : Value).ownBlock = some x → x ≠ b5 := fun x hx => (blw16 x hx).elim (d_hn_h5 x) (fun h e => by have := h5.lt; omega)
   replace hT := hT.then sw16
   replace ho := ho.sp sw16 (fun x hx => frw16 x (ho.lt x hx).2 (fun e => zdd_hn_ho x x e.symm hx rfl))
   replace h1 := h1.sp sw16 (frw16 b1 h1.lt (fun e => zd_hn_h1 _ e.symm rfl))
   replace h3 := h3.sp sw16 (frw16 b3 h3.lt (fun e => zd_hn_h3 _ e.symm rfl))
   replace h5 := h5.sp sw16 (frw16 b5 h5.lt (fun e => zd_hn_h5 _ e.symm rfl))
   replace hE := hE.trans sw16.below
   replace hfd := Rep.sp hfd sw16
   replace hk := hk.sp sw16
   replace hre0 := Rep.sp hre0 sw16
   replace hye0 := Rep.sp hye0 sw16
   replace hsub := sw16.sb hsub
   replace Lw := sw16.low
   replace hB := sw16.z hB
   replace hn := hw16
   clear hw16
   refine lP 1 tK rfl (q2 (xS (cG (lP 1 tK rfl ?_))))
   refine lC (o_ai rfl rfl rfl (by omega) rfl rfl ?_)
   refine lP 1 tK rfl (lN ?_)
   exact x_round5 (i + 1) (vw16) (Mw16) (bb) (nx ++ [(fieldsF dn)[i]]) (s7 rfl rfl rfl rfl rfl rfl (gN rfl (by omega))) ⟨by omega, by rw [hbb] at hip ⊢; exact hip.past hil, ho, hn, h1, h3, h5, hfd, d_ho_h1, d_ho_h3, d_ho_h5, d_hn_h1, d_hn_h3, dd_hn_ho, d_hn_h5, hk, hT, Lw, hsub, hE, hB⟩ (by omega)
  refine c_exit (xE (xE (x_blkE (xS (cS (q0 (lP 2 tK rfl (q1 ?_))))))))
  refine c_ifB _ rfl (fun hc3 => ?_) (fun hc3 => ?_)
  ·subst hc3
   have hins := hip.fin0 (by omega)
   refine cG (lP 1 tK rfl ?_)
   refine lC (oL tK (fun j v hv => h5.cell j v hv) rfl rfl rfl rfl rfl rfl ?_)
   refine lC (o_bs tK rfl rfl rfl rfl rfl rfl rfl (sz1 rfl) rfl rfl rfl ?_)
   intro bw17 w17 qbw17 ew17 hbw17
   have nbw17 := nO Lw qbw17
   replace hT := hT.then (Stp.Y ew17 Lw hB)
   replace ho := ho.Y Lw hB ew17
   replace hn := hn.Y Lw hB ew17
   replace h1 := h1.Y Lw hB ew17
   replace h3 := h3.Y Lw hB ew17
   replace h5 := h5.Y Lw hB ew17
   replace hE := ew17.bl hE hB
   replace hfd := Rep.Y hfd ew17
   replace hk := hk.Y ew17
   replace Lw := Lw.Y ew17
   replace hB := ew17.z hB
   refine lC (o_app1 tK hn hbw17 nbw17 hfd Lw hB rfl rfl rfl rfl rfl rfl rfl (by (try simp only [List.length_append, List.length_cons, List.length_nil]); omega) (by show (_ + _) * 72 ≤ _; (try simp only [List.length_append, List.length_cons, List.length_nil]); omega) rfl rfl ?_)
   intro vw18 w18 Mw18 hw18 sw18 frw18 blw18
   have zd_hn_h1 := d_hn_h1
   replace d_hn_h1 : ∀ x, (vw18 : Value).ownBlock = some x → x ≠ b1 := fun x hx => (blw18 x hx).elim (d_hn_h1 x) (fun h e => by have := h1.lt; omega)
   have zd_hn_h3 := d_hn_h3
   replace d_hn_h3 : ∀ x, (vw18 : Value).ownBlock = some x → x ≠ b3 := fun x hx => (blw18 x hx).elim (d_hn_h3 x) (fun h e => by have := h3.lt; omega)
   have zdd_hn_ho := dd_hn_ho
   replace dd_hn_ho : ∀ x y, (vw18 : Value).ownBlock = some x → (v : Value).ownBlock = some y → x ≠ y := fun x y hx hy => (blw18 x hx).elim (fun h => dd_hn_ho x y h hy) (fun h e => by have := (ho.lt y hy).2; omega)
   have zd_hn_h5 := d_hn_h5
   replace d_hn_h5 : ∀ x, (vw18 : Value).ownBlock = some x → x ≠ b5 := fun x hx => (blw18 x hx).elim (d_hn_h5 x) (fun h e => by have := h5.lt; omega)
   replace hT := hT.then sw18
   replace ho := ho.sp sw18 (fun x hx => frw18 x (ho.lt x hx).2 (fun e => zdd_hn_ho x x e.symm hx rfl))
   replace h1 := h1.sp sw18 (frw18 b1 h1.lt (fun e => zd_hn_h1 _ e.symm rfl))
   replace h3 := h3.sp sw18 (frw18 b3 h3.lt (fun e => zd_hn_h3 _ e.symm rfl))
   replace h5 := h5.sp sw18 (frw18 b5 h5.lt (fun e => zd_hn_h5 _ e.symm rfl))
   replace hE := hE.trans sw18.below
   replace hfd := Rep.sp hfd sw18
   replace hk := hk.sp sw18
   replace hsub := sw18.sb hsub
   replace Lw := sw18.low
   replace hB := sw18.z hB
   replace hn := hw18
   clear hw18
   refine lP 1 tK rfl (q1 (q0 (lP 2 tK rfl (q1 (cG (lP 1 tK rfl ?_))))))
   refine lC (oD tK (h1.cell 3 _ rfl) rfl rfl rfl rfl rfl ?_)
   refine lC (o_ixS tK hk (show t2.kids[1]? = some r by rw [hks]; rfl) rfl rfl rfl rfl rfl rfl rfl rfl rfl ?_)
   intro eby eoy euy hyy haty
   obtain ⟨kvy, rfl, opy, nmy, n64y, hky⟩ := tO hyy
   replace haty : At Mw18 w18 eby eoy [.int .u8 r.op, .string r.name, .int .i64 r.n, kvy] := haty
   refine lC (oL tK (fun j v hv => haty.cell j v hv) rfl rfl rfl rfl rfl rfl ?_)
   refine lC (o_st tK h1.box rfl rfl rfl rfl (Rep.one hyy) rfl rfl ?_)
   intro w19 hw19 qw19 bew19
   have uw19 : UpdB _ _ _ := ⟨qw19, bew19⟩
   have sw19 := uw19.sp h1.inM Lw h1.ge
   have frw19 := qw19.2
   replace hT := hT.then sw19
   replace ho := ho.sp sw19 (fun x hx => frw19 x (ho.lt x hx).2 (d_ho_h1 x hx))
   replace hn := hn.sp sw19 (fun x hx => frw19 x (hn.lt x hx).2 (d_hn_h1 x hx))
   replace h3 := h3.sp sw19 (frw19 b3 h3.lt ne_h1_h3.symm)
   replace h5 := h5.sp sw19 (frw19 b5 h5.lt ne_h1_h5.symm)
   replace hE := hE.trans sw19.below
   replace hfd := Rep.sp hfd sw19
   replace hk := hk.sp sw19
   replace hyy := Rep.sp hyy sw19
   replace hky := hky.sp sw19
   replace haty := haty.sp sw19
   replace hsub := sw19.sb hsub
   replace Lw := sw19.low
   replace hB := sw19.z hB
   replace h1 : MB w.heap.size _ w19 b1 _ [.int .u8 r.op, .string r.name, .int .i64 r.n, kvy] := ⟨hw19, h1.inM, h1.ge⟩
   refine q2 ?_
   rw [hins] at hn
   exact x_round5 (r) (kvy) (vw18) (Mw18) (dn ++ [(⟨t2.name, k⟩ : Fld)]) (s3 rfl rfl rfl) ⟨hsr, by rw [List.append_assoc, ← hacc, hsp]; rfl, by rw [← htl, hsp], opy, nmy, n64y, by rw [fieldsF_app]; exact hn, h1, h3, d_hn_h1, d_hn_h3, hky, hT, Lw, hsub, hE, hB⟩ (by rw [psz_eq t2, hks, pszs_cons, pszs_cons]; omega)
  subst hc3
  have hins := hip.fin1 (by omega)
  refine cK (xS (q0 (lP 2 tK rfl (q1 (cG (lP 1 tK rfl ?_))))))
  refine lC (oD tK (h1.cell 3 _ rfl) rfl rfl rfl rfl rfl ?_)
  refine lC (o_ixS tK hk (show t2.kids[1]? = some r by rw [hks]; rfl) rfl rfl rfl rfl rfl rfl rfl rfl rfl ?_)
  intro eby eoy euy hyy haty
  obtain ⟨kvy, rfl, opy, nmy, n64y, hky⟩ := tO hyy
  replace haty : At M2 w7 eby eoy [.int .u8 r.op, .string r.name, .int .i64 r.n, kvy] := haty
  refine lC (oL tK (fun j v hv => haty.cell j v hv) rfl rfl rfl rfl rfl rfl ?_)
  refine lC (o_st tK h1.box rfl rfl rfl rfl (Rep.one hyy) rfl rfl ?_)
  intro w20 hw20 qw20 bew20
  have uw20 : UpdB _ _ _ := ⟨qw20, bew20⟩
  have sw20 := uw20.sp h1.inM Lw h1.ge
  have frw20 := qw20.2
  replace hT := hT.then sw20
  replace ho := ho.sp sw20 (fun x hx => frw20 x (ho.lt x hx).2 (d_ho_h1 x hx))
  replace hn := hn.sp sw20 (fun x hx => frw20 x (hn.lt x hx).2 (d_hn_h1 x hx))
  replace h3 := h3.sp sw20 (frw20 b3 h3.lt ne_h1_h3.symm)
  replace h5 := h5.sp sw20 (frw20 b5 h5.lt ne_h1_h5.symm)
  replace hE := hE.trans sw20.below
  replace hfd := Rep.sp hfd sw20
  replace hk := hk.sp sw20
  replace hyy := Rep.sp hyy sw20
  replace hky := hky.sp sw20
  replace haty := haty.sp sw20
  replace hsub := sw20.sb hsub
  replace Lw := sw20.low
  replace hB := sw20.z hB
  replace h1 : MB w.heap.size _ w20 b1 _ [.int .u8 r.op, .string r.name, .int .i64 r.n, kvy] := ⟨hw20, h1.inM, h1.ge⟩
  refine q2 ?_
  rw [hins] at hn
  exact x_round5 (r) (kvy) (v2) (M2) (dn ++ [(⟨t2.name, k⟩ : Fld)]) (s3 rfl rfl rfl) ⟨hsr, by rw [List.append_assoc, ← hacc, hsp]; rfl, by rw [← htl, hsp], opy, nmy, n64y, by rw [fieldsF_app]; exact hn, h1, h3, d_hn_h1, d_hn_h3, hky, hT, Lw, hsub, hE, hB⟩ (by rw [psz_eq t2, hks, pszs_cons, pszs_cons]; omega)
 have hne : t2.op ≠ 11 := by omega
 rw [spine_no hne] at hacc htl
 simp only [List.append_nil] at hacc htl
 have hla : dn.length = (spineF t).1.length := by rw [hacc]
 have hlf := fieldsF_len dn
 refine c_exit (xE (xE (x_blkE (xS (cS ?_)))))
 refine a_beg Ext rfl ?_
 intro w21 ew21
 replace hT := hT.then (Stp.Y ew21 Lw hB)
 replace ho := ho.Y Lw hB ew21
 replace h1 := h1.Y Lw hB ew21
 replace h3 := h3.Y Lw hB ew21
 replace hE := ew21.bl hE hB
 replace hk := hk.Y ew21
 replace Lw := Lw.Y ew21
 replace hB := ew21.z hB
 have hS : Ext w21 w21 := ext_refl _
 have D_h1 := h1.box
 have D_h3 := h3.box
 have D_hk := hk
 refine a_p 0 tK rfl rfl rfl rfl (by kernel_rfl) i3 hS ?_
 refine a_lds 1 tK (fun _ hs j v hv => (D_h1.Y hs).cell j v hv) rfl rfl rfl rfl rfl rfl rfl (by kernel_rfl) i3 hS ?_
 refine a_p 2 tK rfl rfl rfl rfl (by kernel_rfl) i3 hS ?_
 have htl2 := ty_mk op2 nm2 n2 hk
 rw [← ty_eta] at htl2
 refine a_barS Ext 3 rfl (by kernel_rfl) (by kernel_rfl) (o_st tK h3.box rfl rfl rfl rfl (Rep.one htl2) rfl rfl ?_)
 intro w22 hw22 qw22 bew22
 have uw22 : UpdB _ _ _ := ⟨qw22, bew22⟩
 have sw22 := uw22.sp h3.inM Lw h3.ge
 have frw22 := qw22.2
 replace hT := hT.then sw22
 replace ho := ho.sp sw22 (fun x hx => frw22 x (ho.lt x hx).2 (d_ho_h3 x hx))
 replace h1 := h1.sp sw22 (frw22 b1 h1.lt ne_h1_h3)
 replace hE := hE.trans sw22.below
 replace hk := hk.sp sw22
 replace htl2 := Rep.sp htl2 sw22
 replace hsub := sw22.sb hsub
 replace Lw := sw22.low
 replace hB := sw22.z hB
 replace hS : Ext w22 w22 := ext_refl _
 replace h3 : MB w.heap.size _ w22 b3 _ [.int .u8 t2.op, .string t2.name, .int .i64 t2.n, kv] := ⟨hw22, h3.inM, h3.ge⟩
 have D_h1 := h1.box
 have D_h3 := h3.box
 have D_hk := hk
 refine a_end (by kernel_rfl) ?_
 refine xS (cR ?_)
 refine x_ret2ts tK (fun j v hv => h3.cell j v hv) rfl rfl rfl rfl rfl rfl ?_
 rw [hacc] at ho
 exact ⟨_, _, _, rfl, ho, by rw [← htl]; exact htl2, hT⟩
end Go.Proofs.YtpoahmeacjggfaaGreat
namespace Rw
/-- The canonical form; n: how deep, at most. -/
def canonN : Nat → Ty → Ty
  | 0, t => t
  | n + 1, t => bif decide (t.op = 11) then ofF ((fieldsF (spineF t).1).map fun f => ⟨f.name, canonN n f.ty⟩) (spineF t).2 else .mk t.op t.name t.n (t.kids.map (canonN n))
def canonF (t : Ty) : Ty := canonN (psz t) t
theorem spine_psz (t : Ty) : ∀ f ∈ (spineF t).1, psz f.ty < psz t := by
  induction t using Ty.ind with
  | h t ih =>
    intro f hf
    by_cases ho : t.op = 11
    · rw [spineF_eq] at hf
      split at hf
      · rename_i k r e
        have e1 : t.kids = [k.1, r.1] := by
          have := congrArg (List.map Prod.fst) e
          simpa [List.map_map, Function.comp_def] using this
        have e2 : r.2 = spineF r.1 := by
          rw [e1] at e
          simp at e
          rw [← e.2]
        rw [ho] at hf
        simp only [decide_true, cond_true] at hf
        rw [psz_eq t, e1, pszs_cons, pszs_cons]
        rcases List.mem_cons.1 hf with rfl | hf
        · simp only; omega
        · rw [e2] at hf
          have := ih r.1 (by rw [e1]; simp) f hf
          omega
      · cases hf
    · rw [spine_no ho] at hf
      cases hf
theorem fields_mem {l : List Fld} {f : Fld} (h : f ∈ fieldsF l) : f ∈ l := (fieldsF_st l).symm.mem h
theorem fields_psz {t : Ty} {f : Fld} (h : f ∈ fieldsF (spineF t).1) : psz f.ty < psz t := spine_psz t f (fields_mem h)
theorem kid_psz {t k : Ty} (h : k ∈ t.kids) : psz k < psz t := by
  have := psz_mem h
  rw [psz_eq t]; omega
theorem canonN_eq : ∀ (n m : Nat) (t : Ty), psz t ≤ n → psz t ≤ m → canonN n t = canonN m t
  | 0, _, t, h, _ => by have := psz_pos t; omega
  | _ + 1, 0, t, _, h => by have := psz_pos t; omega
  | n + 1, m + 1, t, h, k => by
    rw [canonN, canonN]
    have e1 : (fieldsF (spineF t).1).map (fun f => (⟨f.name, canonN n f.ty⟩ : Fld)) = (fieldsF (spineF t).1).map fun f => ⟨f.name, canonN m f.ty⟩ := by
      refine List.map_congr_left fun f hf => ?_
      have := fields_psz hf
      rw [canonN_eq n m f.ty (by omega) (by omega)]
    have e2 : t.kids.map (canonN n) = t.kids.map (canonN m) := by
      refine List.map_congr_left fun x hx => ?_
      have := kid_psz hx
      exact canonN_eq n m x (by omega) (by omega)
    rw [e1, e2]
def canonFld (f : Fld) : Fld := ⟨f.name, canonF f.ty⟩
theorem canonF_eq (t : Ty) : canonF t = bif decide (t.op = 11) then ofF ((fieldsF (spineF t).1).map canonFld) (spineF t).2 else .mk t.op t.name t.n (t.kids.map canonF) := by
  unfold canonF
  have hp := psz_pos t
  obtain ⟨n, hn⟩ : ∃ n, psz t = n + 1 := ⟨psz t - 1, by omega⟩
  rw [hn, canonN]
  have e1 : (fieldsF (spineF t).1).map (fun f => (⟨f.name, canonN n f.ty⟩ : Fld)) = (fieldsF (spineF t).1).map canonFld := by
    refine List.map_congr_left fun f hf => ?_
    have := fields_psz hf
    unfold canonFld canonF
    rw [canonN_eq n (psz f.ty) f.ty (by omega) (lR _)]
  have e2 : t.kids.map (canonN n) = t.kids.map fun x => canonN (psz x) x := by
    refine List.map_congr_left fun x hx => ?_
    have := kid_psz hx
    exact canonN_eq n (psz x) x (by omega) (lR _)
  rw [e1, e2]
theorem canon_row {t : Ty} (h : t.op = 11) : canonF t = ofF ((fieldsF (spineF t).1).map canonFld) (spineF t).2 := by rw [canonF_eq, h]; rfl
theorem canon_other {t : Ty} (h : t.op ≠ 11) : canonF t = .mk t.op t.name t.n (t.kids.map canonF) := by rw [canonF_eq, dF h]; rfl
theorem shape_114 {t : Ty} {c : UInt8} (h : shapeF t c = true) (ho : t.op = 11) : shapeF t 114 = true := by
  obtain ⟨_, _, _, _, _, h5⟩ := shape_pos h
  rw [ho] at h5
  have hc : (c.toNat : Int) = 114 := by simpa using h5
  have : c = 114 := UInt8.toNat_inj.1 (by
    show c.toNat = 114
    omega)
  rw [← this]; exact h
theorem spine_shape (t : Ty) : shapeF t 114 = true → ∀ f ∈ (spineF t).1, shapeF f.ty 116 = true := by
  induction t using Ty.ind with
  | h t ih =>
    intro hs f hf
    by_cases ho : t.op = 11
    · obtain ⟨k, r, hk, h1, h2⟩ := shape_row hs ho
      rw [spine_yes ho hk] at hf
      rcases List.mem_cons.1 hf with rfl | hf
      · exact h1
      · exact ih r (by rw [hk]; simp) h2 f hf
    · rw [spine_no ho] at hf
      cases hf
theorem kid_shape {t : Ty} {c : UInt8} (h : shapeF t c = true) {i : Nat} (hi : i < t.kids.length) : ∃ d, shapeF t.kids[i] d = true := by
  obtain ⟨ks, _, hl, hall, _, _⟩ := shape_pos h
  have hi2 : i < ks.data.size := by
    have : ks.data.size = ks.size := rfl
    omega
  exact ⟨ks.data[i], hall i _ _ (gE hi) (Array.getElem?_eq_getElem hi2)⟩
theorem psz_take {t : Ty} {i : Nat} (hi : i < t.kids.length) : psz t.kids[i] < psz t := kid_psz (gM hi)
/-- The first i have been made canonical. -/
def canTo (l : List Fld) (i : Nat) : List Fld := (l.take i).map canonFld ++ l.drop i
theorem canTo_zero (l : List Fld) : canTo l 0 = l := by simp [canTo]
theorem canTo_len (l : List Fld) (i : Nat) : (canTo l i).length = l.length := by simp [canTo]; omega
theorem canTo_get {l : List Fld} {i : Nat} (hi : i < l.length) : (canTo l i)[i]? = some l[i] := by
  unfold canTo
  rw [List.getElem?_append_right (by simp; omega), List.getElem?_drop]
  simp only [List.length_map, List.length_take]
  rw [show i + (i - min i l.length) = i by omega, gE hi]
theorem canTo_set {l : List Fld} {i : Nat} (hi : i < l.length) : (canTo l i).set i (canonFld l[i]) = canTo l (i + 1) := by
  unfold canTo
  rw [take_snoc hi, List.map_append, List.drop_eq_getElem_cons hi, List.set_append_right _ _ (by simp; omega)]
  simp only [List.length_map, List.length_take]
  rw [show i - min i l.length = 0 by omega, List.set_cons_zero, List.append_assoc]
  rfl
theorem canTo_all {l : List Fld} {i : Nat} (hi : l.length ≤ i) : canTo l i = l.map canonFld := by
  unfold canTo
  rw [List.take_of_length_le hi, List.drop_eq_nil_of_le hi, List.append_nil]
def fsum (l : List Fld) : Nat := (l.map fun f => 1 + psz f.ty).sum
theorem fsum_ins (f : Fld) : ∀ l : List Fld, fsum (insF f l) = 1 + psz f.ty + fsum l
  | [] => by simp [fsum, insF]
  | x :: r => by
    unfold insF
    split
    · simp [fsum]
    · have := fsum_ins f r
      simp only [fsum, List.map_cons, List.sum_cons] at this ⊢
      omega
theorem fsum_fields (l : List Fld) : fsum (fieldsF l) = fsum l := by
  have : ∀ (l acc : List Fld), fsum (l.foldl (fun acc f => insF f acc) acc) = fsum acc + fsum l := by
    intro l
    induction l with
    | nil => intro acc; simp [fsum]
    | cons f l ih =>
      intro acc
      rw [List.foldl_cons, ih, fsum_ins]
      simp only [fsum, List.map_cons, List.sum_cons]
      omega
  have h := this l []
  simpa [fsum, fieldsF] using h
theorem row_psz (t : Ty) : psz t = fsum (spineF t).1 + psz (spineF t).2 := by
  induction t using Ty.ind with
  | h t ih =>
    by_cases ho : t.op = 11
    · rcases e : t.kids with _ | ⟨k, _ | ⟨r, _ | ⟨x, l⟩⟩⟩
      · rw [spineF_eq, e]; simp [fsum]
      · rw [spineF_eq, e]; simp [fsum]
      · rw [spine_yes ho e]
        have := ih r (by rw [e]; simp)
        rw [psz_eq t, e, pszs_cons, pszs_cons, pszs_nil]
        simp only [fsum, List.map_cons, List.sum_cons] at this ⊢
        omega
      · rw [spineF_eq, e]; simp [fsum]
    · rw [spine_no ho]; simp [fsum]
theorem psz_of (l : List Fld) (e : Ty) : psz (ofF l e) = fsum l + psz e := by
  induction l with
  | nil => simp [ofF, fsum]
  | cons f l ih =>
    rw [ofF_cons, psz_eq]
    simp only [Ty.kids, pszs_cons, pszs_nil, ih]
    simp only [fsum, List.map_cons, List.sum_cons]
    omega
theorem pszs_map {g : Ty → Ty} : ∀ {l : List Ty}, (∀ x ∈ l, psz (g x) = psz x) → pszs (l.map g) = pszs l
  | [], _ => rfl
  | x :: l, h => by
    rw [List.map_cons, pszs_cons, pszs_cons, h x List.mem_cons_self, pszs_map fun y hy => h y (List.mem_cons_of_mem _ hy)]
theorem psz_canon : ∀ (n : Nat) (t : Ty), psz t ≤ n → psz (canonF t) = psz t
  | 0, t, h => by have := psz_pos t; omega
  | n + 1, t, h => by
    by_cases ho : t.op = 11
    · rw [canon_row ho, psz_of, row_psz t]
      congr 1
      rw [← fsum_fields (spineF t).1]
      unfold fsum
      rw [List.map_map]
      congr 1
      refine List.map_congr_left fun f hf => ?_
      have := fields_psz hf
      show 1 + psz (canonF f.ty) = _
      rw [psz_canon n f.ty (by omega)]
    · rw [canon_other ho, psz_eq, psz_eq t]
      congr 1
      exact pszs_map fun x hx => psz_canon n x (by have := kid_psz hx; omega)
theorem canon_small {t : Ty} {N : Nat} (h : psz t ≤ N) : ∀ x ∈ (fieldsF (spineF t).1).map canonFld, psz x.ty ≤ N := fun x hx => by
  obtain ⟨f, hf, rfl⟩ := List.mem_map.1 hx
  have := fields_psz hf
  show psz (canonF f.ty) ≤ N
  rw [psz_canon _ _ (lR _)]; omega
theorem spine_small {t : Ty} {N : Nat} (h : psz t ≤ N) : psz (spineF t).2 ≤ N := by have := row_psz t; omega
end Rw
namespace Go.Proofs.YtpoahmeacjggfaaGreat
open Go Rw Go.RowKit
set_option maxRecDepth 100000
theorem canon_own (n : Nat) : ∀ (t : Ty) (c : UInt8) (M : Nat → Prop) (w : World) (v : Value), psz t ≤ n → shapeF t c = true → Rep.R M w v t → Low M w → psz t ≤ 2000000 →
  Calls Tryz.prog 107 #[v] w (Ret fun r w' => OTy 29 w.heap.size w' (canonF t) r (Plus NoM w w') ∧ Ext w w') := by
 induction n with
 | zero => intro t c M w v h; have := psz_pos t; omega
 | succ n ih =>
 intro t c M w v hn hsh ht hlow0 hsz
 have Lw := hlow0
 have hB := lR w.heap.size
 have hE := Below.refl w.heap.size w
 have hsub : ∀ b, M b → M b := fun _ h => h
 obtain ⟨kv, rfl, op, nm, n64, hk⟩ := tO ht
 have hps := psz_eq t
 have hkl := len_psz t.kids
 refine cN (n := 52) Tryz.func107 rfl rfl rfl ?_
 refine q0 ?_
 refine lC (o_box rfl rfl rfl ?_)
 intro b1 w1 qb1 ew1 hb1
 have sw1 := Stp.add ew1 Lw hB (lQ qb1.symm) hb1.lt
 have h1 : MB w.heap.size (Rw.Add M b1) w1 b1 29 [.int .u8 t.op, .string t.name, .int .i64 t.n, kv] := MB.mk' hb1 qb1 hB
 replace hE := hE.trans sw1.below
 replace ht := Rep.sp ht sw1
 replace hk := hk.sp sw1
 replace hsub := sw1.sb hsub
 replace Lw := sw1.low
 replace hB := sw1.z hB
 refine lC (o_new tK rfl rfl rfl ?_)
 intro b2 w2 qb2 ew2 hb2
 have ne_h1_h2 : b1 ≠ b2 := by have := h1.lt; omega
 have sw2 := Stp.add ew2 Lw hB (lQ qb2.symm) hb2.lt
 have h2 : MB w.heap.size (Rw.Add (Rw.Add M b1) b2) w2 b2 29 [.int .u8 0, .string ⟨#[]⟩, .int .i64 0, .slice none 0 0] := MB.mk' hb2 qb2 hB
 replace h1 := h1.sp sw2 (ew2.block b1 h1.lt)
 replace hE := hE.trans sw2.below
 replace ht := Rep.sp ht sw2
 replace hk := hk.sp sw2
 replace hsub := sw2.sb hsub
 replace Lw := sw2.low
 replace hB := sw2.z hB
 refine q1 (cS (q0 (lP 1 tK rfl ?_)))
 refine lC (oD tK (h1.cell 0 _ rfl) rfl rfl rfl rfl rfl ?_)
 refine lP 1 tK rfl (q1 ?_)
 refine cP _ rfl (fun hc0 => ?_) (fun hc0 => ?_)
 ·have hop : t.op = 11 := by omega
  refine q0 ?_
  refine lC (oL tK (fun j v hv => h1.cell j v hv) rfl rfl rfl rfl rfl rfl ?_)
  have hsh2 := shape_114 hsh hop
  have hsl := spine_len t
  have hfl0 := fieldsF_len (spineF t).1
  have lh1 := h1.lt
  have lh2 := h2.lt
  refine lC (oK fo112 rfl rfl rfl (flat_spec t _ _ _ hsh2 ht Lw hsz) ?_)
  rintro _ w3 ⟨xv, tv, M2, rfl, ho, htl, sw3⟩
  have blw3 := sw3.below
  have d_ho_h1 : ∀ x, (xv : Value).ownBlock = some x → x ≠ b1 := fun x hx => by have := (ho.lt x hx).1; omega
  have d_ho_h2 : ∀ x, (xv : Value).ownBlock = some x → x ≠ b2 := fun x hx => by have := (ho.lt x hx).1; omega
  replace sw3 := sw3.mono hB
  replace ho := ho.mono hB
  replace h1 := h1.sp sw3 (blw3.block b1 lh1)
  replace h2 := h2.sp sw3 (blw3.block b2 lh2)
  replace hE := hE.trans sw3.below
  replace ht := Rep.sp ht sw3
  replace hk := hk.sp sw3
  replace hsub := sw3.sb hsub
  replace Lw := sw3.low
  replace hB := sw3.z hB
  obtain ⟨kve, rfl, ope, nme, n64e, hke⟩ := tO htl
  refine lP 3 tK rfl ?_
  refine lC (o_new tK rfl rfl rfl ?_)
  intro b4 w4 qb4 ew4 hb4
  have nb4 := nO Lw qb4
  refine lP 1 tK rfl ?_
  refine lC (o_st tK hb4 rfl rfl rfl rfl (Rep.one htl) rfl rfl ?_)
  intro w5 h4 uw5 bew5
  have ew5 : Ext w3 w5 := ew4.trans (bew5 _ (lQ qb4.symm))
  replace h1 := h1.Y Lw hB ew5
  replace h2 := h2.Y Lw hB ew5
  replace ho := ho.Y Lw hB ew5
  replace hE := ew5.bl hE hB
  replace ht := Rep.Y ht ew5
  replace hk := hk.Y ew5
  replace htl := Rep.Y htl ew5
  replace hke := hke.Y ew5
  replace Lw := Lw.Y ew5
  replace hB := ew5.z hB
  replace h4 : Box w5 b4 29 [.int .u8 (spineF t).2.op, .string (spineF t).2.name, .int .i64 (spineF t).2.n, kve] := h4
  replace h4 := h4.at nb4
  refine q1 (cS (q0 (lP 1 tK rfl ?_)))
  refine lC (o_lenO tK ho rfl rfl rfl rfl rfl ?_)
  refine lP 1 tK rfl (q1 (cB ?_))
  refine c_loop (X := Nat) (fun i => [(2, .pointer (some ⟨b2, 0, none⟩)), (3, xv), (4, .pointer (some ⟨b4, 0, none⟩)), (18, .int .i64 ((fieldsF (spineF t).1).length : Int)), (19, .int .i64 (i : Nat))]) (fun i w' => i ≤ (fieldsF (spineF t).1).length ∧ OwnSl 125 w.heap.size M2 w' xv (canTo (fieldsF (spineF t).1) i) ∧ MB w.heap.size M2 w' b1 29 [.int .u8 t.op, .string t.name, .int .i64 t.n, kv] ∧ MB w.heap.size M2 w' b2 29 [.int .u8 0, .string ⟨#[]⟩, .int .i64 0, .slice none 0 0] ∧ At M2 w' b4 0 [.int .u8 (spineF t).2.op, .string (spineF t).2.name, .int .i64 (spineF t).2.n, kve] ∧ Rep.R M2 w' (.agg #[.int .u8 (spineF t).2.op, .string (spineF t).2.name, .int .i64 (spineF t).2.n, kve]) (spineF t).2 ∧ Low M2 w' ∧ (∀ b, M b → M2 b) ∧ Below w.heap.size w w' ∧ w.heap.size ≤ w'.heap.size) (fun i => (fieldsF (spineF t).1).length - i) (0) (s5 rfl rfl rfl (gN rfl (by omega)) (gN rfl rfl)) ?_ ?_
  ·refine ⟨Nat.zero_le _, ?_, h1, h2, h4, htl, Lw, hsub, hE, hB⟩
   rw [canTo_zero]; exact ho
  clear hsub
  rintro i w6 ⟨hi, ho, h1, h2, h4, htl, Lw, hsub, hE, hB⟩
  have hcl := canTo_len (fieldsF (spineF t).1) i
  refine q0 (lP 1 tK rfl (q1 (cS ?_)))
  refine cP _ rfl (fun c1 => ?_) (fun c1 => ?_)
  ·have hil : i < (fieldsF (spineF t).1).length := by omega
   refine cK (xS (cS (cB (q0 (lP 2 tK rfl (q1 (cG (lP 4 tK rfl ?_))))))))
   refine lC (o_ixO tK ho (canTo_get hil) rfl rfl rfl rfl rfl rfl rfl rfl rfl ?_)
   intro ibx iux hobx hrx hX
   obtain ⟨szx, kvx, rfl, hyx⟩ := fld_open hrx
   replace hX : At NoM w6 ibx _ [.string (fieldsF (spineF t).1)[i].name, .int .u8 (fieldsF (spineF t).1)[i].ty.op, .string (fieldsF (spineF t).1)[i].ty.name, .int .i64 (fieldsF (spineF t).1)[i].ty.n, kvx] := ⟨(ho.lt _ hobx).2, fun h => h, hX.cell⟩
   refine lP 1 tK rfl ?_
   refine lC (oL tK (fun j v hv => (hX).drop 1 (sub := [.int .u8 (fieldsF (spineF t).1)[i].ty.op, .string (fieldsF (spineF t).1)[i].ty.name, .int .i64 (fieldsF (spineF t).1)[i].ty.n, kvx]) rfl j v hv) rfl rfl rfl rfl rfl rfl ?_)
   have hfm := gM hil
   have hfp := fields_psz hfm
   have hfs := spine_shape t hsh2 _ (fields_mem hfm)
   refine lC (oK fo107 rfl rfl rfl (ih _ 116 _ _ _ (by omega) hfs hyx Lw (by omega)) ?_)
   rintro vc w7 ⟨hc, ew7⟩
   replace hc := hc.repNew Lw
   replace ho := ho.Y Lw hB ew7
   replace h1 := h1.Y Lw hB ew7
   replace h2 := h2.Y Lw hB ew7
   replace hE := ew7.bl hE hB
   replace h4 := h4.Y ew7
   replace htl := Rep.Y htl ew7
   replace hrx := Rep.Y hrx ew7
   replace hyx := Rep.Y hyx ew7
   replace Lw := Lw.Y ew7
   replace hB := ew7.z hB
   obtain ⟨kvc, rfl, opc, nmc, n64c, hkc⟩ := tO hc
   refine lC (o_ixO tK ho (canTo_get hil) rfl rfl rfl rfl rfl rfl rfl rfl rfl ?_)
   intro ibz iuz hobz hrz hatz
   obtain ⟨szz, kvz, rfl, hyz⟩ := fld_open hrz
   replace hatz : OAt _ _ _ [.string (fieldsF (spineF t).1)[i].name, .int .u8 (fieldsF (spineF t).1)[i].ty.op, .string (fieldsF (spineF t).1)[i].ty.name, .int .i64 (fieldsF (spineF t).1)[i].ty.n, kvz] := hatz
   refine lP 1 tK rfl ?_
   have hnf : Rep.R _ w7 (.agg #[.string (fieldsF (spineF t).1)[i].name, .int .u8 (canonF (fieldsF (spineF t).1)[i].ty).op, .string (canonF (fieldsF (spineF t).1)[i].ty).name, .int .i64 (canonF (fieldsF (spineF t).1)[i].ty).n, kvc]) (canonFld (fieldsF (spineF t).1)[i]) := fld_mk szz hc
   refine lC (o_stP (j := i) (k := 1) (us := [.string (fieldsF (spineF t).1)[i].name, .int .u8 (fieldsF (spineF t).1)[i].ty.op, .string (fieldsF (spineF t).1)[i].ty.name, .int .i64 (fieldsF (spineF t).1)[i].ty.n, kvz]) tK ho hobz (by omega) (fun q a hq => hatz.cell q a hq) rfl hnf Lw rfl rfl rfl rfl rfl rfl rfl (Rep.one hc) (by decide) rfl rfl ?_)
   intro w8 hw8 sw8 frw8
   replace h1 := h1.sp sw8 (frw8 b1 h1.lt (fun e => d_ho_h1 _ hobz e.symm))
   replace h2 := h2.sp sw8 (frw8 b2 h2.lt (fun e => d_ho_h2 _ hobz e.symm))
   replace hE := hE.trans sw8.below
   replace h4 := h4.sp sw8
   replace htl := Rep.sp htl sw8
   replace hrx := Rep.sp hrx sw8
   replace hyx := Rep.sp hyx sw8
   replace hc := Rep.sp hc sw8
   replace hsub := sw8.sb hsub
   replace Lw := sw8.low
   replace hB := sw8.z hB
   replace ho := hw8
   clear hw8
   refine q2 (xS (cG ?_))
   refine lC (o_ai rfl rfl rfl (by omega) rfl rfl ?_)
   refine lP 1 tK rfl (lN ?_)
   exact x_round (i + 1) (s5 rfl rfl rfl rfl (gN rfl (by omega))) ⟨by omega, by rw [← canTo_set hil]; exact ho, h1, h2, h4, htl, Lw, hsub, hE, hB⟩ (by omega)
  refine c_exit (xE (xE (x_blkE (xS (q0 (lP 1 tK rfl ?_))))))
  refine lC (oL tK (fun j v hv => h4.cell j v hv) rfl rfl rfl rfl rfl rfl ?_)
  have hall : canTo (fieldsF (spineF t).1) i = (fieldsF (spineF t).1).map canonFld := canTo_all (by omega)
  rw [hall] at ho
  have hml : ((fieldsF (spineF t).1).map canonFld).length = (fieldsF (spineF t).1).length := List.length_map _
  have hfz := ho.froze (by omega)
  replace h1 := h1.less (v := xv) d_ho_h1
  replace h2 := h2.less (v := xv) d_ho_h2
  replace h4 := h4.wk (fun b _ h => less_sub (v := xv) b h)
  replace htl := Rep.wk htl (fun b _ h => less_sub (v := xv) b h)
  replace Lw : Low (Less M2 xv) w6 := fun b h => Lw b h.1
  replace hsub : ∀ b, _ → Less M2 xv b := fun b h => ⟨hsub b h, fun e => by have := (ho.lt b e).1; have := hlow0 b h; omega⟩
  have l_h1 := h1.lt
  have l_h2 := h2.lt
  have hB0 := hB
  refine lC (oK fo113 rfl rfl rfl (join_own _ _ _ _ _ _ 0 hfz htl Lw (canon_small hsz) (spine_small hsz)) ?_)
  rintro vj w9 ⟨hj, ew9⟩
  rw [← canon_row hop] at hj
  replace hj := hj.ge hB0
  have hGl : ∀ c, Plus NoM w6 w9 c → w6.heap.size ≤ c := fun c h => h.elim (fun h => h.elim) (fun h => h.1)
  replace h1 := h1.Y Lw hB ew9
  replace h2 := h2.Y Lw hB ew9
  replace hE := ew9.bl hE hB
  replace h4 := h4.Y ew9
  replace htl := Rep.Y htl ew9
  replace hfz := hfz.Y ew9
  replace Lw := Lw.Y ew9
  replace hB := ew9.z hB
  generalize Plus NoM w6 w9 = G at hj hGl
  have d_hj_h1 : ∀ x, G x → x ≠ b1 := fun x hx => by have := hGl x hx; omega
  have d_hj_h2 : ∀ x, G x → x ≠ b2 := fun x hx => by have := hGl x hx; omega
  obtain ⟨kvj, usj, Hj, rfl, opj, nmj, n64j, hknj, hrj, hOj, hHj⟩ := oty_open hj
  refine lC (o_st tK h2.box rfl rfl rfl rfl hj.one rfl rfl ?_)
  intro w10 hw10 qw10 bew10
  have uw10 : UpdB _ _ _ := ⟨qw10, bew10⟩
  have sw10 := uw10.sp h2.inM Lw h2.ge
  have frw10 := qw10.2
  replace h1 := h1.sp sw10 (frw10 b1 h1.lt ne_h1_h2)
  replace hj := hj.sp sw10 (fun x hx => frw10 x (hj.lt x hx).2 (d_hj_h2 x hx))
  replace hE := hE.trans sw10.below
  replace h4 := h4.sp sw10
  replace htl := Rep.sp htl sw10
  replace hfz := hfz.sp sw10
  replace hsub := sw10.sb hsub
  replace Lw := sw10.low
  replace hB := sw10.z hB
  replace h2 : MB w.heap.size _ w10 b2 _ [.int .u8 (canonF t).op, .string (canonF t).name, .int .i64 (canonF t).n, kvj] := ⟨hw10, h2.inM, h2.ge⟩
  refine q1 (cR (xR ?_))
  refine x_ret1s tK (fun j v hv => h2.cell j v hv) rfl rfl rfl rfl rfl ?_
  exact ⟨hj.mono (fun c hc => .inr (hj.lt c hc)) (fun c hc => hc.elim (fun h => h.elim) id), hE⟩
 have hop : t.op ≠ 11 := by omega
 refine cK (xS (q0 (lP 1 tK rfl (q1 (cS (q0 (lP 1 tK rfl ?_)))))))
 refine lC (oD tK (h1.cell 3 _ rfl) rfl rfl rfl rfl rfl ?_)
 refine lC (o_len tK hk rfl rfl rfl rfl rfl ?_)
 refine lP 1 tK rfl (q1 (cB ?_))
 have d_ho_h1 : ∀ x, (.slice none 0 0 : Value).ownBlock = some x → x ≠ b1 := fun x hx => by simp [Value.ownBlock] at hx
 have d_ho_h2 : ∀ x, (.slice none 0 0 : Value).ownBlock = some x → x ≠ b2 := fun x hx => by simp [Value.ownBlock] at hx
 have d_hO_h1 : ∀ x, NoM x → x ≠ b1 := fun _ h => h.elim
 have d_hO_h2 : ∀ x, NoM x → x ≠ b2 := fun _ h => h.elim
 have dd_ho_hO : ∀ x y, (.slice none 0 0 : Value).ownBlock = some x → NoM y → x ≠ y := fun _ _ _ h => h.elim
 refine c_loop5 (X := Nat) (Y := Value) (Z := Nat → Prop) (U := List (VN 3)) (V := Nat → Prop) (fun i v M1 us F => [(1, .pointer (some ⟨b1, 0, none⟩)), (2, .pointer (some ⟨b2, 0, none⟩)), (6, v), (37, kv), (38, .int .i64 (t.kids.length : Int)), (39, .int .i64 (i : Nat))]) (fun i v M1 us F w' => i ≤ t.kids.length ∧ OwnSl 29 w.heap.size M1 w' v us ∧ OTs 29 w.heap.size w' us ((t.kids.take i).map canonF) F ∧ MB w.heap.size M1 w' b1 29 [.int .u8 t.op, .string t.name, .int .i64 t.n, kv] ∧ MB w.heap.size M1 w' b2 29 [.int .u8 0, .string ⟨#[]⟩, .int .i64 0, .slice none 0 0] ∧ (∀ x, (v : Value).ownBlock = some x → x ≠ b1) ∧ (∀ x, (v : Value).ownBlock = some x → x ≠ b2) ∧ (∀ x, F x → x ≠ b1) ∧ (∀ x, F x → x ≠ b2) ∧ (∀ x y, (v : Value).ownBlock = some x → F y → x ≠ y) ∧ Sl M1 w' kv t.kids ∧ Low M1 w' ∧ (∀ b, M b → M1 b) ∧ Below w.heap.size w w' ∧ w.heap.size ≤ w'.heap.size) (fun i v M1 us F => t.kids.length - i) (0) (.slice none 0 0) ((Rw.Add (Rw.Add M b1) b2)) ([]) (NoM) (s6 rfl rfl rfl rfl rfl rfl) ?_ ?_
 ·exact ⟨Nat.zero_le _, own_nil, ots_nil (fun _ h => h.elim), h1, h2, d_ho_h1, d_ho_h2, d_hO_h1, d_hO_h2, dd_ho_hO, hk, Lw, hsub, hE, hB⟩
 rintro i v M1 us F w11 ⟨hi, ho, hO, h1, h2, d_ho_h1, d_ho_h2, d_hO_h1, d_hO_h2, dd_ho_hO, hk, Lw, hsub, hE, hB⟩
 have hul := hO.len
 rw [List.length_map, List.length_take] at hul
 refine q0 (lP 1 tK rfl (q1 (cS ?_)))
 refine cP _ rfl (fun c2 => ?_) (fun c2 => ?_)
 ·refine cK (xS (cS (cB (q0 ?_))))
  have hik : i < t.kids.length := by omega
  have hp1 := psz_take hik
  obtain ⟨kd, hkd⟩ := kid_shape hsh hik
  refine lC (o_ixS tK hk (gE hik) rfl rfl rfl rfl rfl rfl rfl rfl rfl ?_)
  intro ebx eox eux hyx hX
  obtain ⟨kvx, rfl, opx, nmx, n64x, hkx⟩ := tO hyx
  replace hX : At M1 w11 ebx eox [.int .u8 t.kids[i].op, .string t.kids[i].name, .int .i64 t.kids[i].n, kvx] := hX
  refine lC (oL tK (fun j v hv => hX.cell j v hv) rfl rfl rfl rfl rfl rfl ?_)
  refine lC (o_new tK rfl rfl rfl ?_)
  intro b8 w12 qb8 ew12 hb8
  have nb8 := nO Lw qb8
  refine lC (o_st tK hb8 rfl rfl rfl rfl (Rep.one hyx) rfl rfl ?_)
  intro w13 h8 uw13 bew13
  have ew13 : Ext w11 w13 := ew12.trans (bew13 _ (lQ qb8.symm))
  replace ho := ho.Y Lw hB ew13
  replace hO := hO.Y Lw hB ew13
  replace h1 := h1.Y Lw hB ew13
  replace h2 := h2.Y Lw hB ew13
  replace hE := ew13.bl hE hB
  replace hk := hk.Y ew13
  replace hyx := Rep.Y hyx ew13
  replace hkx := hkx.Y ew13
  replace hX := hX.Y ew13
  replace Lw := Lw.Y ew13
  replace hB := ew13.z hB
  replace h8 : Box w13 b8 29 [.int .u8 t.kids[i].op, .string t.kids[i].name, .int .i64 t.kids[i].n, kvx] := h8
  replace h8 := h8.at nb8
  refine q1 (cG (lP 1 tK rfl ?_))
  refine lC (oL tK (fun j v hv => h8.cell j v hv) rfl rfl rfl rfl rfl rfl ?_)
  have l_h1 := h1.lt
  have l_h2 := h2.lt
  have l_ho := ho.lt
  have l_hO := hO.lt
  have hB0 := hB
  refine lC (oK fo107 rfl rfl rfl (ih _ _ _ _ _ (by omega) hkd hyx Lw (by omega)) ?_)
  rintro vc w14 ⟨hc, ew14⟩
  replace hc := hc.ge hB0
  have hGl : ∀ c, Plus NoM w13 w14 c → w13.heap.size ≤ c := fun c h => h.elim (fun h => h.elim) (fun h => h.1)
  replace ho := ho.Y Lw hB ew14
  replace hO := hO.Y Lw hB ew14
  replace h1 := h1.Y Lw hB ew14
  replace h2 := h2.Y Lw hB ew14
  replace hE := ew14.bl hE hB
  replace hk := hk.Y ew14
  replace hyx := Rep.Y hyx ew14
  replace hkx := hkx.Y ew14
  replace hX := hX.Y ew14
  replace h8 := h8.Y ew14
  replace Lw := Lw.Y ew14
  replace hB := ew14.z hB
  generalize Plus NoM w13 w14 = G at hc hGl
  have d_hc_h1 : ∀ x, G x → x ≠ b1 := fun x hx => by have := hGl x hx; omega
  have d_hc_h2 : ∀ x, G x → x ≠ b2 := fun x hx => by have := hGl x hx; omega
  have dd_ho_hc : ∀ x y, (v : Value).ownBlock = some x → G y → x ≠ y := fun x y hx hy => by have := hGl y hy; have := (l_ho x hx).2; omega
  have dd_hc_hO : ∀ c, G c → ¬ F c := fun c hg hf => by have := hGl c hg; have := (l_hO c hf).2; omega
  refine lC (o_bs tK rfl rfl rfl rfl rfl rfl rfl (sz1 hc.size) rfl rfl rfl ?_)
  intro bw15 w15 qbw15 ew15 hbw15
  have nbw15 := nO Lw qbw15
  replace ho := ho.Y Lw hB ew15
  replace hO := hO.Y Lw hB ew15
  replace h1 := h1.Y Lw hB ew15
  replace h2 := h2.Y Lw hB ew15
  replace hc := hc.Y Lw hB ew15
  replace hE := ew15.bl hE hB
  replace hk := hk.Y ew15
  replace hyx := Rep.Y hyx ew15
  replace hkx := hkx.Y ew15
  replace hX := hX.Y ew15
  replace h8 := h8.Y ew15
  replace Lw := Lw.Y ew15
  replace hB := ew15.z hB
  refine lC (o_app1 tK ho hbw15 nbw15 hc.vn Lw hB rfl rfl rfl rfl rfl rfl rfl (by omega) (by show (_ + _) * 56 ≤ _; omega) rfl rfl ?_)
  intro vw16 w16 Mw16 hw16 sw16 frw16 blw16
  have zd_ho_h1 := d_ho_h1
  replace d_ho_h1 : ∀ x, (vw16 : Value).ownBlock = some x → x ≠ b1 := fun x hx => (blw16 x hx).elim (d_ho_h1 x) (fun h e => by have := h1.lt; omega)
  have zd_ho_h2 := d_ho_h2
  replace d_ho_h2 : ∀ x, (vw16 : Value).ownBlock = some x → x ≠ b2 := fun x hx => (blw16 x hx).elim (d_ho_h2 x) (fun h e => by have := h2.lt; omega)
  have zdd_ho_hO := dd_ho_hO
  replace dd_ho_hO : ∀ x y, (vw16 : Value).ownBlock = some x → F y → x ≠ y := fun x y hx hy => (blw16 x hx).elim (fun h => dd_ho_hO x y h hy) (fun h e => by have := (hO.lt y hy).2; omega)
  have zdd_ho_hc := dd_ho_hc
  replace dd_ho_hc : ∀ x y, (vw16 : Value).ownBlock = some x → G y → x ≠ y := fun x y hx hy => (blw16 x hx).elim (fun h => dd_ho_hc x y h hy) (fun h e => by have := (hc.lt y hy).2; omega)
  replace hO := hO.sp sw16 (fun x hx => frw16 x (hO.lt x hx).2 (fun e => zdd_ho_hO x x e.symm hx rfl))
  replace h1 := h1.sp sw16 (frw16 b1 h1.lt (fun e => zd_ho_h1 _ e.symm rfl))
  replace h2 := h2.sp sw16 (frw16 b2 h2.lt (fun e => zd_ho_h2 _ e.symm rfl))
  replace hc := hc.sp sw16 (fun x hx => frw16 x (hc.lt x hx).2 (fun e => zdd_ho_hc x x e.symm hx rfl))
  replace hE := hE.trans sw16.below
  replace hk := hk.sp sw16
  replace hyx := Rep.sp hyx sw16
  replace hkx := hkx.sp sw16
  replace hX := hX.sp sw16
  replace h8 := h8.sp sw16
  replace hsub := sw16.sb hsub
  replace Lw := sw16.low
  replace hB := sw16.z hB
  replace ho := hw16
  clear hw16
  refine lP 1 tK rfl (q2 (xS (cG ?_)))
  refine lC (o_ai rfl rfl rfl (by omega) rfl rfl ?_)
  refine lP 1 tK rfl (lN ?_)
  have hO2 := hO.app hc dd_hc_hO
  exact x_round5 (i + 1) (vw16) (Mw16) (us ++ [⟨vc⟩]) (fun c => F c ∨ G c) (s6 rfl rfl rfl rfl rfl (gN rfl (by omega))) ⟨by omega, ho, by rw [List.take_succ_eq_append_getElem hik, List.map_append]; exact hO2, h1, h2, d_ho_h1, d_ho_h2, (fun x hx => hx.elim (d_hO_h1 x) (d_hc_h1 x)), (fun x hx => hx.elim (d_hO_h2 x) (d_hc_h2 x)), (fun x y hx hy => hy.elim (dd_ho_hO x y hx) (dd_ho_hc x y hx)), hk, Lw, hsub, hE, hB⟩ (by omega)
 refine c_exit (xE (xE (x_blkE (xS (q0 (lP 2 tK rfl ?_))))))
 obtain rfl : i = t.kids.length := by omega
 rw [List.take_of_length_le (lR _)] at hO
 obtain ⟨av, cv, rfl, hcv⟩ := ho.val
 refine lC (o_st tK h1.box rfl rfl rfl rfl (by simp [Value.cells, Value.oneCell']) rfl rfl ?_)
 intro w17 hw17 qw17 bew17
 have uw17 : UpdB _ _ _ := ⟨qw17, bew17⟩
 have sw17 := uw17.sp h1.inM Lw h1.ge
 have frw17 := qw17.2
 replace ho := ho.sp sw17 (fun x hx => frw17 x (ho.lt x hx).2 (d_ho_h1 x hx))
 replace hO := hO.sp sw17 (fun x hx => frw17 x (hO.lt x hx).2 (d_hO_h1 x hx))
 replace h2 := h2.sp sw17 (frw17 b2 h2.lt ne_h1_h2.symm)
 replace hE := hE.trans sw17.below
 replace hk := hk.sp sw17
 replace hsub := sw17.sb hsub
 replace Lw := sw17.low
 replace hB := sw17.z hB
 replace h1 : MB w.heap.size _ w17 b1 _ [.int .u8 t.op, .string t.name, .int .i64 t.n, .slice av us.length cv] := ⟨hw17, h1.inM, h1.ge⟩
 refine q1 (q0 ?_)
 refine lC (oL tK (fun j v hv => h1.cell j v hv) rfl rfl rfl rfl rfl rfl ?_)
 refine lC (o_st tK h2.box rfl rfl rfl rfl (by intro u hu; simp [Value.cells] at hu; rcases hu with rfl | rfl | rfl | rfl <;> rfl) rfl rfl ?_)
 intro w18 hw18 qw18 bew18
 have uw18 : UpdB _ _ _ := ⟨qw18, bew18⟩
 have sw18 := uw18.sp h2.inM Lw h2.ge
 have frw18 := qw18.2
 replace ho := ho.sp sw18 (fun x hx => frw18 x (ho.lt x hx).2 (d_ho_h2 x hx))
 replace hO := hO.sp sw18 (fun x hx => frw18 x (hO.lt x hx).2 (d_hO_h2 x hx))
 replace h1 := h1.sp sw18 (frw18 b1 h1.lt ne_h1_h2)
 replace hE := hE.trans sw18.below
 replace hk := hk.sp sw18
 replace hsub := sw18.sb hsub
 replace Lw := sw18.low
 replace hB := sw18.z hB
 replace h2 : MB w.heap.size _ w18 b2 _ [.int .u8 t.op, .string t.name, .int .i64 t.n, .slice av us.length cv] := ⟨hw18, h2.inM, h2.ge⟩
 refine q1 (cR ?_)
 refine x_ret1s tK (fun j v hv => h2.cell j v hv) rfl rfl rfl rfl rfl ?_
 have hfin := oty_fin op nm n64 (by simp; omega) ho hO dd_ho_hO
 rw [← canon_other hop] at hfin
 exact ⟨hfin, hE⟩
theorem canon_all (n : Nat) (t : Ty) (c : UInt8) (M : Nat → Prop) (w : World) (v : Value) (hn : psz t ≤ n) (hsh : shapeF t c = true) (ht : Rep.R M w v t) (Lw : Low M w) (hsz : psz t ≤ 2000000) :
  Calls Tryz.prog 107 #[v] w (Ret fun r w' => Rep.R M w' r (canonF t) ∧ Ext w w') := (canon_own n t c M w v hn hsh ht Lw hsz).mono (Ret.mono fun r w' h => ⟨h.1.repNew Lw, h.2⟩)
theorem refCanon_all (n : Nat) : ∀ (t : Ty) (c : UInt8) (M : Nat → Prop) (w : World) (v : Value), psz t ≤ n → shapeF t c = true → Rep.R M w v t → Low M w → psz t ≤ 2000000 →
  Calls Tryz.prog 73 #[v] w (Ret fun r w' => Rep.R M w' r (canonF t) ∧ Ext w w') := by
 induction n with
 | zero => intro t c M w v h; have := psz_pos t; omega
 | succ n ih =>
 intro t c M w v hn hsh ht hlow0 hsz
 have Lw := hlow0
 have hB := lR w.heap.size
 have hE := Below.refl w.heap.size w
 have hsub : ∀ b, M b → M b := fun _ h => h
 obtain ⟨kv, rfl, op, nm, n64, hk⟩ := tO ht
 have hps := psz_eq t
 have hkl := len_psz t.kids
 refine cN (n := 61) Tryz.func73 rfl rfl rfl ?_
 refine q0 ?_
 refine lC (o_box rfl rfl rfl ?_)
 intro b1 w1 hb_b1 ew1 h1
 replace h1 : Box _ b1 29 [.int .u8 t.op, .string t.name, .int .i64 t.n, kv] := h1
 replace h1 := h1.at (nO Lw hb_b1)
 replace hE := ew1.bl hE hB
 replace ht := Rep.Y ht ew1
 replace hk := hk.Y ew1
 replace Lw := Lw.Y ew1
 replace hB := ew1.z hB
 refine lC (o_new tK rfl rfl rfl ?_)
 intro b2 w2 qb2 ew2 hb2
 have sw2 := Stp.add ew2 Lw hB (lQ qb2.symm) hb2.lt
 have h2 : MB w.heap.size (Rw.Add M b2) w2 b2 29 [.int .u8 0, .string ⟨#[]⟩, .int .i64 0, .slice none 0 0] := MB.mk' hb2 qb2 hB
 replace hE := hE.trans sw2.below
 replace ht := Rep.sp ht sw2
 replace hk := hk.sp sw2
 replace h1 := h1.sp sw2
 replace hsub := sw2.sb hsub
 replace Lw := sw2.low
 replace hB := sw2.z hB
 refine q1 (cS (q0 (lP 1 tK rfl ?_)))
 refine lC (oD tK (h1.cell 0 _ rfl) rfl rfl rfl rfl rfl ?_)
 refine lP 1 tK rfl (q1 ?_)
 refine cP _ rfl (fun hc0 => ?_) (fun hc0 => ?_)
 ·have hop : t.op = 11 := by omega
  refine q0 ?_
  refine lC (oL tK (fun j v hv => h1.cell j v hv) rfl rfl rfl rfl rfl rfl ?_)
  have hsh2 := shape_114 hsh hop
  have hsl := spine_len t
  have hfl0 := fieldsF_len (spineF t).1
  have lh2 := h2.lt
  refine lC (oK fo91 rfl rfl rfl (fields_own t _ _ _ hsh2 ht Lw hsz) ?_)
  rintro _ w3 ⟨xv, tv, M2, rfl, ho, htl, sw3⟩
  have blw3 := sw3.below
  have d_ho_h2 : ∀ x, (xv : Value).ownBlock = some x → x ≠ b2 := fun x hx => by have := (ho.lt x hx).1; omega
  replace sw3 := sw3.mono hB
  replace ho := ho.mono hB
  replace h2 := h2.sp sw3 (blw3.block b2 lh2)
  replace hE := hE.trans sw3.below
  replace ht := Rep.sp ht sw3
  replace hk := hk.sp sw3
  replace h1 := h1.sp sw3
  replace hsub := sw3.sb hsub
  replace Lw := sw3.low
  replace hB := sw3.z hB
  obtain ⟨kve, rfl, ope, nme, n64e, hke⟩ := tO htl
  refine lP 3 tK rfl ?_
  refine lC (o_new tK rfl rfl rfl ?_)
  intro b4 w4 qb4 ew4 hb4
  have nb4 := nO Lw qb4
  refine lP 1 tK rfl ?_
  refine lC (o_st tK hb4 rfl rfl rfl rfl (Rep.one htl) rfl rfl ?_)
  intro w5 h4 uw5 bew5
  have ew5 : Ext w3 w5 := ew4.trans (bew5 _ (lQ qb4.symm))
  replace h2 := h2.Y Lw hB ew5
  replace ho := ho.Y Lw hB ew5
  replace hE := ew5.bl hE hB
  replace ht := Rep.Y ht ew5
  replace hk := hk.Y ew5
  replace h1 := h1.Y ew5
  replace htl := Rep.Y htl ew5
  replace hke := hke.Y ew5
  replace Lw := Lw.Y ew5
  replace hB := ew5.z hB
  replace h4 : Box w5 b4 29 [.int .u8 (spineF t).2.op, .string (spineF t).2.name, .int .i64 (spineF t).2.n, kve] := h4
  replace h4 := h4.at nb4
  refine q1 (cS (q0 (lP 1 tK rfl (q1 (cB ?_)))))
  refine c_loop (X := Nat) (fun i => [(2, .pointer (some ⟨b2, 0, none⟩)), (3, xv), (4, .pointer (some ⟨b4, 0, none⟩)), (5, .int .i64 (i : Nat))]) (fun i w' => i ≤ (fieldsF (spineF t).1).length ∧ OwnSl 125 w.heap.size M2 w' xv (canTo (fieldsF (spineF t).1) i) ∧ MB w.heap.size M2 w' b2 29 [.int .u8 0, .string ⟨#[]⟩, .int .i64 0, .slice none 0 0] ∧ At M2 w' b4 0 [.int .u8 (spineF t).2.op, .string (spineF t).2.name, .int .i64 (spineF t).2.n, kve] ∧ Rep.R M2 w' (.agg #[.int .u8 (spineF t).2.op, .string (spineF t).2.name, .int .i64 (spineF t).2.n, kve]) (spineF t).2 ∧ Low M2 w' ∧ (∀ b, M b → M2 b) ∧ Below w.heap.size w w' ∧ w.heap.size ≤ w'.heap.size) (fun i => (fieldsF (spineF t).1).length - i) (0) (s4 rfl rfl rfl (gN rfl rfl)) ?_ ?_
  ·refine ⟨Nat.zero_le _, ?_, h2, h4, htl, Lw, hsub, hE, hB⟩
   rw [canTo_zero]; exact ho
  clear hsub
  rintro i w6 ⟨hi, ho, h2, h4, htl, Lw, hsub, hE, hB⟩
  have hcl := canTo_len (fieldsF (spineF t).1) i
  refine cS (q0 (lP 2 tK rfl ?_))
  refine lC (o_lenO tK ho rfl rfl rfl rfl rfl ?_)
  refine lP 1 tK rfl (q1 ?_)
  refine cP _ rfl (fun c1 => ?_) (fun c1 => ?_)
  ·have hil : i < (fieldsF (spineF t).1).length := by omega
   refine cK (xS (cS (cB (cG (lP 4 tK rfl ?_)))))
   refine lC (o_ixO tK ho (canTo_get hil) rfl rfl rfl rfl rfl rfl rfl rfl rfl ?_)
   intro ibx iux hobx hrx hX
   obtain ⟨szx, kvx, rfl, hyx⟩ := fld_open hrx
   replace hX : At NoM w6 ibx _ [.string (fieldsF (spineF t).1)[i].name, .int .u8 (fieldsF (spineF t).1)[i].ty.op, .string (fieldsF (spineF t).1)[i].ty.name, .int .i64 (fieldsF (spineF t).1)[i].ty.n, kvx] := ⟨(ho.lt _ hobx).2, fun h => h, hX.cell⟩
   refine lP 1 tK rfl ?_
   refine lC (oL tK (fun j v hv => (hX).drop 1 (sub := [.int .u8 (fieldsF (spineF t).1)[i].ty.op, .string (fieldsF (spineF t).1)[i].ty.name, .int .i64 (fieldsF (spineF t).1)[i].ty.n, kvx]) rfl j v hv) rfl rfl rfl rfl rfl rfl ?_)
   have hfm := gM hil
   have hfp := fields_psz hfm
   have hfs := spine_shape t hsh2 _ (fields_mem hfm)
   refine lC (oK fo73 rfl rfl rfl (ih _ 116 _ _ _ (by omega) hfs hyx Lw (by omega)) ?_)
   rintro vc w7 ⟨hc, ew7⟩
   replace ho := ho.Y Lw hB ew7
   replace h2 := h2.Y Lw hB ew7
   replace hE := ew7.bl hE hB
   replace h4 := h4.Y ew7
   replace htl := Rep.Y htl ew7
   replace hrx := Rep.Y hrx ew7
   replace hyx := Rep.Y hyx ew7
   replace Lw := Lw.Y ew7
   replace hB := ew7.z hB
   obtain ⟨kvc, rfl, opc, nmc, n64c, hkc⟩ := tO hc
   refine lC (o_ixO tK ho (canTo_get hil) rfl rfl rfl rfl rfl rfl rfl rfl rfl ?_)
   intro ibz iuz hobz hrz hatz
   obtain ⟨szz, kvz, rfl, hyz⟩ := fld_open hrz
   replace hatz : OAt _ _ _ [.string (fieldsF (spineF t).1)[i].name, .int .u8 (fieldsF (spineF t).1)[i].ty.op, .string (fieldsF (spineF t).1)[i].ty.name, .int .i64 (fieldsF (spineF t).1)[i].ty.n, kvz] := hatz
   refine lP 1 tK rfl ?_
   have hnf : Rep.R _ w7 (.agg #[.string (fieldsF (spineF t).1)[i].name, .int .u8 (canonF (fieldsF (spineF t).1)[i].ty).op, .string (canonF (fieldsF (spineF t).1)[i].ty).name, .int .i64 (canonF (fieldsF (spineF t).1)[i].ty).n, kvc]) (canonFld (fieldsF (spineF t).1)[i]) := fld_mk szz hc
   refine lC (o_stP (j := i) (k := 1) (us := [.string (fieldsF (spineF t).1)[i].name, .int .u8 (fieldsF (spineF t).1)[i].ty.op, .string (fieldsF (spineF t).1)[i].ty.name, .int .i64 (fieldsF (spineF t).1)[i].ty.n, kvz]) tK ho hobz (by omega) (fun q a hq => hatz.cell q a hq) rfl hnf Lw rfl rfl rfl rfl rfl rfl rfl (Rep.one hc) (by decide) rfl rfl ?_)
   intro w8 hw8 sw8 frw8
   replace h2 := h2.sp sw8 (frw8 b2 h2.lt (fun e => d_ho_h2 _ hobz e.symm))
   replace hE := hE.trans sw8.below
   replace h4 := h4.sp sw8
   replace htl := Rep.sp htl sw8
   replace hrx := Rep.sp hrx sw8
   replace hyx := Rep.sp hyx sw8
   replace hc := Rep.sp hc sw8
   replace hsub := sw8.sb hsub
   replace Lw := sw8.low
   replace hB := sw8.z hB
   replace ho := hw8
   clear hw8
   refine q2 (xS (cG (lP 1 tK rfl ?_)))
   refine lC (o_ai rfl rfl rfl (by omega) rfl rfl ?_)
   refine lP 1 tK rfl (lN ?_)
   exact x_round (i + 1) (s4 rfl rfl rfl (gN rfl (by omega))) ⟨by omega, by rw [← canTo_set hil]; exact ho, h2, h4, htl, Lw, hsub, hE, hB⟩ (by omega)
  refine c_exit (xE (xE (x_blkE (xS (q0 (lP 1 tK rfl ?_))))))
  refine lC (oL tK (fun j v hv => h4.cell j v hv) rfl rfl rfl rfl rfl rfl ?_)
  have hall : canTo (fieldsF (spineF t).1) i = (fieldsF (spineF t).1).map canonFld := canTo_all (by omega)
  rw [hall] at ho
  have hml : ((fieldsF (spineF t).1).map canonFld).length = (fieldsF (spineF t).1).length := List.length_map _
  have hfz := ho.froze (by omega)
  replace h2 := h2.less (v := xv) d_ho_h2
  replace h4 := h4.wk (fun b _ h => less_sub (v := xv) b h)
  replace htl := Rep.wk htl (fun b _ h => less_sub (v := xv) b h)
  replace Lw : Low (Less M2 xv) w6 := fun b h => Lw b h.1
  replace hsub : ∀ b, _ → Less M2 xv b := fun b h => ⟨hsub b h, fun e => by have := (ho.lt b e).1; have := hlow0 b h; omega⟩
  refine lC (oK fo92 rfl rfl rfl (of_spec _ _ _ _ _ _ hfz htl Lw) ?_)
  rintro vj w9 ⟨hj, ew9⟩
  rw [← canon_row hop] at hj
  replace h2 := h2.Y Lw hB ew9
  replace hE := ew9.bl hE hB
  replace h4 := h4.Y ew9
  replace htl := Rep.Y htl ew9
  replace hfz := hfz.Y ew9
  replace Lw := Lw.Y ew9
  replace hB := ew9.z hB
  obtain ⟨kvj, rfl, opj, nmj, n64j, hkj⟩ := tO hj
  refine lC (o_st tK h2.box rfl rfl rfl rfl (Rep.one hj) rfl rfl ?_)
  intro w10 hw10 qw10 bew10
  have uw10 : UpdB _ _ _ := ⟨qw10, bew10⟩
  have sw10 := uw10.sp h2.inM Lw h2.ge
  have frw10 := qw10.2
  replace hE := hE.trans sw10.below
  replace h4 := h4.sp sw10
  replace htl := Rep.sp htl sw10
  replace hfz := hfz.sp sw10
  replace hj := Rep.sp hj sw10
  replace hsub := sw10.sb hsub
  replace Lw := sw10.low
  replace hB := sw10.z hB
  replace h2 : MB w.heap.size _ w10 b2 _ [.int .u8 (canonF t).op, .string (canonF t).name, .int .i64 (canonF t).n, kvj] := ⟨hw10, h2.inM, h2.ge⟩
  refine q1 (cR (xR ?_))
  refine x_ret1s tK (fun j v hv => h2.cell j v hv) rfl rfl rfl rfl rfl ?_
  exact ⟨Rep.wk hj (fun b _ h => hsub b h), hE⟩
 have hop : t.op ≠ 11 := by omega
 refine cK (xS (q0 (lP 1 tK rfl ?_)))
 refine lC (oD tK (h1.cell 0 _ rfl) rfl rfl rfl rfl rfl ?_)
 refine lP 1 tK rfl ?_
 refine lC (oD tK (h1.cell 1 _ rfl) rfl rfl rfl rfl rfl ?_)
 refine lP 1 tK rfl ?_
 refine lC (oD tK (h1.cell 2 _ rfl) rfl rfl rfl rfl rfl ?_)
 refine lC (o_build (cells := [.int .u8 t.op, .string t.name, .int .i64 t.n, .slice none 0 0]) bd29 rfl rfl rfl rfl rfl ?_)
 refine lC (o_new tK rfl rfl rfl ?_)
 intro b6 w11 qb6 ew11 hb6
 have ne_h2_h6 : b2 ≠ b6 := by have := h2.lt; omega
 have sw11 := Stp.add ew11 Lw hB (lQ qb6.symm) hb6.lt
 have h6 : MB w.heap.size (Rw.Add (Rw.Add M b2) b6) w11 b6 29 [.int .u8 0, .string ⟨#[]⟩, .int .i64 0, .slice none 0 0] := MB.mk' hb6 qb6 hB
 replace h2 := h2.sp sw11 (ew11.block b2 h2.lt)
 replace hE := hE.trans sw11.below
 replace ht := Rep.sp ht sw11
 replace hk := hk.sp sw11
 replace h1 := h1.sp sw11
 replace hsub := sw11.sb hsub
 replace Lw := sw11.low
 replace hB := sw11.z hB
 refine lC (o_st tK h6.box rfl rfl rfl rfl (by simp [Value.cells, Value.oneCell']) rfl rfl ?_)
 intro w12 hw12 qw12 bew12
 have uw12 : UpdB _ _ _ := ⟨qw12, bew12⟩
 have sw12 := uw12.sp h6.inM Lw h6.ge
 have frw12 := qw12.2
 replace h2 := h2.sp sw12 (frw12 b2 h2.lt ne_h2_h6)
 replace hE := hE.trans sw12.below
 replace ht := Rep.sp ht sw12
 replace hk := hk.sp sw12
 replace h1 := h1.sp sw12
 replace hsub := sw12.sb hsub
 replace Lw := sw12.low
 replace hB := sw12.z hB
 replace h6 : MB w.heap.size _ w12 b6 _ [.int .u8 t.op, .string t.name, .int .i64 t.n, .slice none 0 0] := ⟨hw12, h6.inM, h6.ge⟩
 refine q1 (cS (q0 (lP 1 tK rfl (q1 (cB ?_)))))
 have d_ho_h2 : ∀ x, (.slice none 0 0 : Value).ownBlock = some x → x ≠ b2 := fun x hx => by simp [Value.ownBlock] at hx
 have d_ho_h6 : ∀ x, (.slice none 0 0 : Value).ownBlock = some x → x ≠ b6 := fun x hx => by simp [Value.ownBlock] at hx
 refine c_loop3 (X := Nat) (Y := Value) (Z := Nat → Prop) (fun i v M1 => [(1, .pointer (some ⟨b1, 0, none⟩)), (2, .pointer (some ⟨b2, 0, none⟩)), (6, .pointer (some ⟨b6, 0, none⟩)), (7, .int .i64 (i : Nat))]) (fun i v M1 w' => i ≤ t.kids.length ∧ OwnSl 29 w.heap.size M1 w' v ((t.kids.take i).map canonF) ∧ MB w.heap.size M1 w' b2 29 [.int .u8 0, .string ⟨#[]⟩, .int .i64 0, .slice none 0 0] ∧ MB w.heap.size M1 w' b6 29 [.int .u8 t.op, .string t.name, .int .i64 t.n, v] ∧ At M1 w' b1 0 [.int .u8 t.op, .string t.name, .int .i64 t.n, kv] ∧ (∀ x, (v : Value).ownBlock = some x → x ≠ b2) ∧ (∀ x, (v : Value).ownBlock = some x → x ≠ b6) ∧ Sl M1 w' kv t.kids ∧ Low M1 w' ∧ (∀ b, M b → M1 b) ∧ Below w.heap.size w w' ∧ w.heap.size ≤ w'.heap.size) (fun i v M1 => t.kids.length - i) (0) (.slice none 0 0) ((Rw.Add (Rw.Add M b2) b6)) (s4 rfl rfl rfl rfl) ?_ ?_
 ·exact ⟨Nat.zero_le _, own_nil, h2, h6, h1, d_ho_h2, d_ho_h6, hk, Lw, hsub, hE, hB⟩
 rintro i v M1 w13 ⟨hi, ho, h2, h6, h1, d_ho_h2, d_ho_h6, hk, Lw, hsub, hE, hB⟩
 refine cS (q0 (lP 2 tK rfl ?_))
 refine lC (oD tK (h1.cell 3 _ rfl) rfl rfl rfl rfl rfl ?_)
 refine lC (o_len tK hk rfl rfl rfl rfl rfl ?_)
 refine lP 1 tK rfl (q1 ?_)
 refine cP _ rfl (fun c2 => ?_) (fun c2 => ?_)
 ·refine cK (xS (cS (cB ?_)))
  refine a_beg Ext rfl ?_
  intro w14 ew14
  replace ho := ho.Y Lw hB ew14
  replace h2 := h2.Y Lw hB ew14
  replace h6 := h6.Y Lw hB ew14
  replace hE := ew14.bl hE hB
  replace h1 := h1.Y ew14
  replace hk := hk.Y ew14
  replace Lw := Lw.Y ew14
  replace hB := ew14.z hB
  have hS : Ext w14 w14 := ext_refl _
  have D_h2 := h2.box
  have D_h6 := h6.box
  have D_h1 := h1
  have D_hk := hk
  refine a_p 0 tK rfl rfl rfl rfl (by kernel_rfl) i3 hS ?_
  refine a_ld 1 tK (fun _ hs => (D_h6.Y hs).cell 3 _ rfl) rfl rfl rfl rfl rfl rfl (by kernel_rfl) i3 hS ?_
  refine a_p 2 tK rfl rfl rfl rfl (by kernel_rfl) i3 hS ?_
  refine a_ld 3 tK (fun _ hs => (D_h1.Y hs).cell 3 _ rfl) rfl rfl rfl rfl rfl rfl (by kernel_rfl) i3 hS ?_
  refine a_p 4 tK rfl rfl rfl rfl (by kernel_rfl) i3 hS ?_
  have hik : i < t.kids.length := by omega
  have hp1 := psz_take hik
  obtain ⟨kd, hkd⟩ := kid_shape hsh hik
  refine a_ixS 5 tK D_hk (gE hik) rfl rfl rfl rfl rfl rfl rfl rfl rfl rfl (by kernel_rfl) i4 hS ?_
  intro ebx eox eux hyx hX
  obtain ⟨kvx, rfl, opx, nmx, n64x, hkx⟩ := tO hyx
  replace hX : At M1 w14 ebx eox [.int .u8 t.kids[i].op, .string t.kids[i].name, .int .i64 t.kids[i].n, kvx] := hX
  refine a_lds 6 tK (fun _ hs j v hv => (hX.Y hs).cell j v hv) rfl rfl rfl rfl rfl rfl rfl (by kernel_rfl) i3 hS ?_
  refine a_one 7 rfl (by kernel_rfl) (oK fo73 rfl rfl rfl (ih _ _ _ _ _ (by omega) hkd hyx Lw (by omega)) ?_)
  rintro vc w15 ⟨hc, ew15⟩
  replace hS := hS.then ew15
  replace ho := ho.Y Lw hB ew15
  replace h2 := h2.Y Lw hB ew15
  replace h6 := h6.Y Lw hB ew15
  replace hE := ew15.bl hE hB
  replace h1 := h1.Y ew15
  replace hk := hk.Y ew15
  replace hyx := Rep.Y hyx ew15
  replace hkx := hkx.Y ew15
  replace hX := hX.Y ew15
  replace Lw := Lw.Y ew15
  replace hB := ew15.z hB
  refine ⟨hS, ?_⟩
  refine a_one 8 rfl (by kernel_rfl) (o_bs tK rfl rfl rfl rfl rfl rfl rfl (sz1 (Rep.size hc)) rfl rfl rfl ?_)
  intro bw16 w16 qbw16 ew16 hbw16
  have nbw16 := nO Lw qbw16
  replace hS := hS.then ew16
  replace ho := ho.Y Lw hB ew16
  replace h2 := h2.Y Lw hB ew16
  replace h6 := h6.Y Lw hB ew16
  replace hE := ew16.bl hE hB
  replace h1 := h1.Y ew16
  replace hk := hk.Y ew16
  replace hyx := Rep.Y hyx ew16
  replace hkx := hkx.Y ew16
  replace hX := hX.Y ew16
  replace hc := Rep.Y hc ew16
  replace Lw := Lw.Y ew16
  replace hB := ew16.z hB
  refine ⟨hS, ?_⟩
  refine a_barS Ext 9 rfl (by kernel_rfl) (by kernel_rfl) (o_app1 tK ho hbw16 nbw16 hc Lw hB rfl rfl rfl rfl rfl rfl rfl (by simp; omega) (by show (_ + _) * 56 ≤ _; simp; omega) rfl rfl ?_)
  intro vw17 w17 Mw17 hw17 sw17 frw17 blw17
  have zd_ho_h2 := d_ho_h2
  replace d_ho_h2 : ∀ x, (vw17 : Value).ownBlock = some x → x ≠ b2 := fun x hx => (blw17 x hx).elim (d_ho_h2 x) (fun h e => by have := h2.lt; omega)
  have zd_ho_h6 := d_ho_h6
  replace d_ho_h6 : ∀ x, (vw17 : Value).ownBlock = some x → x ≠ b6 := fun x hx => (blw17 x hx).elim (d_ho_h6 x) (fun h e => by have := h6.lt; omega)
  replace h2 := h2.sp sw17 (frw17 b2 h2.lt (fun e => zd_ho_h2 _ e.symm rfl))
  replace h6 := h6.sp sw17 (frw17 b6 h6.lt (fun e => zd_ho_h6 _ e.symm rfl))
  replace hE := hE.trans sw17.below
  replace h1 := h1.sp sw17
  replace hk := hk.sp sw17
  replace hyx := Rep.sp hyx sw17
  replace hkx := hkx.sp sw17
  replace hX := hX.sp sw17
  replace hc := Rep.sp hc sw17
  replace hsub := sw17.sb hsub
  replace Lw := sw17.low
  replace hB := sw17.z hB
  replace hS : Ext w17 w17 := ext_refl _
  replace ho := hw17
  clear hw17
  have D_h2 := h2.box
  have D_h6 := h6.box
  have D_h1 := h1
  have D_hk := hk
  have D_hkx := hkx
  have D_hatx := hX
  refine a_p 10 tK rfl rfl rfl rfl (by kernel_rfl) i3 hS ?_
  obtain ⟨av6, cv6, rfl, _⟩ := ho.val
  refine a_barS Ext 11 rfl (by kernel_rfl) (by kernel_rfl) (o_st tK h6.box rfl rfl rfl rfl (by simp [Value.cells, Value.oneCell']) rfl rfl ?_)
  intro w18 hw18 qw18 bew18
  have uw18 : UpdB _ _ _ := ⟨qw18, bew18⟩
  have sw18 := uw18.sp h6.inM Lw h6.ge
  have frw18 := qw18.2
  replace ho := ho.sp sw18 (fun x hx => frw18 x (ho.lt x hx).2 (d_ho_h6 x hx))
  replace h2 := h2.sp sw18 (frw18 b2 h2.lt ne_h2_h6)
  replace hE := hE.trans sw18.below
  replace h1 := h1.sp sw18
  replace hk := hk.sp sw18
  replace hyx := Rep.sp hyx sw18
  replace hkx := hkx.sp sw18
  replace hX := hX.sp sw18
  replace hc := Rep.sp hc sw18
  replace hsub := sw18.sb hsub
  replace Lw := sw18.low
  replace hB := sw18.z hB
  replace hS : Ext w18 w18 := ext_refl _
  replace h6 : MB w.heap.size _ w18 b6 _ [.int .u8 t.op, .string t.name, .int .i64 t.n, (.slice av6 ((t.kids.take i).map canonF ++ [canonF t.kids[i]]).length cv6)] := ⟨hw18, h6.inM, h6.ge⟩
  have D_h2 := h2.box
  have D_h6 := h6.box
  have D_h1 := h1
  have D_hk := hk
  have D_hkx := hkx
  have D_hatx := hX
  refine a_end (by kernel_rfl) ?_
  refine x_blk (xS (cG (lP 1 tK rfl ?_)))
  refine lC (o_ai rfl rfl rfl (by omega) rfl rfl ?_)
  refine lP 1 tK rfl (lN ?_)
  exact x_round3 (i + 1) ((.slice av6 ((t.kids.take i).map canonF ++ [canonF t.kids[i]]).length cv6)) (Mw17) (s4 rfl rfl rfl (gN rfl (by omega))) ⟨by omega, by rw [List.take_succ_eq_append_getElem hik, List.map_append]; exact ho, h2, h6, h1, d_ho_h2, d_ho_h6, hk, Lw, hsub, hE, hB⟩ (by omega)
 refine c_exit (xE (xE (x_blkE (xS (q0 ?_)))))
 refine lC (oL tK (fun j v hv => h6.cell j v hv) rfl rfl rfl rfl rfl rfl ?_)
 obtain rfl : i = t.kids.length := by omega
 rw [List.take_of_length_le (lR _)] at ho
 obtain ⟨av, cv, rfl, hcv⟩ := ho.val
 have hml : (t.kids.map canonF).length = t.kids.length := List.length_map _
 refine lC (o_st tK h2.box rfl rfl rfl rfl (by intro u hu; simp [Value.cells] at hu; rcases hu with rfl | rfl | rfl | rfl <;> rfl) rfl rfl ?_)
 intro w19 hw19 qw19 bew19
 have uw19 : UpdB _ _ _ := ⟨qw19, bew19⟩
 have sw19 := uw19.sp h2.inM Lw h2.ge
 have frw19 := qw19.2
 replace ho := ho.sp sw19 (fun x hx => frw19 x (ho.lt x hx).2 (d_ho_h2 x hx))
 replace h6 := h6.sp sw19 (frw19 b6 h6.lt ne_h2_h6.symm)
 replace hE := hE.trans sw19.below
 replace h1 := h1.sp sw19
 replace hk := hk.sp sw19
 replace hsub := sw19.sb hsub
 replace Lw := sw19.low
 replace hB := sw19.z hB
 replace h2 : MB w.heap.size _ w19 b2 _ [.int .u8 t.op, .string t.name, .int .i64 t.n, .slice av (t.kids.map canonF).length cv] := ⟨hw19, h2.inM, h2.ge⟩
 refine q1 (cR ?_)
 refine x_ret1s tK (fun j v hv => h2.cell j v hv) rfl rfl rfl rfl rfl ?_
 have hfin := ty_mk op nm n64 (ho.sl (by omega) hlow0 hsub)
 rw [← canon_other hop] at hfin
 exact ⟨hfin, hE⟩
theorem kRight_specB (t : Ty) (M : Nat → Prop) (w : World) (v : Value) (ht : Rep.R M w v t) (Lw : Low M w) : Calls Tryz.prog 75 #[v] w (Ret fun r w' => r = .bool (rightB t) ∧ Ext w w') := by
 have h := kRight_spec t M w v ht Lw
 rwa [rightB_law] at h
theorem either_specB (t : Ty) (M : Nat → Prop) (w : World) (v : Value) (ht : Rep.R M w v t) (Lw : Low M w) : Calls Tryz.prog 95 #[v] w (Ret fun r w' => r = .bool (rightB t || rowB t) ∧ Ext w w') := by
 have h := either_spec t M w v ht Lw
 rwa [rightB_law, rowB_law] at h
theorem shape_either {t : Ty} (h : (rightB t || rowB t) = true) : ∃ c, shapeF t c = true := by
 rw [Bool.or_eq_true] at h
 rcases h with h | h
 ·unfold rightB at h; rw [Bool.and_eq_true] at h; exact ⟨_, h.1⟩
 ·unfold rowB at h; rw [Bool.and_eq_true] at h; exact ⟨_, h.1⟩
end Go.Proofs.YtpoahmeacjggfaaGreat
namespace Rw
end Rw
