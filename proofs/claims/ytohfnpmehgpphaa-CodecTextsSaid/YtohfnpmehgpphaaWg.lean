/- Walks: fields put in order. Printed by wip/walks/kinds7.py. -/
import Derived.Test.YtohfnpmehgpphaaWf
import Derived.Test.YtohfnpmehgpphaaMore
import Derived.Test.YtohfnpmehgpphaaPlainM
namespace Go.Proofs.Ytohfnpmehgpphaa
open Go Rw Go.RowKit
set_option maxRecDepth 100000

/-- swapRange: two ranges change places. -/
theorem swapRange_spec (M : Nat → Prop) (w : World) (B : Nat) (v : Value) (l : List Fld) (za zb zn : Int) (a b n : Nat) (ea : za = a) (eb : zb = b) (en : zn = n) (hab : a + n ≤ b) (hbn : b + n ≤ l.length) (hd : OwnSl 56 B M w v l) (hl : l.length < 140737488355328) (hlow : Low M w) (hB : B ≤ w.heap.size) :
    Calls Try.prog 164 #[v, .int .i64 za, .int .i64 zb, .int .i64 zn, .func (.func 115) #[] #[]] w (Ret fun r w' => r = .tuple #[] ∧ (∃ l', OwnSl 56 B M w' v l' ∧ SwR l l' a b n) ∧ Stp B M M w w' ∧ (∀ x, x < w.heap.size → some x ≠ v.ownBlock → w'.heap[x]? = w.heap[x]?)) := by
  subst ea; subst eb; subst en
  have hT : Stp B M M w w := Stp.refl hlow
  have hF : (∀ x, x < w.heap.size → some x ≠ v.ownBlock → w.heap[x]? = w.heap[x]?) := fun _ _ _ => rfl
  refine c_enter (n := 38) Try.func164 rfl rfl rfl ?_
  refine q0 (l_p 1 tbOk rfl (q1 (c_blk ?_)))
  refine c_loop2 (X := Nat) (Y := List Fld) (fun i l' => [(0, v), (1, .int .i64 (a : Int)), (2, .int .i64 (b : Int)), (3, .int .i64 (n : Int)), (4, .func (.func 115) #[] #[]), (10, .int .i64 (i : Nat))]) (fun i l' w' => i ≤ n ∧ SwR l l' a b i ∧ OwnSl 56 B M w' v l' ∧ Low M w' ∧ B ≤ w'.heap.size ∧ Stp B M M w w' ∧ (∀ x, x < w.heap.size → some x ≠ (v : Value).ownBlock → w'.heap[x]? = w.heap[x]?)) (fun i l' => n - i) (0) (l) (s6 rfl rfl rfl rfl rfl rfl) ?_ ?_
  · exact ⟨Nat.zero_le _, SwR.zero _ _ _, hd, hlow, hB, hT, hF⟩
  rintro i l2 w1 ⟨hi, hsw, hd, hlow, hB, hT, hF⟩
  refine c_seq (q0 (l_p 3 tbOk rfl (q1 ?_)))
  refine c_ifP _ rfl (fun hc => ?_) (fun hc => ?_)
  · have hlen := hsw.len
    have ha1 : a + i < l2.length := by omega
    have hb1 : b + i < l2.length := by omega
    refine c_skip (x_seq (c_seq (c_blk ?_)))
    refine a_beg (fun _ _ => True) rfl ?_
    intro w2 ew2
    replace hF : ∀ x, x < w.heap.size → some x ≠ (v : Value).ownBlock → w2.heap[x]? = w.heap[x]? := fun x hx hn => (ew2.block x (Nat.lt_of_lt_of_le hx hT.upd.1)).trans (hF x hx hn)
    replace hT := hT.then (Stp.ext ew2 hlow hB)
    replace hd := hd.ext hlow hB ew2
    replace hlow := hlow.ext ew2
    replace hB := Nat.le_trans hB ew2.size
    have hS : True := trivial
    refine a_p 0 tbOk rfl rfl rfl rfl (by kernel_rfl) (fun _ _ _ h => h) hS ?_
    refine a_p 1 tbOk rfl rfl rfl rfl (by kernel_rfl) (fun _ _ _ h => h) hS ?_
    refine a_p 2 tbOk rfl rfl rfl rfl (by kernel_rfl) (fun _ _ _ h => h) hS ?_
    refine a_ar 3 rfl rfl rfl rfl (IntWalk.i64_in _ (by omega)) rfl rfl (by kernel_rfl) (fun _ _ _ h => h) hS ?_
    refine a_p 4 tbOk rfl rfl rfl rfl (by kernel_rfl) (fun _ _ _ h => h) hS ?_
    refine a_p 5 tbOk rfl rfl rfl rfl (by kernel_rfl) (fun _ _ _ h => h) hS ?_
    refine a_p 6 tbOk rfl rfl rfl rfl (by kernel_rfl) (fun _ _ _ h => h) hS ?_
    refine a_ar 7 rfl rfl rfl rfl (IntWalk.i64_in _ (by omega)) rfl rfl (by kernel_rfl) (fun _ _ _ h => h) hS ?_
    refine a_p 8 tbOk rfl rfl rfl rfl (by kernel_rfl) (fun _ _ _ h => h) hS ?_
    refine a_p 9 tbOk rfl rfl rfl rfl (by kernel_rfl) (fun _ _ _ h => h) hS ?_
    refine a_p 10 tbOk rfl rfl rfl rfl (by kernel_rfl) (fun _ _ _ h => h) hS ?_
    refine a_ar 11 rfl rfl rfl rfl (IntWalk.i64_in _ (by omega)) rfl rfl (by kernel_rfl) (fun _ _ _ h => h) hS ?_
    refine a_ixO 12 tbOk hd (List.getElem?_eq_getElem hb1) rfl rfl rfl (by omega) rfl rfl rfl rfl rfl rfl (by kernel_rfl) (fun _ _ _ _ h => h) hS ?_
    intro ibq1 iuq1 hobq1 hrq1 hatq1
    obtain ⟨szq1, kvq1, rfl, hyq1⟩ := fld_open hrq1
    replace hatq1 : OAt _ _ _ [.string l2[b + i].name, .int .u8 l2[b + i].ty.op, .string l2[b + i].ty.name, .int .i64 l2[b + i].ty.n, kvq1] := hatq1
    refine a_p 14 tbOk rfl rfl rfl rfl (by kernel_rfl) (fun _ _ _ h => h) hS ?_
    refine a_p 15 tbOk rfl rfl rfl rfl (by kernel_rfl) (fun _ _ _ h => h) hS ?_
    refine a_p 16 tbOk rfl rfl rfl rfl (by kernel_rfl) (fun _ _ _ h => h) hS ?_
    refine a_ar 17 rfl rfl rfl rfl (IntWalk.i64_in _ (by omega)) rfl rfl (by kernel_rfl) (fun _ _ _ h => h) hS ?_
    refine a_ixO 18 tbOk hd (List.getElem?_eq_getElem ha1) rfl rfl rfl (by omega) rfl rfl rfl rfl rfl rfl (by kernel_rfl) (fun _ _ _ _ h => h) hS ?_
    intro ibq2 iuq2 hobq2 hrq2 hatq2
    obtain ⟨szq2, kvq2, rfl, hyq2⟩ := fld_open hrq2
    replace hatq2 : OAt _ _ _ [.string l2[a + i].name, .int .u8 l2[a + i].ty.op, .string l2[a + i].ty.name, .int .i64 l2[a + i].ty.n, kvq2] := hatq2
    refine a_all [13, 19] (by kernel_rfl) rfl (all_cons (i := 13) rfl ?_ (all_cons (i := 19) rfl ?_ all_nil))
    · refine o_lds tbOk (fun j v hv => hatq1.cell j v hv) rfl rfl rfl rfl rfl rfl ?_
      refine ⟨hS, ?_⟩
      refine a_one 19 rfl (by kernel_rfl) (o_lds tbOk (fun j v hv => hatq2.cell j v hv) rfl rfl rfl rfl rfl rfl ?_)
      refine ⟨hS, ?_⟩
      refine a_ixO 20 tbOk hd (List.getElem?_eq_getElem ha1) rfl rfl rfl (by omega) rfl rfl rfl rfl rfl rfl (by kernel_rfl) (fun _ _ _ _ h => h) hS ?_
      intro ibq3 iuq3 hobq3 hrq3 hatq3
      obtain ⟨szq3, kvq3, rfl, hyq3⟩ := fld_open hrq3
      replace hatq3 : OAt _ _ _ [.string l2[a + i].name, .int .u8 l2[a + i].ty.op, .string l2[a + i].ty.name, .int .i64 l2[a + i].ty.n, kvq3] := hatq3
      refine a_one 21 rfl (by kernel_rfl) (o_stO tbOk hd hobq3 (by first | omega | (simp; omega)) hrq1 hlow rfl rfl rfl rfl rfl rfl ?_)
      intro w3 hw3 sw3 frw3
      replace hF : ∀ x, x < w.heap.size → some x ≠ (v : Value).ownBlock → w3.heap[x]? = w.heap[x]? := fun x hx hn => (frw3 x (Nat.lt_of_lt_of_le hx hT.upd.1) (fun e => hn (by rw [hobq3, e]))).trans (hF x hx hn)
      replace hT := hT.then sw3
      replace hrq1 := Rep.stp hrq1 sw3
      replace hrq2 := Rep.stp hrq2 sw3
      replace hrq3 := Rep.stp hrq3 sw3
      replace hlow := sw3.low
      replace hB := Nat.le_trans hB sw3.upd.1
      refine ⟨hS, ?_⟩
      replace hd := hw3
      clear hw3
      refine a_ixO 22 tbOk hd (List.getElem?_eq_getElem (by simpa using hb1)) rfl rfl rfl (by omega) rfl rfl rfl rfl rfl rfl (by kernel_rfl) (fun _ _ _ _ h => h) hS ?_
      intro ibq4 iuq4 hobq4 hrq4 hatq4
      refine a_one 23 rfl (by kernel_rfl) (o_stO tbOk hd hobq4 (by first | omega | (simp; omega)) hrq2 hlow rfl rfl rfl rfl rfl rfl ?_)
      intro w4 hw4 sw4 frw4
      replace hF : ∀ x, x < w.heap.size → some x ≠ (v : Value).ownBlock → w4.heap[x]? = w.heap[x]? := fun x hx hn => (frw4 x (Nat.lt_of_lt_of_le hx hT.upd.1) (fun e => hn (by rw [hobq4, e]))).trans (hF x hx hn)
      replace hT := hT.then sw4
      replace hrq1 := Rep.stp hrq1 sw4
      replace hrq2 := Rep.stp hrq2 sw4
      replace hrq3 := Rep.stp hrq3 sw4
      replace hlow := sw4.low
      replace hB := Nat.le_trans hB sw4.upd.1
      refine ⟨hS, ?_⟩
      replace hd := hw4
      clear hw4
      refine a_end (by kernel_rfl) ?_
      refine x_blk (x_seq (c_reg (l_p 1 tbOk rfl ?_)))
      refine l_cons (o_ar rfl rfl rfl (IntWalk.i64_in _ (by omega)) rfl rfl ?_)
      refine l_p 1 tbOk rfl (l_nil ?_)
      exact x_round2 (i + 1) (((l2.set (a + i) l2[b + i]).set (b + i) l2[a + i])) (s6 rfl rfl rfl rfl rfl (get_num rfl (by omega))) ⟨by omega, hsw.step (by omega) (by omega) ha1 hb1, hd, hlow, hB, hT, hF⟩ (by omega)
    refine o_lds tbOk (fun j v hv => hatq2.cell j v hv) rfl rfl rfl rfl rfl rfl ?_
    refine ⟨hS, ?_⟩
    refine a_one 13 rfl (by kernel_rfl) (o_lds tbOk (fun j v hv => hatq1.cell j v hv) rfl rfl rfl rfl rfl rfl ?_)
    refine ⟨hS, ?_⟩
    refine a_ixO 20 tbOk hd (List.getElem?_eq_getElem (by simpa using ha1)) rfl rfl rfl (by omega) rfl rfl rfl rfl rfl rfl (by kernel_rfl) (fun _ _ _ _ h => h) hS ?_
    intro ibq5 iuq5 hobq5 hrq5 hatq5
    refine a_one 21 rfl (by kernel_rfl) (o_stO tbOk hd hobq5 (by first | omega | (simp; omega)) hrq1 hlow rfl rfl rfl rfl rfl rfl ?_)
    intro w5 hw5 sw5 frw5
    replace hF : ∀ x, x < w.heap.size → some x ≠ (v : Value).ownBlock → w5.heap[x]? = w.heap[x]? := fun x hx hn => (frw5 x (Nat.lt_of_lt_of_le hx hT.upd.1) (fun e => hn (by rw [hobq5, e]))).trans (hF x hx hn)
    replace hT := hT.then sw5
    replace hrq1 := Rep.stp hrq1 sw5
    replace hrq2 := Rep.stp hrq2 sw5
    replace hlow := sw5.low
    replace hB := Nat.le_trans hB sw5.upd.1
    refine ⟨hS, ?_⟩
    replace hd := hw5
    clear hw5
    refine a_ixO 22 tbOk hd (List.getElem?_eq_getElem (by simpa using hb1)) rfl rfl rfl (by omega) rfl rfl rfl rfl rfl rfl (by kernel_rfl) (fun _ _ _ _ h => h) hS ?_
    intro ibq6 iuq6 hobq6 hrq6 hatq6
    refine a_one 23 rfl (by kernel_rfl) (o_stO tbOk hd hobq6 (by first | omega | (simp; omega)) hrq2 hlow rfl rfl rfl rfl rfl rfl ?_)
    intro w6 hw6 sw6 frw6
    replace hF : ∀ x, x < w.heap.size → some x ≠ (v : Value).ownBlock → w6.heap[x]? = w.heap[x]? := fun x hx hn => (frw6 x (Nat.lt_of_lt_of_le hx hT.upd.1) (fun e => hn (by rw [hobq6, e]))).trans (hF x hx hn)
    replace hT := hT.then sw6
    replace hrq1 := Rep.stp hrq1 sw6
    replace hrq2 := Rep.stp hrq2 sw6
    replace hlow := sw6.low
    replace hB := Nat.le_trans hB sw6.upd.1
    refine ⟨hS, ?_⟩
    replace hd := hw6
    clear hw6
    refine a_end (by kernel_rfl) ?_
    refine x_blk (x_seq (c_reg (l_p 1 tbOk rfl ?_)))
    refine l_cons (o_ar rfl rfl rfl (IntWalk.i64_in _ (by omega)) rfl rfl ?_)
    refine l_p 1 tbOk rfl (l_nil ?_)
    exact x_round2 (i + 1) (((l2.set (a + i) l2[b + i]).set (b + i) l2[a + i])) (s6 rfl rfl rfl rfl rfl (get_num rfl (by omega))) ⟨by omega, hsw.step (by omega) (by omega) ha1 hb1, hd, hlow, hB, hT, hF⟩ (by omega)
  refine c_exit (x_seqE (x_seqE (x_blkE ?_)))
  refine x_ret0n rfl ?_
  obtain rfl : i = n := by omega
  exact ⟨rfl, ⟨l2, hd, hsw⟩, hT, hF⟩

/-- rotate: two neighbouring ranges change places. -/
theorem rotate_spec (M : Nat → Prop) (w : World) (B : Nat) (v : Value) (l : List Fld) (za zm zb : Int) (a m b : Nat) (ea : za = a) (em : zm = m) (eb : zb = b) (ham : a < m) (hmb : m < b) (hbl : b ≤ l.length) (hd : OwnSl 56 B M w v l) (hl : l.length < 140737488355328) (hlow : Low M w) (hB : B ≤ w.heap.size) :
    Calls Try.prog 154 #[v, .int .i64 za, .int .i64 zm, .int .i64 zb, .func (.func 115) #[] #[]] w (Ret fun r w' => r = .tuple #[] ∧ (∃ l', OwnSl 56 B M w' v l' ∧ Rot l l' a m b) ∧ Stp B M M w w' ∧ (∀ x, x < w.heap.size → some x ≠ v.ownBlock → w'.heap[x]? = w.heap[x]?)) := by
  subst ea; subst em; subst eb
  have hT : Stp B M M w w := Stp.refl hlow
  have hF : (∀ x, x < w.heap.size → some x ≠ v.ownBlock → w.heap[x]? = w.heap[x]?) := fun _ _ _ => rfl
  refine c_enter (n := 58) Try.func154 rfl rfl rfl ?_
  refine q0 (l_p 2 tbOk rfl ?_)
  refine l_cons (o_ar rfl rfl rfl (IntWalk.i64_in _ (by omega)) rfl rfl ?_)
  refine l_p 1 tbOk rfl (q1 (q0 (l_p 2 tbOk rfl ?_)))
  refine l_cons (o_ar rfl rfl rfl (IntWalk.i64_in _ (by omega)) rfl rfl ?_)
  refine l_p 1 tbOk rfl (q1 (c_seq (c_blk ?_)))
  refine c_loop3 (X := Nat) (Y := Nat) (Z := List Fld) (fun i j l' => [(0, v), (1, .int .i64 (a : Int)), (2, .int .i64 (m : Int)), (3, .int .i64 (b : Int)), (4, .func (.func 115) #[] #[]), (10, .int .i64 (i : Nat)), (11, .int .i64 (j : Nat))]) (fun i j l' w' => 0 < i ∧ 0 < j ∧ i ≤ m - a ∧ j ≤ b - m ∧ l'.length = l.length ∧ (∀ k, Rot l' k (m - i) m (m + j) → Rot l k a m b) ∧ OwnSl 56 B M w' v l' ∧ Low M w' ∧ B ≤ w'.heap.size ∧ Stp B M M w w' ∧ (∀ x, x < w.heap.size → some x ≠ (v : Value).ownBlock → w'.heap[x]? = w.heap[x]?)) (fun i j l' => i + j) (m - a) (b - m) (l) (s7 rfl rfl rfl rfl rfl (get_num rfl (by omega)) (get_num rfl (by omega))) ?_ ?_
  · exact ⟨by omega, by omega, Nat.le_refl _, Nat.le_refl _, rfl, fun k hk => by rwa [show m - (m - a) = a by omega, show m + (b - m) = b by omega] at hk, hd, hlow, hB, hT, hF⟩
  rintro i j l2 w1 ⟨hi0, hj0, hi, hj, hlen, hrot, hd, hlow, hB, hT, hF⟩
  refine c_seq (q0 (l_p 3 tbOk rfl (q1 ?_)))
  refine c_ifN _ rfl (fun hne => ?_) (fun hne => ?_)
  · refine c_skip (x_seq (c_blk (q0 (l_p 3 tbOk rfl (q1 ?_)))))
    refine c_ifP _ rfl (fun hgt => ?_) (fun hgt => ?_)
    · refine q0 (l_p 3 tbOk rfl ?_)
      refine l_cons (o_ar rfl rfl rfl (IntWalk.i64_in _ (by omega)) rfl rfl ?_)
      refine l_p 3 tbOk rfl ?_
      refine l_cons (o_call fo164 rfl rfl rfl (swapRange_spec M _ B v l2 _ _ _ (m - i) m j (by omega) (by omega) (by omega) (by omega) (by omega) hd (by omega) hlow hB) ?_)
      rintro _ w2 ⟨rfl, ⟨l3, hdw2, hsw⟩, sw2, frw2⟩
      replace hF : ∀ x, x < w.heap.size → some x ≠ (v : Value).ownBlock → w2.heap[x]? = w.heap[x]? := fun x hx hn => (frw2 x (Nat.lt_of_lt_of_le hx hT.upd.1) hn).trans (hF x hx hn)
      replace hT := hT.then sw2
      replace hlow := sw2.low
      replace hB := Nat.le_trans hB sw2.upd.1
      replace hd := hdw2
      refine q1 (c_reg (l_p 2 tbOk rfl ?_))
      refine l_cons (o_ar rfl rfl rfl (IntWalk.i64_in _ (by omega)) rfl rfl ?_)
      refine l_p 1 tbOk rfl (q2 ?_)
      exact x_round3 (i - j) (j) (l3) (s7 rfl rfl rfl rfl rfl (get_num rfl (by omega)) rfl) ⟨by omega, by omega, by omega, by omega, hsw.len.trans hlen, fun k hk => hrot k (rot_up hsw (by omega) (by omega) hk), hd, hlow, hB, hT, hF⟩ (by omega)
    refine q0 (l_p 3 tbOk rfl ?_)
    refine l_cons (o_ar rfl rfl rfl (IntWalk.i64_in _ (by omega)) rfl rfl ?_)
    refine l_p 2 tbOk rfl ?_
    refine l_cons (o_ar rfl rfl rfl (IntWalk.i64_in _ (by omega)) rfl rfl ?_)
    refine l_p 1 tbOk rfl ?_
    refine l_cons (o_ar rfl rfl rfl (IntWalk.i64_in _ (by omega)) rfl rfl ?_)
    refine l_p 2 tbOk rfl ?_
    refine l_cons (o_call fo164 rfl rfl rfl (swapRange_spec M _ B v l2 _ _ _ (m - i) (m + j - i) i (by omega) (by omega) (by omega) (by omega) (by omega) hd (by omega) hlow hB) ?_)
    rintro _ w3 ⟨rfl, ⟨l3, hdw3, hsw⟩, sw3, frw3⟩
    replace hF : ∀ x, x < w.heap.size → some x ≠ (v : Value).ownBlock → w3.heap[x]? = w.heap[x]? := fun x hx hn => (frw3 x (Nat.lt_of_lt_of_le hx hT.upd.1) hn).trans (hF x hx hn)
    replace hT := hT.then sw3
    replace hlow := sw3.low
    replace hB := Nat.le_trans hB sw3.upd.1
    replace hd := hdw3
    refine q1 (c_reg (l_p 2 tbOk rfl ?_))
    refine l_cons (o_ar rfl rfl rfl (IntWalk.i64_in _ (by omega)) rfl rfl ?_)
    refine l_p 1 tbOk rfl (q2 ?_)
    exact x_round3 (i) (j - i) (l3) (s7 rfl rfl rfl rfl rfl rfl (get_num rfl (by omega))) ⟨by omega, by omega, by omega, by omega, hsw.len.trans hlen, fun k hk => hrot k (rot_down hsw (by omega) (by omega) hk), hd, hlow, hB, hT, hF⟩ (by omega)
  refine c_exit (x_seqE (x_seqE (x_blkE (x_seq (c_reg (l_p 3 tbOk rfl ?_))))))
  refine l_cons (o_ar rfl rfl rfl (IntWalk.i64_in _ (by omega)) rfl rfl ?_)
  refine l_p 3 tbOk rfl ?_
  refine l_cons (o_call fo164 rfl rfl rfl (swapRange_spec M _ B v l2 _ _ _ (m - i) m i (by omega) (by omega) (by omega) (by omega) (by omega) hd (by omega) hlow hB) ?_)
  rintro _ w4 ⟨rfl, ⟨l3, hdw4, hsw⟩, sw4, frw4⟩
  replace hF : ∀ x, x < w.heap.size → some x ≠ (v : Value).ownBlock → w4.heap[x]? = w.heap[x]? := fun x hx hn => (frw4 x (Nat.lt_of_lt_of_le hx hT.upd.1) hn).trans (hF x hx hn)
  replace hT := hT.then sw4
  replace hlow := sw4.low
  replace hB := Nat.le_trans hB sw4.upd.1
  replace hd := hdw4
  refine l_nil ?_
  refine x_ret0n rfl ?_
  obtain rfl : i = j := by omega
  exact ⟨rfl, ⟨l3, hd, hrot l3 (rot_last hsw (by omega))⟩, hT, hF⟩

/-- symMerge: two neighbouring ranges in order are put in order as one. -/
theorem symMerge_all (d : Nat) : ∀ (M : Nat → Prop) (w : World) (B : Nat) (v : Value) (l : List Fld) (za zm zb : Int) (a m b : Nat) (_ : za = a) (_ : zm = m) (_ : zb = b) (_ : b - a ≤ d) (_ : a < m) (_ : m < b) (_ : b ≤ l.length) (_ : SrtOn l a m) (_ : SrtOn l m b) (_ : OwnSl 56 B M w v l) (_ : l.length < 140737488355328) (_ : Low M w) (_ : B ≤ w.heap.size),
    Calls Try.prog 139 #[v, .int .i64 za, .int .i64 zm, .int .i64 zb, .func (.func 115) #[] #[]] w (Ret fun r w' => r = .tuple #[] ∧ (∃ l', OwnSl 56 B M w' v l' ∧ Rng l l' a b ∧ SrtOn l' a b) ∧ Stp B M M w w' ∧ (∀ x, x < w.heap.size → some x ≠ v.ownBlock → w'.heap[x]? = w.heap[x]?)) := by
  induction d with
  | zero => intro M w B v l za zm zb a m b _ _ _ h1 h2 h3; exfalso; omega
  | succ d ih =>
  intro M w B v l za zm zb a m b ea em eb hda ham hmb hbl hs1 hs2 hd hl hlow hB
  subst ea; subst em; subst eb
  have hT : Stp B M M w w := Stp.refl hlow
  have hF : (∀ x, x < w.heap.size → some x ≠ v.ownBlock → w.heap[x]? = w.heap[x]?) := fun _ _ _ => rfl
  refine c_enter (n := 220) Try.func139 rfl rfl rfl ?_
  refine c_seq (q0 (l_p 2 tbOk rfl ?_))
  refine l_cons (o_ar rfl rfl rfl (IntWalk.i64_in _ (by omega)) rfl rfl ?_)
  refine l_p 1 tbOk rfl (q1 ?_)
  refine c_ifP _ rfl (fun hc28 => ?_) (fun hc28 => ?_)
  · refine q0 (l_p 2 tbOk rfl (q1 (q0 (l_p 2 tbOk rfl (q1 (c_seq (c_blk ?_)))))))
    obtain rfl : m = a + 1 := by omega
    refine c_loop2 (X := Nat) (Y := Nat) (fun i j => [(0, v), (1, .int .i64 (a : Int)), (2, .int .i64 ((a + 1 : Nat) : Int)), (3, .int .i64 (b : Int)), (4, .func (.func 115) #[] #[]), (10, .int .i64 (i : Nat)), (11, .int .i64 (j : Nat))]) (fun i j w' => a + 1 ≤ i ∧ i ≤ j ∧ j ≤ b ∧ FindF l a (a + 1) b i j ∧ OwnSl 56 B M w' v l ∧ Low M w' ∧ B ≤ w'.heap.size ∧ Stp B M M w w' ∧ (∀ x, x < w.heap.size → some x ≠ (v : Value).ownBlock → w'.heap[x]? = w.heap[x]?)) (fun i j => j - i) (a + 1) (b) (s7 rfl rfl rfl rfl rfl rfl rfl) ?_ ?_
    · exact ⟨Nat.le_refl _, by omega, Nat.le_refl _, FindF.start _ _ _ _, hd, hlow, hB, hT, hF⟩
    rintro i j w1 ⟨hi, hij, hj, hfd, hd, hlow, hB, hT, hF⟩
    refine c_seq (q0 (l_p 3 tbOk rfl (q1 ?_)))
    refine c_ifP _ rfl (fun hc33 => ?_) (fun hc33 => ?_)
    · refine c_skip (x_seq (c_blk (q0 (l_p 2 tbOk rfl ?_))))
      refine l_cons (o_ar rfl rfl rfl (IntWalk.i64_in _ (by omega)) rfl rfl ?_)
      refine l_cons (o_conv tbOk rfl rfl rfl rfl rfl (IntWalk.u64_in _ (by omega)) rfl rfl ?_)
      refine l_cons (o_half (y := (((i + j) / 2 : Nat) : Int)) rfl rfl (by omega) (by omega) rfl rfl ?_)
      refine l_cons (o_conv (y := (((i + j) / 2 : Nat) : Int)) tbOk rfl rfl rfl rfl rfl (IntWalk.i64_in _ (by omega)) rfl rfl ?_)
      have hh : (i + j) / 2 < l.length := by omega
      have ha1 : a < l.length := by omega
      refine l_p 1 tbOk rfl (q1 (c_seq ?_))
      refine a_beg (fun _ _ => True) rfl ?_
      intro w2 ew2
      replace hF : ∀ x, x < w.heap.size → some x ≠ (v : Value).ownBlock → w2.heap[x]? = w.heap[x]? := fun x hx hn => (ew2.block x (Nat.lt_of_lt_of_le hx hT.upd.1)).trans (hF x hx hn)
      replace hT := hT.then (Stp.ext ew2 hlow hB)
      replace hd := hd.ext hlow hB ew2
      replace hlow := hlow.ext ew2
      replace hB := Nat.le_trans hB ew2.size
      have hS : True := trivial
      refine a_p 0 tbOk rfl rfl rfl rfl (by kernel_rfl) (fun _ _ _ h => h) hS ?_
      refine a_p 1 tbOk rfl rfl rfl rfl (by kernel_rfl) (fun _ _ _ h => h) hS ?_
      refine a_p 2 tbOk rfl rfl rfl rfl (by kernel_rfl) (fun _ _ _ h => h) hS ?_
      refine a_ixO 3 tbOk hd (List.getElem?_eq_getElem hh) rfl rfl rfl (by omega) rfl rfl rfl rfl rfl rfl (by kernel_rfl) (fun _ _ _ _ h => h) hS ?_
      intro ibq1 iuq1 hobq1 hrq1 hatq1
      obtain ⟨szq1, kvq1, rfl, hyq1⟩ := fld_open hrq1
      replace hatq1 : OAt _ _ _ [.string l[(i + j) / 2].name, .int .u8 l[(i + j) / 2].ty.op, .string l[(i + j) / 2].ty.name, .int .i64 l[(i + j) / 2].ty.n, kvq1] := hatq1
      refine a_p 5 tbOk rfl rfl rfl rfl (by kernel_rfl) (fun _ _ _ h => h) hS ?_
      refine a_p 6 tbOk rfl rfl rfl rfl (by kernel_rfl) (fun _ _ _ h => h) hS ?_
      refine a_ixO 7 tbOk hd (List.getElem?_eq_getElem ha1) rfl rfl rfl (by omega) rfl rfl rfl rfl rfl rfl (by kernel_rfl) (fun _ _ _ _ h => h) hS ?_
      intro ibq2 iuq2 hobq2 hrq2 hatq2
      obtain ⟨szq2, kvq2, rfl, hyq2⟩ := fld_open hrq2
      replace hatq2 : OAt _ _ _ [.string l[a].name, .int .u8 l[a].ty.op, .string l[a].ty.name, .int .i64 l[a].ty.n, kvq2] := hatq2
      refine a_all [4, 8] (by kernel_rfl) rfl (all_cons (i := 4) rfl ?_ (all_cons (i := 8) rfl ?_ all_nil))
      · refine o_lds tbOk (fun j v hv => hatq1.cell j v hv) rfl rfl rfl rfl rfl rfl ?_
        refine ⟨hS, ?_⟩
        refine a_one 8 rfl (by kernel_rfl) (o_lds tbOk (fun j v hv => hatq2.cell j v hv) rfl rfl rfl rfl rfl rfl ?_)
        refine ⟨hS, ?_⟩
        refine a_one 9 rfl (by kernel_rfl) (o_dyn rfl fo115 rfl rfl rfl (byName_spec M _ _ _ _ _ hrq1 hrq2 hlow) ?_)
        rintro _ w3 ⟨rfl, ew3⟩
        replace hF : ∀ x, x < w.heap.size → some x ≠ (v : Value).ownBlock → w3.heap[x]? = w.heap[x]? := fun x hx hn => (ew3.block x (Nat.lt_of_lt_of_le hx hT.upd.1)).trans (hF x hx hn)
        replace hT := hT.then (Stp.ext ew3 hlow hB)
        replace hd := hd.ext hlow hB ew3
        replace hrq1 := Rep.ext hrq1 ew3
        replace hrq2 := Rep.ext hrq2 ew3
        replace hlow := hlow.ext ew3
        replace hB := Nat.le_trans hB ew3.size
        refine ⟨hS, ?_⟩
        refine a_p 10 tbOk rfl rfl rfl rfl (by kernel_rfl) (fun _ _ _ h => h) hS ?_
        refine a_end (by kernel_rfl) ?_
        refine x_seq ?_
        refine c_ifP _ rfl (fun hlt => ?_) (fun hlt => ?_)
        · refine c_reg (l_p 1 tbOk rfl ?_)
          refine l_cons (o_ar rfl rfl rfl (IntWalk.i64_in _ (by omega)) rfl rfl ?_)
          refine l_p 1 tbOk rfl (q2 ?_)
          exact x_round2 ((i + j) / 2 + 1) (j) (s7 rfl rfl rfl rfl rfl (get_num rfl (by omega)) rfl) ⟨by omega, by omega, hj, hfd.up (by omega) hh ha1 hlt, hd, hlow, hB, hT, hF⟩ (by omega)
        refine c_reg (l_p 2 tbOk rfl (q2 ?_))
        exact x_round2 (i) ((i + j) / 2) (s7 rfl rfl rfl rfl rfl rfl rfl) ⟨hi, by omega, by omega, hfd.down (by omega) hh ha1 hlt, hd, hlow, hB, hT, hF⟩ (by omega)
      refine o_lds tbOk (fun j v hv => hatq2.cell j v hv) rfl rfl rfl rfl rfl rfl ?_
      refine ⟨hS, ?_⟩
      refine a_one 4 rfl (by kernel_rfl) (o_lds tbOk (fun j v hv => hatq1.cell j v hv) rfl rfl rfl rfl rfl rfl ?_)
      refine ⟨hS, ?_⟩
      refine a_one 9 rfl (by kernel_rfl) (o_dyn rfl fo115 rfl rfl rfl (byName_spec M _ _ _ _ _ hrq1 hrq2 hlow) ?_)
      rintro _ w4 ⟨rfl, ew4⟩
      replace hF : ∀ x, x < w.heap.size → some x ≠ (v : Value).ownBlock → w4.heap[x]? = w.heap[x]? := fun x hx hn => (ew4.block x (Nat.lt_of_lt_of_le hx hT.upd.1)).trans (hF x hx hn)
      replace hT := hT.then (Stp.ext ew4 hlow hB)
      replace hd := hd.ext hlow hB ew4
      replace hrq1 := Rep.ext hrq1 ew4
      replace hrq2 := Rep.ext hrq2 ew4
      replace hlow := hlow.ext ew4
      replace hB := Nat.le_trans hB ew4.size
      refine ⟨hS, ?_⟩
      refine a_p 10 tbOk rfl rfl rfl rfl (by kernel_rfl) (fun _ _ _ h => h) hS ?_
      refine a_end (by kernel_rfl) ?_
      refine x_seq ?_
      refine c_ifP _ rfl (fun hlt => ?_) (fun hlt => ?_)
      · refine c_reg (l_p 1 tbOk rfl ?_)
        refine l_cons (o_ar rfl rfl rfl (IntWalk.i64_in _ (by omega)) rfl rfl ?_)
        refine l_p 1 tbOk rfl (q2 ?_)
        exact x_round2 ((i + j) / 2 + 1) (j) (s7 rfl rfl rfl rfl rfl (get_num rfl (by omega)) rfl) ⟨by omega, by omega, hj, hfd.up (by omega) hh ha1 hlt, hd, hlow, hB, hT, hF⟩ (by omega)
      refine c_reg (l_p 2 tbOk rfl (q2 ?_))
      exact x_round2 (i) ((i + j) / 2) (s7 rfl rfl rfl rfl rfl rfl rfl) ⟨hi, by omega, by omega, hfd.down (by omega) hh ha1 hlt, hd, hlow, hB, hT, hF⟩ (by omega)
    refine c_exit (x_seqE (x_seqE (x_blkE (x_seq (c_seq (q0 (l_p 2 tbOk rfl (q1 (c_blk ?_)))))))))
    have hrun := hfd.run (by omega) hij hs2 hbl hmb hi hj
    refine c_loop2 (X := Nat) (Y := List Fld) (fun k l' => [(0, v), (1, .int .i64 (a : Int)), (2, .int .i64 ((a + 1 : Nat) : Int)), (3, .int .i64 (b : Int)), (4, .func (.func 115) #[] #[]), (10, .int .i64 (i : Nat)), (13, .int .i64 (k : Nat))]) (fun k l' w' => a ≤ k ∧ k + 1 ≤ i ∧ RunF l' a k i b ∧ Rng l l' a b ∧ OwnSl 56 B M w' v l' ∧ Low M w' ∧ B ≤ w'.heap.size ∧ Stp B M M w w' ∧ (∀ x, x < w.heap.size → some x ≠ (v : Value).ownBlock → w'.heap[x]? = w.heap[x]?)) (fun k l' => b - k) (a) (l) (s7 rfl rfl rfl rfl rfl rfl rfl) ?_ ?_
    · exact ⟨Nat.le_refl _, hi, hrun, Rng.refl _ _ _, hd, hlow, hB, hT, hF⟩
    rintro k l3 w5 ⟨hak, hki, hrn, hrg, hd, hlow, hB, hT, hF⟩
    refine c_seq (q0 (l_p 2 tbOk rfl ?_))
    refine l_cons (o_ar rfl rfl rfl (IntWalk.i64_in _ (by omega)) rfl rfl ?_)
    refine l_p 1 tbOk rfl (q1 ?_)
    refine c_ifP _ rfl (fun hc58 => ?_) (fun hc58 => ?_)
    · have hlen3 := hrg.len
      have hk1 : k + 1 < l3.length := by omega
      have hk0 : k < l3.length := by omega
      have hne : l3[k].name ≠ l3[k + 1].name := fun e => by
        have := hrn.mid (k + 1) l3[k] l3[k + 1] (by omega) (by omega) (List.getElem?_eq_getElem hk0) (List.getElem?_eq_getElem hk1)
        rw [e, show cmpN l3[k + 1].name l3[k + 1].name = 0 from cmpN_eq.2 rfl] at this
        omega
      refine c_skip (x_seq (c_seq (c_blk ?_)))
      refine a_beg (fun _ _ => True) rfl ?_
      intro w6 ew6
      replace hF : ∀ x, x < w.heap.size → some x ≠ (v : Value).ownBlock → w6.heap[x]? = w.heap[x]? := fun x hx hn => (ew6.block x (Nat.lt_of_lt_of_le hx hT.upd.1)).trans (hF x hx hn)
      replace hT := hT.then (Stp.ext ew6 hlow hB)
      replace hd := hd.ext hlow hB ew6
      replace hlow := hlow.ext ew6
      replace hB := Nat.le_trans hB ew6.size
      have hS : True := trivial
      refine a_p 0 tbOk rfl rfl rfl rfl (by kernel_rfl) (fun _ _ _ h => h) hS ?_
      refine a_p 1 tbOk rfl rfl rfl rfl (by kernel_rfl) (fun _ _ _ h => h) hS ?_
      refine a_p 2 tbOk rfl rfl rfl rfl (by kernel_rfl) (fun _ _ _ h => h) hS ?_
      refine a_p 3 tbOk rfl rfl rfl rfl (by kernel_rfl) (fun _ _ _ h => h) hS ?_
      refine a_ar 4 rfl rfl rfl rfl (IntWalk.i64_in _ (by omega)) rfl rfl (by kernel_rfl) (fun _ _ _ h => h) hS ?_
      refine a_p 5 tbOk rfl rfl rfl rfl (by kernel_rfl) (fun _ _ _ h => h) hS ?_
      refine a_p 6 tbOk rfl rfl rfl rfl (by kernel_rfl) (fun _ _ _ h => h) hS ?_
      refine a_ar 7 rfl rfl rfl rfl (IntWalk.i64_in _ (by omega)) rfl rfl (by kernel_rfl) (fun _ _ _ h => h) hS ?_
      refine a_ixO 8 tbOk hd (List.getElem?_eq_getElem hk1) rfl rfl rfl (by omega) rfl rfl rfl rfl rfl rfl (by kernel_rfl) (fun _ _ _ _ h => h) hS ?_
      intro ibq3 iuq3 hobq3 hrq3 hatq3
      obtain ⟨szq3, kvq3, rfl, hyq3⟩ := fld_open hrq3
      replace hatq3 : OAt _ _ _ [.string l3[k + 1].name, .int .u8 l3[k + 1].ty.op, .string l3[k + 1].ty.name, .int .i64 l3[k + 1].ty.n, kvq3] := hatq3
      refine a_p 10 tbOk rfl rfl rfl rfl (by kernel_rfl) (fun _ _ _ h => h) hS ?_
      refine a_p 11 tbOk rfl rfl rfl rfl (by kernel_rfl) (fun _ _ _ h => h) hS ?_
      refine a_ixO 12 tbOk hd (List.getElem?_eq_getElem hk0) rfl rfl rfl (by omega) rfl rfl rfl rfl rfl rfl (by kernel_rfl) (fun _ _ _ _ h => h) hS ?_
      intro ibq4 iuq4 hobq4 hrq4 hatq4
      obtain ⟨szq4, kvq4, rfl, hyq4⟩ := fld_open hrq4
      replace hatq4 : OAt _ _ _ [.string l3[k].name, .int .u8 l3[k].ty.op, .string l3[k].ty.name, .int .i64 l3[k].ty.n, kvq4] := hatq4
      refine a_all [9, 13] (by kernel_rfl) rfl (all_cons (i := 9) rfl ?_ (all_cons (i := 13) rfl ?_ all_nil))
      · refine o_lds tbOk (fun j v hv => hatq3.cell j v hv) rfl rfl rfl rfl rfl rfl ?_
        refine ⟨hS, ?_⟩
        refine a_one 13 rfl (by kernel_rfl) (o_lds tbOk (fun j v hv => hatq4.cell j v hv) rfl rfl rfl rfl rfl rfl ?_)
        refine ⟨hS, ?_⟩
        refine a_ixO 14 tbOk hd (List.getElem?_eq_getElem hk0) rfl rfl rfl (by omega) rfl rfl rfl rfl rfl rfl (by kernel_rfl) (fun _ _ _ _ h => h) hS ?_
        intro ibq5 iuq5 hobq5 hrq5 hatq5
        obtain ⟨szq5, kvq5, rfl, hyq5⟩ := fld_open hrq5
        replace hatq5 : OAt _ _ _ [.string l3[k].name, .int .u8 l3[k].ty.op, .string l3[k].ty.name, .int .i64 l3[k].ty.n, kvq5] := hatq5
        refine a_one 15 rfl (by kernel_rfl) (o_stO tbOk hd hobq5 (by first | omega | (simp; omega)) hrq3 hlow rfl rfl rfl rfl rfl rfl ?_)
        intro w7 hw7 sw7 frw7
        replace hF : ∀ x, x < w.heap.size → some x ≠ (v : Value).ownBlock → w7.heap[x]? = w.heap[x]? := fun x hx hn => (frw7 x (Nat.lt_of_lt_of_le hx hT.upd.1) (fun e => hn (by rw [hobq5, e]))).trans (hF x hx hn)
        replace hT := hT.then sw7
        replace hrq3 := Rep.stp hrq3 sw7
        replace hrq4 := Rep.stp hrq4 sw7
        replace hrq5 := Rep.stp hrq5 sw7
        replace hlow := sw7.low
        replace hB := Nat.le_trans hB sw7.upd.1
        refine ⟨hS, ?_⟩
        replace hd := hw7
        clear hw7
        refine a_ixO 16 tbOk hd (List.getElem?_eq_getElem (by simpa using hk1)) rfl rfl rfl (by omega) rfl rfl rfl rfl rfl rfl (by kernel_rfl) (fun _ _ _ _ h => h) hS ?_
        intro ibq6 iuq6 hobq6 hrq6 hatq6
        refine a_one 17 rfl (by kernel_rfl) (o_stO tbOk hd hobq6 (by first | omega | (simp; omega)) hrq4 hlow rfl rfl rfl rfl rfl rfl ?_)
        intro w8 hw8 sw8 frw8
        replace hF : ∀ x, x < w.heap.size → some x ≠ (v : Value).ownBlock → w8.heap[x]? = w.heap[x]? := fun x hx hn => (frw8 x (Nat.lt_of_lt_of_le hx hT.upd.1) (fun e => hn (by rw [hobq6, e]))).trans (hF x hx hn)
        replace hT := hT.then sw8
        replace hrq3 := Rep.stp hrq3 sw8
        replace hrq4 := Rep.stp hrq4 sw8
        replace hrq5 := Rep.stp hrq5 sw8
        replace hlow := sw8.low
        replace hB := Nat.le_trans hB sw8.upd.1
        refine ⟨hS, ?_⟩
        replace hd := hw8
        clear hw8
        refine a_end (by kernel_rfl) ?_
        refine x_blk (x_seq (c_reg (l_p 1 tbOk rfl ?_)))
        refine l_cons (o_ar rfl rfl rfl (IntWalk.i64_in _ (by omega)) rfl rfl ?_)
        refine l_p 1 tbOk rfl (l_nil ?_)
        exact x_round2 (k + 1) (((l3.set k l3[k + 1]).set (k + 1) l3[k])) (s7 rfl rfl rfl rfl rfl rfl (get_num rfl (by omega))) ⟨by omega, by omega, by rw [List.set_comm _ _ (by omega)]; exact runF_step hrn (by omega) hak (by omega) hk1, hrg.trans (by rw [List.set_comm _ _ (by omega)]; exact swap_rng hk1 hne (by omega) (by omega)), hd, hlow, hB, hT, hF⟩ (by omega)
      refine o_lds tbOk (fun j v hv => hatq4.cell j v hv) rfl rfl rfl rfl rfl rfl ?_
      refine ⟨hS, ?_⟩
      refine a_one 9 rfl (by kernel_rfl) (o_lds tbOk (fun j v hv => hatq3.cell j v hv) rfl rfl rfl rfl rfl rfl ?_)
      refine ⟨hS, ?_⟩
      refine a_ixO 14 tbOk hd (List.getElem?_eq_getElem (by simpa using hk0)) rfl rfl rfl (by omega) rfl rfl rfl rfl rfl rfl (by kernel_rfl) (fun _ _ _ _ h => h) hS ?_
      intro ibq7 iuq7 hobq7 hrq7 hatq7
      refine a_one 15 rfl (by kernel_rfl) (o_stO tbOk hd hobq7 (by first | omega | (simp; omega)) hrq3 hlow rfl rfl rfl rfl rfl rfl ?_)
      intro w9 hw9 sw9 frw9
      replace hF : ∀ x, x < w.heap.size → some x ≠ (v : Value).ownBlock → w9.heap[x]? = w.heap[x]? := fun x hx hn => (frw9 x (Nat.lt_of_lt_of_le hx hT.upd.1) (fun e => hn (by rw [hobq7, e]))).trans (hF x hx hn)
      replace hT := hT.then sw9
      replace hrq3 := Rep.stp hrq3 sw9
      replace hrq4 := Rep.stp hrq4 sw9
      replace hlow := sw9.low
      replace hB := Nat.le_trans hB sw9.upd.1
      refine ⟨hS, ?_⟩
      replace hd := hw9
      clear hw9
      refine a_ixO 16 tbOk hd (List.getElem?_eq_getElem (by simpa using hk1)) rfl rfl rfl (by omega) rfl rfl rfl rfl rfl rfl (by kernel_rfl) (fun _ _ _ _ h => h) hS ?_
      intro ibq8 iuq8 hobq8 hrq8 hatq8
      refine a_one 17 rfl (by kernel_rfl) (o_stO tbOk hd hobq8 (by first | omega | (simp; omega)) hrq4 hlow rfl rfl rfl rfl rfl rfl ?_)
      intro w10 hw10 sw10 frw10
      replace hF : ∀ x, x < w.heap.size → some x ≠ (v : Value).ownBlock → w10.heap[x]? = w.heap[x]? := fun x hx hn => (frw10 x (Nat.lt_of_lt_of_le hx hT.upd.1) (fun e => hn (by rw [hobq8, e]))).trans (hF x hx hn)
      replace hT := hT.then sw10
      replace hrq3 := Rep.stp hrq3 sw10
      replace hrq4 := Rep.stp hrq4 sw10
      replace hlow := sw10.low
      replace hB := Nat.le_trans hB sw10.upd.1
      refine ⟨hS, ?_⟩
      replace hd := hw10
      clear hw10
      refine a_end (by kernel_rfl) ?_
      refine x_blk (x_seq (c_reg (l_p 1 tbOk rfl ?_)))
      refine l_cons (o_ar rfl rfl rfl (IntWalk.i64_in _ (by omega)) rfl rfl ?_)
      refine l_p 1 tbOk rfl (l_nil ?_)
      exact x_round2 (k + 1) (((l3.set k l3[k + 1]).set (k + 1) l3[k])) (s7 rfl rfl rfl rfl rfl rfl (get_num rfl (by omega))) ⟨by omega, by omega, by rw [List.set_comm _ _ (by omega)]; exact runF_step hrn (by omega) hak (by omega) hk1, hrg.trans (by rw [List.set_comm _ _ (by omega)]; exact swap_rng hk1 hne (by omega) (by omega)), hd, hlow, hB, hT, hF⟩ (by omega)
    refine c_exit (x_seqE (x_seqE (x_blkE (x_seq (c_ret (x_seqR ?_))))))
    refine x_ret0 rfl ?_
    exact ⟨rfl, ⟨l3, hd, hrg, runF_end hrn (by omega)⟩, hT, hF⟩
  refine c_skip (x_seq (c_seq (q0 (l_p 2 tbOk rfl ?_))))
  refine l_cons (o_ar rfl rfl rfl (IntWalk.i64_in _ (by omega)) rfl rfl ?_)
  refine l_p 1 tbOk rfl (q1 ?_)
  refine c_ifP _ rfl (fun hc80 => ?_) (fun hc80 => ?_)
  · refine q0 (l_p 2 tbOk rfl (q1 (q0 (l_p 2 tbOk rfl (q1 (c_seq (c_blk ?_)))))))
    obtain rfl : b = m + 1 := by omega
    refine c_loop2 (X := Nat) (Y := Nat) (fun i j => [(0, v), (1, .int .i64 (a : Int)), (2, .int .i64 (m : Int)), (3, .int .i64 ((m + 1 : Nat) : Int)), (4, .func (.func 115) #[] #[]), (14, .int .i64 (i : Nat)), (15, .int .i64 (j : Nat))]) (fun i j w' => a ≤ i ∧ i ≤ j ∧ j ≤ m ∧ FindB l a m i j ∧ OwnSl 56 B M w' v l ∧ Low M w' ∧ B ≤ w'.heap.size ∧ Stp B M M w w' ∧ (∀ x, x < w.heap.size → some x ≠ (v : Value).ownBlock → w'.heap[x]? = w.heap[x]?)) (fun i j => j - i) (a) (m) (s7 rfl rfl rfl rfl rfl rfl rfl) ?_ ?_
    · exact ⟨Nat.le_refl _, by omega, Nat.le_refl _, FindB.start _ _ _, hd, hlow, hB, hT, hF⟩
    rintro i j w11 ⟨hi, hij, hj, hfd, hd, hlow, hB, hT, hF⟩
    refine c_seq (q0 (l_p 3 tbOk rfl (q1 ?_)))
    refine c_ifP _ rfl (fun hc85 => ?_) (fun hc85 => ?_)
    · refine c_skip (x_seq (c_blk (q0 (l_p 2 tbOk rfl ?_))))
      refine l_cons (o_ar rfl rfl rfl (IntWalk.i64_in _ (by omega)) rfl rfl ?_)
      refine l_cons (o_conv tbOk rfl rfl rfl rfl rfl (IntWalk.u64_in _ (by omega)) rfl rfl ?_)
      refine l_cons (o_half (y := (((i + j) / 2 : Nat) : Int)) rfl rfl (by omega) (by omega) rfl rfl ?_)
      refine l_cons (o_conv (y := (((i + j) / 2 : Nat) : Int)) tbOk rfl rfl rfl rfl rfl (IntWalk.i64_in _ (by omega)) rfl rfl ?_)
      have hh : (i + j) / 2 < l.length := by omega
      have hm1 : m < l.length := by omega
      refine l_p 1 tbOk rfl (q1 (c_seq ?_))
      refine a_beg (fun _ _ => True) rfl ?_
      intro w12 ew12
      replace hF : ∀ x, x < w.heap.size → some x ≠ (v : Value).ownBlock → w12.heap[x]? = w.heap[x]? := fun x hx hn => (ew12.block x (Nat.lt_of_lt_of_le hx hT.upd.1)).trans (hF x hx hn)
      replace hT := hT.then (Stp.ext ew12 hlow hB)
      replace hd := hd.ext hlow hB ew12
      replace hlow := hlow.ext ew12
      replace hB := Nat.le_trans hB ew12.size
      have hS : True := trivial
      refine a_p 0 tbOk rfl rfl rfl rfl (by kernel_rfl) (fun _ _ _ h => h) hS ?_
      refine a_p 1 tbOk rfl rfl rfl rfl (by kernel_rfl) (fun _ _ _ h => h) hS ?_
      refine a_p 2 tbOk rfl rfl rfl rfl (by kernel_rfl) (fun _ _ _ h => h) hS ?_
      refine a_ixO 3 tbOk hd (List.getElem?_eq_getElem hm1) rfl rfl rfl (by omega) rfl rfl rfl rfl rfl rfl (by kernel_rfl) (fun _ _ _ _ h => h) hS ?_
      intro ibq9 iuq9 hobq9 hrq9 hatq9
      obtain ⟨szq9, kvq9, rfl, hyq9⟩ := fld_open hrq9
      replace hatq9 : OAt _ _ _ [.string l[m].name, .int .u8 l[m].ty.op, .string l[m].ty.name, .int .i64 l[m].ty.n, kvq9] := hatq9
      refine a_p 5 tbOk rfl rfl rfl rfl (by kernel_rfl) (fun _ _ _ h => h) hS ?_
      refine a_p 6 tbOk rfl rfl rfl rfl (by kernel_rfl) (fun _ _ _ h => h) hS ?_
      refine a_ixO 7 tbOk hd (List.getElem?_eq_getElem hh) rfl rfl rfl (by omega) rfl rfl rfl rfl rfl rfl (by kernel_rfl) (fun _ _ _ _ h => h) hS ?_
      intro ibq10 iuq10 hobq10 hrq10 hatq10
      obtain ⟨szq10, kvq10, rfl, hyq10⟩ := fld_open hrq10
      replace hatq10 : OAt _ _ _ [.string l[(i + j) / 2].name, .int .u8 l[(i + j) / 2].ty.op, .string l[(i + j) / 2].ty.name, .int .i64 l[(i + j) / 2].ty.n, kvq10] := hatq10
      refine a_all [4, 8] (by kernel_rfl) rfl (all_cons (i := 4) rfl ?_ (all_cons (i := 8) rfl ?_ all_nil))
      · refine o_lds tbOk (fun j v hv => hatq9.cell j v hv) rfl rfl rfl rfl rfl rfl ?_
        refine ⟨hS, ?_⟩
        refine a_one 8 rfl (by kernel_rfl) (o_lds tbOk (fun j v hv => hatq10.cell j v hv) rfl rfl rfl rfl rfl rfl ?_)
        refine ⟨hS, ?_⟩
        refine a_one 9 rfl (by kernel_rfl) (o_dyn rfl fo115 rfl rfl rfl (byName_spec M _ _ _ _ _ hrq9 hrq10 hlow) ?_)
        rintro _ w13 ⟨rfl, ew13⟩
        replace hF : ∀ x, x < w.heap.size → some x ≠ (v : Value).ownBlock → w13.heap[x]? = w.heap[x]? := fun x hx hn => (ew13.block x (Nat.lt_of_lt_of_le hx hT.upd.1)).trans (hF x hx hn)
        replace hT := hT.then (Stp.ext ew13 hlow hB)
        replace hd := hd.ext hlow hB ew13
        replace hrq9 := Rep.ext hrq9 ew13
        replace hrq10 := Rep.ext hrq10 ew13
        replace hlow := hlow.ext ew13
        replace hB := Nat.le_trans hB ew13.size
        refine ⟨hS, ?_⟩
        refine a_p 10 tbOk rfl rfl rfl rfl (by kernel_rfl) (fun _ _ _ h => h) hS ?_
        refine a_p 11 tbOk rfl rfl rfl rfl (by kernel_rfl) (fun _ _ _ h => h) hS ?_
        refine a_end (by kernel_rfl) ?_
        refine x_seq ?_
        refine c_ifN _ rfl (fun hlt => ?_) (fun hlt => ?_)
        · refine c_reg (l_p 1 tbOk rfl ?_)
          refine l_cons (o_ar rfl rfl rfl (IntWalk.i64_in _ (by omega)) rfl rfl ?_)
          refine l_p 1 tbOk rfl (q2 ?_)
          exact x_round2 ((i + j) / 2 + 1) (j) (s7 rfl rfl rfl rfl rfl (get_num rfl (by omega)) rfl) ⟨by omega, by omega, hj, hfd.up (by omega) hh hm1 hlt, hd, hlow, hB, hT, hF⟩ (by omega)
        refine c_reg (l_p 2 tbOk rfl (q2 ?_))
        exact x_round2 (i) ((i + j) / 2) (s7 rfl rfl rfl rfl rfl rfl rfl) ⟨hi, by omega, by omega, hfd.down (by omega) hh hm1 hlt, hd, hlow, hB, hT, hF⟩ (by omega)
      refine o_lds tbOk (fun j v hv => hatq10.cell j v hv) rfl rfl rfl rfl rfl rfl ?_
      refine ⟨hS, ?_⟩
      refine a_one 4 rfl (by kernel_rfl) (o_lds tbOk (fun j v hv => hatq9.cell j v hv) rfl rfl rfl rfl rfl rfl ?_)
      refine ⟨hS, ?_⟩
      refine a_one 9 rfl (by kernel_rfl) (o_dyn rfl fo115 rfl rfl rfl (byName_spec M _ _ _ _ _ hrq9 hrq10 hlow) ?_)
      rintro _ w14 ⟨rfl, ew14⟩
      replace hF : ∀ x, x < w.heap.size → some x ≠ (v : Value).ownBlock → w14.heap[x]? = w.heap[x]? := fun x hx hn => (ew14.block x (Nat.lt_of_lt_of_le hx hT.upd.1)).trans (hF x hx hn)
      replace hT := hT.then (Stp.ext ew14 hlow hB)
      replace hd := hd.ext hlow hB ew14
      replace hrq9 := Rep.ext hrq9 ew14
      replace hrq10 := Rep.ext hrq10 ew14
      replace hlow := hlow.ext ew14
      replace hB := Nat.le_trans hB ew14.size
      refine ⟨hS, ?_⟩
      refine a_p 10 tbOk rfl rfl rfl rfl (by kernel_rfl) (fun _ _ _ h => h) hS ?_
      refine a_p 11 tbOk rfl rfl rfl rfl (by kernel_rfl) (fun _ _ _ h => h) hS ?_
      refine a_end (by kernel_rfl) ?_
      refine x_seq ?_
      refine c_ifN _ rfl (fun hlt => ?_) (fun hlt => ?_)
      · refine c_reg (l_p 1 tbOk rfl ?_)
        refine l_cons (o_ar rfl rfl rfl (IntWalk.i64_in _ (by omega)) rfl rfl ?_)
        refine l_p 1 tbOk rfl (q2 ?_)
        exact x_round2 ((i + j) / 2 + 1) (j) (s7 rfl rfl rfl rfl rfl (get_num rfl (by omega)) rfl) ⟨by omega, by omega, hj, hfd.up (by omega) hh hm1 hlt, hd, hlow, hB, hT, hF⟩ (by omega)
      refine c_reg (l_p 2 tbOk rfl (q2 ?_))
      exact x_round2 (i) ((i + j) / 2) (s7 rfl rfl rfl rfl rfl rfl rfl) ⟨hi, by omega, by omega, hfd.down (by omega) hh hm1 hlt, hd, hlow, hB, hT, hF⟩ (by omega)
    refine c_exit (x_seqE (x_seqE (x_blkE (x_seq (c_seq (q0 (l_p 2 tbOk rfl (q1 (c_blk ?_)))))))))
    have hrun := hfd.run (by omega) hij hs1 (by omega) hi hj
    refine c_loop2 (X := Nat) (Y := List Fld) (fun k l' => [(0, v), (1, .int .i64 (a : Int)), (2, .int .i64 (m : Int)), (3, .int .i64 ((m + 1 : Nat) : Int)), (4, .func (.func 115) #[] #[]), (14, .int .i64 (i : Nat)), (17, .int .i64 (k : Nat))]) (fun k l' w' => i ≤ k ∧ k ≤ m ∧ RunB l' a k i (m + 1) ∧ Rng l l' a (m + 1) ∧ OwnSl 56 B M w' v l' ∧ Low M w' ∧ B ≤ w'.heap.size ∧ Stp B M M w w' ∧ (∀ x, x < w.heap.size → some x ≠ (v : Value).ownBlock → w'.heap[x]? = w.heap[x]?)) (fun k l' => k) (m) (l) (s7 rfl rfl rfl rfl rfl rfl rfl) ?_ ?_
    · exact ⟨by omega, Nat.le_refl _, hrun, Rng.refl _ _ _, hd, hlow, hB, hT, hF⟩
    rintro k l3 w15 ⟨hik, hkm, hrn, hrg, hd, hlow, hB, hT, hF⟩
    refine c_seq (q0 (l_p 3 tbOk rfl (q1 ?_)))
    refine c_ifP _ rfl (fun hc110 => ?_) (fun hc110 => ?_)
    · obtain ⟨k0, rfl⟩ : ∃ k0, k = k0 + 1 := ⟨k - 1, by omega⟩
      have hlen3 := hrg.len
      have hk1 : k0 + 1 < l3.length := by omega
      have hk0 : k0 < l3.length := by omega
      have hne : l3[k0].name ≠ l3[k0 + 1].name := fun e => by
        have := hrn.mid k0 l3[k0] l3[k0 + 1] (by omega) (by omega) (List.getElem?_eq_getElem hk0) (List.getElem?_eq_getElem hk1)
        rw [e, show cmpN l3[k0 + 1].name l3[k0 + 1].name = 0 from cmpN_eq.2 rfl] at this
        omega
      refine c_skip (x_seq (c_seq (c_blk ?_)))
      refine a_beg (fun _ _ => True) rfl ?_
      intro w16 ew16
      replace hF : ∀ x, x < w.heap.size → some x ≠ (v : Value).ownBlock → w16.heap[x]? = w.heap[x]? := fun x hx hn => (ew16.block x (Nat.lt_of_lt_of_le hx hT.upd.1)).trans (hF x hx hn)
      replace hT := hT.then (Stp.ext ew16 hlow hB)
      replace hd := hd.ext hlow hB ew16
      replace hlow := hlow.ext ew16
      replace hB := Nat.le_trans hB ew16.size
      have hS : True := trivial
      refine a_p 0 tbOk rfl rfl rfl rfl (by kernel_rfl) (fun _ _ _ h => h) hS ?_
      refine a_p 1 tbOk rfl rfl rfl rfl (by kernel_rfl) (fun _ _ _ h => h) hS ?_
      refine a_p 2 tbOk rfl rfl rfl rfl (by kernel_rfl) (fun _ _ _ h => h) hS ?_
      refine a_p 3 tbOk rfl rfl rfl rfl (by kernel_rfl) (fun _ _ _ h => h) hS ?_
      refine a_ar 4 rfl rfl rfl rfl (IntWalk.i64_in _ (by omega)) rfl rfl (by kernel_rfl) (fun _ _ _ h => h) hS ?_
      refine a_p 5 tbOk rfl rfl rfl rfl (by kernel_rfl) (fun _ _ _ h => h) hS ?_
      refine a_p 6 tbOk rfl rfl rfl rfl (by kernel_rfl) (fun _ _ _ h => h) hS ?_
      refine a_ar 7 rfl rfl rfl rfl (IntWalk.i64_in _ (by omega)) rfl rfl (by kernel_rfl) (fun _ _ _ h => h) hS ?_
      refine a_ixO 8 tbOk hd (List.getElem?_eq_getElem hk0) rfl rfl rfl (by omega) rfl rfl rfl rfl rfl rfl (by kernel_rfl) (fun _ _ _ _ h => h) hS ?_
      intro ibq11 iuq11 hobq11 hrq11 hatq11
      obtain ⟨szq11, kvq11, rfl, hyq11⟩ := fld_open hrq11
      replace hatq11 : OAt _ _ _ [.string l3[k0].name, .int .u8 l3[k0].ty.op, .string l3[k0].ty.name, .int .i64 l3[k0].ty.n, kvq11] := hatq11
      refine a_p 10 tbOk rfl rfl rfl rfl (by kernel_rfl) (fun _ _ _ h => h) hS ?_
      refine a_p 11 tbOk rfl rfl rfl rfl (by kernel_rfl) (fun _ _ _ h => h) hS ?_
      refine a_ixO 12 tbOk hd (List.getElem?_eq_getElem hk1) rfl rfl rfl (by omega) rfl rfl rfl rfl rfl rfl (by kernel_rfl) (fun _ _ _ _ h => h) hS ?_
      intro ibq12 iuq12 hobq12 hrq12 hatq12
      obtain ⟨szq12, kvq12, rfl, hyq12⟩ := fld_open hrq12
      replace hatq12 : OAt _ _ _ [.string l3[k0 + 1].name, .int .u8 l3[k0 + 1].ty.op, .string l3[k0 + 1].ty.name, .int .i64 l3[k0 + 1].ty.n, kvq12] := hatq12
      refine a_all [9, 13] (by kernel_rfl) rfl (all_cons (i := 9) rfl ?_ (all_cons (i := 13) rfl ?_ all_nil))
      · refine o_lds tbOk (fun j v hv => hatq11.cell j v hv) rfl rfl rfl rfl rfl rfl ?_
        refine ⟨hS, ?_⟩
        refine a_one 13 rfl (by kernel_rfl) (o_lds tbOk (fun j v hv => hatq12.cell j v hv) rfl rfl rfl rfl rfl rfl ?_)
        refine ⟨hS, ?_⟩
        refine a_ixO 14 tbOk hd (List.getElem?_eq_getElem hk1) rfl rfl rfl (by omega) rfl rfl rfl rfl rfl rfl (by kernel_rfl) (fun _ _ _ _ h => h) hS ?_
        intro ibq13 iuq13 hobq13 hrq13 hatq13
        obtain ⟨szq13, kvq13, rfl, hyq13⟩ := fld_open hrq13
        replace hatq13 : OAt _ _ _ [.string l3[k0 + 1].name, .int .u8 l3[k0 + 1].ty.op, .string l3[k0 + 1].ty.name, .int .i64 l3[k0 + 1].ty.n, kvq13] := hatq13
        refine a_one 15 rfl (by kernel_rfl) (o_stO tbOk hd hobq13 (by first | omega | (simp; omega)) hrq11 hlow rfl rfl rfl rfl rfl rfl ?_)
        intro w17 hw17 sw17 frw17
        replace hF : ∀ x, x < w.heap.size → some x ≠ (v : Value).ownBlock → w17.heap[x]? = w.heap[x]? := fun x hx hn => (frw17 x (Nat.lt_of_lt_of_le hx hT.upd.1) (fun e => hn (by rw [hobq13, e]))).trans (hF x hx hn)
        replace hT := hT.then sw17
        replace hrq11 := Rep.stp hrq11 sw17
        replace hrq12 := Rep.stp hrq12 sw17
        replace hrq13 := Rep.stp hrq13 sw17
        replace hlow := sw17.low
        replace hB := Nat.le_trans hB sw17.upd.1
        refine ⟨hS, ?_⟩
        replace hd := hw17
        clear hw17
        refine a_ixO 16 tbOk hd (List.getElem?_eq_getElem (by simpa using hk0)) rfl rfl rfl (by omega) rfl rfl rfl rfl rfl rfl (by kernel_rfl) (fun _ _ _ _ h => h) hS ?_
        intro ibq14 iuq14 hobq14 hrq14 hatq14
        refine a_one 17 rfl (by kernel_rfl) (o_stO tbOk hd hobq14 (by first | omega | (simp; omega)) hrq12 hlow rfl rfl rfl rfl rfl rfl ?_)
        intro w18 hw18 sw18 frw18
        replace hF : ∀ x, x < w.heap.size → some x ≠ (v : Value).ownBlock → w18.heap[x]? = w.heap[x]? := fun x hx hn => (frw18 x (Nat.lt_of_lt_of_le hx hT.upd.1) (fun e => hn (by rw [hobq14, e]))).trans (hF x hx hn)
        replace hT := hT.then sw18
        replace hrq11 := Rep.stp hrq11 sw18
        replace hrq12 := Rep.stp hrq12 sw18
        replace hrq13 := Rep.stp hrq13 sw18
        replace hlow := sw18.low
        replace hB := Nat.le_trans hB sw18.upd.1
        refine ⟨hS, ?_⟩
        replace hd := hw18
        clear hw18
        refine a_end (by kernel_rfl) ?_
        refine x_blk (x_seq (c_reg (l_p 1 tbOk rfl ?_)))
        refine l_cons (o_ar rfl rfl rfl (IntWalk.i64_in _ (by omega)) rfl rfl ?_)
        refine l_p 1 tbOk rfl (l_nil ?_)
        exact x_round2 (k0) (((l3.set (k0 + 1) l3[k0]).set k0 l3[k0 + 1])) (s7 rfl rfl rfl rfl rfl rfl (get_num rfl (by omega))) ⟨by omega, by omega, runB_step hrn (by omega) hi (by omega) hk1, hrg.trans (swap_rng hk1 hne (by omega) (by omega)), hd, hlow, hB, hT, hF⟩ (by omega)
      refine o_lds tbOk (fun j v hv => hatq12.cell j v hv) rfl rfl rfl rfl rfl rfl ?_
      refine ⟨hS, ?_⟩
      refine a_one 9 rfl (by kernel_rfl) (o_lds tbOk (fun j v hv => hatq11.cell j v hv) rfl rfl rfl rfl rfl rfl ?_)
      refine ⟨hS, ?_⟩
      refine a_ixO 14 tbOk hd (List.getElem?_eq_getElem (by simpa using hk1)) rfl rfl rfl (by omega) rfl rfl rfl rfl rfl rfl (by kernel_rfl) (fun _ _ _ _ h => h) hS ?_
      intro ibq15 iuq15 hobq15 hrq15 hatq15
      refine a_one 15 rfl (by kernel_rfl) (o_stO tbOk hd hobq15 (by first | omega | (simp; omega)) hrq11 hlow rfl rfl rfl rfl rfl rfl ?_)
      intro w19 hw19 sw19 frw19
      replace hF : ∀ x, x < w.heap.size → some x ≠ (v : Value).ownBlock → w19.heap[x]? = w.heap[x]? := fun x hx hn => (frw19 x (Nat.lt_of_lt_of_le hx hT.upd.1) (fun e => hn (by rw [hobq15, e]))).trans (hF x hx hn)
      replace hT := hT.then sw19
      replace hrq11 := Rep.stp hrq11 sw19
      replace hrq12 := Rep.stp hrq12 sw19
      replace hlow := sw19.low
      replace hB := Nat.le_trans hB sw19.upd.1
      refine ⟨hS, ?_⟩
      replace hd := hw19
      clear hw19
      refine a_ixO 16 tbOk hd (List.getElem?_eq_getElem (by simpa using hk0)) rfl rfl rfl (by omega) rfl rfl rfl rfl rfl rfl (by kernel_rfl) (fun _ _ _ _ h => h) hS ?_
      intro ibq16 iuq16 hobq16 hrq16 hatq16
      refine a_one 17 rfl (by kernel_rfl) (o_stO tbOk hd hobq16 (by first | omega | (simp; omega)) hrq12 hlow rfl rfl rfl rfl rfl rfl ?_)
      intro w20 hw20 sw20 frw20
      replace hF : ∀ x, x < w.heap.size → some x ≠ (v : Value).ownBlock → w20.heap[x]? = w.heap[x]? := fun x hx hn => (frw20 x (Nat.lt_of_lt_of_le hx hT.upd.1) (fun e => hn (by rw [hobq16, e]))).trans (hF x hx hn)
      replace hT := hT.then sw20
      replace hrq11 := Rep.stp hrq11 sw20
      replace hrq12 := Rep.stp hrq12 sw20
      replace hlow := sw20.low
      replace hB := Nat.le_trans hB sw20.upd.1
      refine ⟨hS, ?_⟩
      replace hd := hw20
      clear hw20
      refine a_end (by kernel_rfl) ?_
      refine x_blk (x_seq (c_reg (l_p 1 tbOk rfl ?_)))
      refine l_cons (o_ar rfl rfl rfl (IntWalk.i64_in _ (by omega)) rfl rfl ?_)
      refine l_p 1 tbOk rfl (l_nil ?_)
      exact x_round2 (k0) (((l3.set (k0 + 1) l3[k0]).set k0 l3[k0 + 1])) (s7 rfl rfl rfl rfl rfl rfl (get_num rfl (by omega))) ⟨by omega, by omega, runB_step hrn (by omega) hi (by omega) hk1, hrg.trans (swap_rng hk1 hne (by omega) (by omega)), hd, hlow, hB, hT, hF⟩ (by omega)
    refine c_exit (x_seqE (x_seqE (x_blkE (x_seq (c_ret (x_seqR ?_))))))
    refine x_ret0 rfl ?_
    exact ⟨rfl, ⟨l3, hd, hrg, runB_end hrn (by omega)⟩, hT, hF⟩
  refine c_skip (x_seq (q0 (l_p 2 tbOk rfl ?_)))
  refine l_cons (o_ar rfl rfl rfl (IntWalk.i64_in _ (by omega)) rfl rfl ?_)
  refine l_cons (o_conv tbOk rfl rfl rfl rfl rfl (IntWalk.u64_in _ (by omega)) rfl rfl ?_)
  refine l_cons (o_half (y := (((a + b) / 2 : Nat) : Int)) rfl rfl (by omega) (by omega) rfl rfl ?_)
  refine l_cons (o_conv (y := (((a + b) / 2 : Nat) : Int)) tbOk rfl rfl rfl rfl rfl (IntWalk.i64_in _ (by omega)) rfl rfl ?_)
  refine l_p 1 tbOk rfl (q1 (q0 (l_p 2 tbOk rfl ?_)))
  refine l_cons (o_ar rfl rfl rfl (IntWalk.i64_in _ (by omega)) rfl rfl ?_)
  refine l_p 1 tbOk rfl (q1 (q0 (l_p 2 tbOk rfl (q1 ?_))))
  refine c_cut2 (X := Nat) (Y := Nat) (fun lo0 hi0 => [(0, v), (1, .int .i64 (a : Int)), (2, .int .i64 (m : Int)), (3, .int .i64 (b : Int)), (4, .func (.func 115) #[] #[]), (18, .int .i64 (((a + b) / 2 : Nat) : Int)), (19, .int .i64 (((a + b) / 2 + m : Nat) : Int)), (20, .int .i64 (lo0 : Nat)), (21, .int .i64 (hi0 : Nat))]) (fun lo0 hi0 w' => w = w' ∧ (((a + b) / 2 < m ∧ lo0 = (a + b) / 2 + m - b ∧ hi0 = (a + b) / 2) ∨ (m ≤ (a + b) / 2 ∧ lo0 = a ∧ hi0 = m))) ?_ ?_
  · refine q0 (l_p 3 tbOk rfl (q1 ?_))
    refine c_ifP _ rfl (fun hc140 => ?_) (fun hc140 => ?_)
    · refine q0 (l_p 2 tbOk rfl ?_)
      refine l_cons (o_ar rfl rfl rfl (IntWalk.i64_in _ (by omega)) rfl rfl ?_)
      refine l_p 1 tbOk rfl (q1 (c_reg (l_p 2 tbOk rfl (l_nil ?_))))
      exact x_cut2 ((a + b) / 2 + m - b) ((a + b) / 2) (s9 rfl rfl rfl rfl rfl (get_num rfl (by omega)) (get_num rfl (by omega)) (get_num rfl (by omega)) (get_num rfl (by omega))) ⟨rfl, by omega⟩
    refine q0 (l_p 2 tbOk rfl (q1 (c_reg (l_p 2 tbOk rfl (l_nil ?_)))))
    exact x_cut2 (a) (m) (s9 rfl rfl rfl rfl rfl (get_num rfl (by omega)) (get_num rfl (by omega)) (get_num rfl (by omega)) (get_num rfl (by omega))) ⟨rfl, by omega⟩
  rintro lo0 hi0 _ ⟨rfl, hlh⟩
  refine q0 (l_p 1 tbOk rfl ?_)
  refine l_cons (o_ar rfl rfl rfl (IntWalk.i64_in _ (by omega)) rfl rfl ?_)
  refine l_p 1 tbOk rfl (q1 (c_seq (c_blk ?_)))
  refine c_loop2 (X := Nat) (Y := Nat) (fun lo hi => [(0, v), (1, .int .i64 (a : Int)), (2, .int .i64 (m : Int)), (3, .int .i64 (b : Int)), (4, .func (.func 115) #[] #[]), (18, .int .i64 (((a + b) / 2 : Nat) : Int)), (19, .int .i64 (((a + b) / 2 + m : Nat) : Int)), (20, .int .i64 (lo : Nat)), (21, .int .i64 (hi : Nat)), (22, .int .i64 (((a + b) / 2 + m - 1 : Nat) : Int))]) (fun lo hi w' => lo0 ≤ lo ∧ lo ≤ hi ∧ hi ≤ hi0 ∧ Cut l ((a + b) / 2 + m) lo0 hi0 lo hi ∧ OwnSl 56 B M w' v l ∧ Low M w' ∧ B ≤ w'.heap.size ∧ Stp B M M w w' ∧ (∀ x, x < w.heap.size → some x ≠ (v : Value).ownBlock → w'.heap[x]? = w.heap[x]?)) (fun lo hi => hi - lo) (lo0) (hi0) (s10 rfl rfl rfl rfl rfl rfl rfl rfl rfl (get_num rfl (by omega))) ?_ ?_
  · exact ⟨Nat.le_refl _, by omega, Nat.le_refl _, Cut.start _ _ _ _, hd, hlow, hB, hT, hF⟩
  rintro lo hi w21 ⟨hlo, hle, hhi, hcut, hd, hlow, hB, hT, hF⟩
  refine c_seq (q0 (l_p 3 tbOk rfl (q1 ?_)))
  refine c_ifP _ rfl (fun hc151 => ?_) (fun hc151 => ?_)
  · refine c_skip (x_seq (c_blk (q0 (l_p 2 tbOk rfl ?_))))
    refine l_cons (o_ar rfl rfl rfl (IntWalk.i64_in _ (by omega)) rfl rfl ?_)
    refine l_cons (o_conv tbOk rfl rfl rfl rfl rfl (IntWalk.u64_in _ (by omega)) rfl rfl ?_)
    refine l_cons (o_half (y := (((lo + hi) / 2 : Nat) : Int)) rfl rfl (by omega) (by omega) rfl rfl ?_)
    refine l_cons (o_conv (y := (((lo + hi) / 2 : Nat) : Int)) tbOk rfl rfl rfl rfl rfl (IntWalk.i64_in _ (by omega)) rfl rfl ?_)
    have hh : (lo + hi) / 2 < l.length := by omega
    have hp : (a + b) / 2 + m - 1 - (lo + hi) / 2 < l.length := by omega
    refine l_p 1 tbOk rfl (q1 (c_seq ?_))
    refine a_beg (fun _ _ => True) rfl ?_
    intro w22 ew22
    replace hF : ∀ x, x < w.heap.size → some x ≠ (v : Value).ownBlock → w22.heap[x]? = w.heap[x]? := fun x hx hn => (ew22.block x (Nat.lt_of_lt_of_le hx hT.upd.1)).trans (hF x hx hn)
    replace hT := hT.then (Stp.ext ew22 hlow hB)
    replace hd := hd.ext hlow hB ew22
    replace hlow := hlow.ext ew22
    replace hB := Nat.le_trans hB ew22.size
    have hS : True := trivial
    refine a_p 0 tbOk rfl rfl rfl rfl (by kernel_rfl) (fun _ _ _ h => h) hS ?_
    refine a_p 1 tbOk rfl rfl rfl rfl (by kernel_rfl) (fun _ _ _ h => h) hS ?_
    refine a_p 2 tbOk rfl rfl rfl rfl (by kernel_rfl) (fun _ _ _ h => h) hS ?_
    refine a_p 3 tbOk rfl rfl rfl rfl (by kernel_rfl) (fun _ _ _ h => h) hS ?_
    refine a_ar 4 rfl rfl rfl rfl (IntWalk.i64_in _ (by omega)) rfl rfl (by kernel_rfl) (fun _ _ _ h => h) hS ?_
    refine a_ixO 5 tbOk hd (List.getElem?_eq_getElem hp) rfl rfl rfl (by omega) rfl rfl rfl rfl rfl rfl (by kernel_rfl) (fun _ _ _ _ h => h) hS ?_
    intro ibq17 iuq17 hobq17 hrq17 hatq17
    obtain ⟨szq17, kvq17, rfl, hyq17⟩ := fld_open hrq17
    replace hatq17 : OAt _ _ _ [.string l[(a + b) / 2 + m - 1 - (lo + hi) / 2].name, .int .u8 l[(a + b) / 2 + m - 1 - (lo + hi) / 2].ty.op, .string l[(a + b) / 2 + m - 1 - (lo + hi) / 2].ty.name, .int .i64 l[(a + b) / 2 + m - 1 - (lo + hi) / 2].ty.n, kvq17] := hatq17
    refine a_p 7 tbOk rfl rfl rfl rfl (by kernel_rfl) (fun _ _ _ h => h) hS ?_
    refine a_p 8 tbOk rfl rfl rfl rfl (by kernel_rfl) (fun _ _ _ h => h) hS ?_
    refine a_ixO 9 tbOk hd (List.getElem?_eq_getElem hh) rfl rfl rfl (by omega) rfl rfl rfl rfl rfl rfl (by kernel_rfl) (fun _ _ _ _ h => h) hS ?_
    intro ibq18 iuq18 hobq18 hrq18 hatq18
    obtain ⟨szq18, kvq18, rfl, hyq18⟩ := fld_open hrq18
    replace hatq18 : OAt _ _ _ [.string l[(lo + hi) / 2].name, .int .u8 l[(lo + hi) / 2].ty.op, .string l[(lo + hi) / 2].ty.name, .int .i64 l[(lo + hi) / 2].ty.n, kvq18] := hatq18
    refine a_all [6, 10] (by kernel_rfl) rfl (all_cons (i := 6) rfl ?_ (all_cons (i := 10) rfl ?_ all_nil))
    · refine o_lds tbOk (fun j v hv => hatq17.cell j v hv) rfl rfl rfl rfl rfl rfl ?_
      refine ⟨hS, ?_⟩
      refine a_one 10 rfl (by kernel_rfl) (o_lds tbOk (fun j v hv => hatq18.cell j v hv) rfl rfl rfl rfl rfl rfl ?_)
      refine ⟨hS, ?_⟩
      refine a_one 11 rfl (by kernel_rfl) (o_dyn rfl fo115 rfl rfl rfl (byName_spec M _ _ _ _ _ hrq17 hrq18 hlow) ?_)
      rintro _ w23 ⟨rfl, ew23⟩
      replace hF : ∀ x, x < w.heap.size → some x ≠ (v : Value).ownBlock → w23.heap[x]? = w.heap[x]? := fun x hx hn => (ew23.block x (Nat.lt_of_lt_of_le hx hT.upd.1)).trans (hF x hx hn)
      replace hT := hT.then (Stp.ext ew23 hlow hB)
      replace hd := hd.ext hlow hB ew23
      replace hrq17 := Rep.ext hrq17 ew23
      replace hrq18 := Rep.ext hrq18 ew23
      replace hlow := hlow.ext ew23
      replace hB := Nat.le_trans hB ew23.size
      refine ⟨hS, ?_⟩
      refine a_p 12 tbOk rfl rfl rfl rfl (by kernel_rfl) (fun _ _ _ h => h) hS ?_
      refine a_p 13 tbOk rfl rfl rfl rfl (by kernel_rfl) (fun _ _ _ h => h) hS ?_
      refine a_end (by kernel_rfl) ?_
      refine x_seq ?_
      refine c_ifN _ rfl (fun hlt => ?_) (fun hlt => ?_)
      · refine c_reg (l_p 1 tbOk rfl ?_)
        refine l_cons (o_ar rfl rfl rfl (IntWalk.i64_in _ (by omega)) rfl rfl ?_)
        refine l_p 1 tbOk rfl (q2 ?_)
        exact x_round2 ((lo + hi) / 2 + 1) (hi) (s10 rfl rfl rfl rfl rfl rfl rfl (get_num rfl (by omega)) rfl rfl) ⟨by omega, by omega, hhi, hcut.up (by omega) hh hp hlt, hd, hlow, hB, hT, hF⟩ (by omega)
      refine c_reg (l_p 2 tbOk rfl (q2 ?_))
      exact x_round2 (lo) ((lo + hi) / 2) (s10 rfl rfl rfl rfl rfl rfl rfl rfl rfl rfl) ⟨hlo, by omega, by omega, hcut.down (by omega) hh hp hlt, hd, hlow, hB, hT, hF⟩ (by omega)
    refine o_lds tbOk (fun j v hv => hatq18.cell j v hv) rfl rfl rfl rfl rfl rfl ?_
    refine ⟨hS, ?_⟩
    refine a_one 6 rfl (by kernel_rfl) (o_lds tbOk (fun j v hv => hatq17.cell j v hv) rfl rfl rfl rfl rfl rfl ?_)
    refine ⟨hS, ?_⟩
    refine a_one 11 rfl (by kernel_rfl) (o_dyn rfl fo115 rfl rfl rfl (byName_spec M _ _ _ _ _ hrq17 hrq18 hlow) ?_)
    rintro _ w24 ⟨rfl, ew24⟩
    replace hF : ∀ x, x < w.heap.size → some x ≠ (v : Value).ownBlock → w24.heap[x]? = w.heap[x]? := fun x hx hn => (ew24.block x (Nat.lt_of_lt_of_le hx hT.upd.1)).trans (hF x hx hn)
    replace hT := hT.then (Stp.ext ew24 hlow hB)
    replace hd := hd.ext hlow hB ew24
    replace hrq17 := Rep.ext hrq17 ew24
    replace hrq18 := Rep.ext hrq18 ew24
    replace hlow := hlow.ext ew24
    replace hB := Nat.le_trans hB ew24.size
    refine ⟨hS, ?_⟩
    refine a_p 12 tbOk rfl rfl rfl rfl (by kernel_rfl) (fun _ _ _ h => h) hS ?_
    refine a_p 13 tbOk rfl rfl rfl rfl (by kernel_rfl) (fun _ _ _ h => h) hS ?_
    refine a_end (by kernel_rfl) ?_
    refine x_seq ?_
    refine c_ifN _ rfl (fun hlt => ?_) (fun hlt => ?_)
    · refine c_reg (l_p 1 tbOk rfl ?_)
      refine l_cons (o_ar rfl rfl rfl (IntWalk.i64_in _ (by omega)) rfl rfl ?_)
      refine l_p 1 tbOk rfl (q2 ?_)
      exact x_round2 ((lo + hi) / 2 + 1) (hi) (s10 rfl rfl rfl rfl rfl rfl rfl (get_num rfl (by omega)) rfl rfl) ⟨by omega, by omega, hhi, hcut.up (by omega) hh hp hlt, hd, hlow, hB, hT, hF⟩ (by omega)
    refine c_reg (l_p 2 tbOk rfl (q2 ?_))
    exact x_round2 (lo) ((lo + hi) / 2) (s10 rfl rfl rfl rfl rfl rfl rfl rfl rfl rfl) ⟨hlo, by omega, by omega, hcut.down (by omega) hh hp hlt, hd, hlow, hB, hT, hF⟩ (by omega)
  obtain rfl : lo = hi := by omega
  have hmr := mrg_of ham hmb hbl hs1 hs2 hlh hlo hhi hcut
  have z1 := hmr.sm
  have z2 := hmr.e1
  have z3 := hmr.e2
  have z4 := hmr.as
  have z5 := hmr.smid
  refine c_exit (x_seqE (x_seqE (x_blkE (x_seq (q0 (l_p 2 tbOk rfl ?_))))))
  refine l_cons (o_ar rfl rfl rfl (IntWalk.i64_in _ (by omega)) rfl rfl ?_)
  refine l_p 1 tbOk rfl (q1 ?_)
  refine c_cut (X := List Fld) (fun l' => [(0, v), (1, .int .i64 (a : Int)), (2, .int .i64 (m : Int)), (3, .int .i64 (b : Int)), (4, .func (.func 115) #[] #[]), (18, .int .i64 (((a + b) / 2 : Nat) : Int)), (20, .int .i64 (lo : Nat)), (24, .int .i64 (((a + b) / 2 + m - lo : Nat) : Int))]) (fun l' w' => Rng l l' a b ∧ Four l' a lo ((a + b) / 2) ((a + b) / 2 + m - lo) b ∧ OwnSl 56 B M w' v l' ∧ Low M w' ∧ B ≤ w'.heap.size ∧ Stp B M M w w' ∧ (∀ x, x < w.heap.size → some x ≠ (v : Value).ownBlock → w'.heap[x]? = w.heap[x]?)) ?_ ?_
  · refine q0 (l_p 4 tbOk rfl ?_)
    refine l_splitP 181 _ rfl (fun c1 => ?_) (fun c1 => ?_)
    · refine l_p 4 tbOk rfl (q1 ?_)
      refine c_ifP _ rfl (fun c2 => ?_) (fun c2 => ?_)
      · refine c_reg (l_p 5 tbOk rfl ?_)
        refine l_cons (o_call fo154 rfl rfl rfl (rotate_spec M _ B v l _ _ _ lo m ((a + b) / 2 + m - lo) (by omega) (by omega) (by omega) (by omega) (by omega) (by omega) hd hl hlow hB) ?_)
        rintro _ w26 ⟨rfl, ⟨l1, hdw26, hrot⟩, sw26, frw26⟩
        replace hF : ∀ x, x < w.heap.size → some x ≠ (v : Value).ownBlock → w26.heap[x]? = w.heap[x]? := fun x hx hn => (frw26 x (Nat.lt_of_lt_of_le hx hT.upd.1) hn).trans (hF x hx hn)
        replace hT := hT.then sw26
        replace hlow := sw26.low
        replace hB := Nat.le_trans hB sw26.upd.1
        replace hd := hdw26
        refine l_nil ?_
        exact x_cut (l1) (s8 rfl rfl rfl rfl rfl rfl rfl (get_num rfl (by omega))) ⟨(hmr.four hrot).1, (hmr.four hrot).2, hd, hlow, hB, hT, hF⟩
      refine c_skip ?_
      exact x_cut (l) (s8 rfl rfl rfl rfl rfl rfl rfl (get_num rfl (by omega))) ⟨(hmr.four (rot_none (by omega) (by omega) (by omega))).1, (hmr.four (rot_none (by omega) (by omega) (by omega))).2, hd, hlow, hB, hT, hF⟩
    refine l_p 4 tbOk rfl (q1 (c_ifF rfl (c_skip ?_)))
    exact x_cut (l) (s8 rfl rfl rfl rfl rfl rfl rfl (get_num rfl (by omega))) ⟨(hmr.four (rot_none (by omega) (by omega) (by omega))).1, (hmr.four (rot_none (by omega) (by omega) (by omega))).2, hd, hlow, hB, hT, hF⟩
  rintro l1 w25 ⟨hrg, hfour, hd, hlow, hB, hT, hF⟩
  have hlen1 := hrg.len
  refine c_cut (X := List Fld) (fun l' => [(0, v), (1, .int .i64 (a : Int)), (2, .int .i64 (m : Int)), (3, .int .i64 (b : Int)), (4, .func (.func 115) #[] #[]), (18, .int .i64 (((a + b) / 2 : Nat) : Int)), (24, .int .i64 (((a + b) / 2 + m - lo : Nat) : Int))]) (fun l' w' => Rng l l' a b ∧ Four l' a ((a + b) / 2) ((a + b) / 2) ((a + b) / 2 + m - lo) b ∧ OwnSl 56 B M w' v l' ∧ Low M w' ∧ B ≤ w'.heap.size ∧ Stp B M M w w' ∧ (∀ x, x < w.heap.size → some x ≠ (v : Value).ownBlock → w'.heap[x]? = w.heap[x]?)) ?_ ?_
  · refine q0 (l_p 4 tbOk rfl ?_)
    refine l_splitP 195 _ rfl (fun c3 => ?_) (fun c3 => ?_)
    · refine l_p 4 tbOk rfl (q1 ?_)
      refine c_ifP _ rfl (fun c4 => ?_) (fun c4 => ?_)
      · refine c_reg (l_p 5 tbOk rfl ?_)
        refine l_cons (o_call fo139 rfl rfl rfl (ih M _ B v l1 _ _ _ a lo ((a + b) / 2) (by omega) (by omega) (by omega) (by omega) (by omega) (by omega) (by omega) hfour.s1 hfour.s2 hd (by omega) hlow hB) ?_)
        rintro _ w28 ⟨rfl, ⟨l2, hdw28, hr2, ho2⟩, sw28, frw28⟩
        replace hF : ∀ x, x < w.heap.size → some x ≠ (v : Value).ownBlock → w28.heap[x]? = w.heap[x]? := fun x hx hn => (frw28 x (Nat.lt_of_lt_of_le hx hT.upd.1) hn).trans (hF x hx hn)
        replace hT := hT.then sw28
        replace hlow := sw28.low
        replace hB := Nat.le_trans hB sw28.upd.1
        replace hd := hdw28
        refine l_nil ?_
        exact x_cut (l2) (s7 rfl rfl rfl rfl rfl rfl rfl) ⟨hrg.trans (hr2.wider (Nat.le_refl _) (by omega)), hfour.left (by omega) (by omega) (by omega) (by omega) hr2 ho2, hd, hlow, hB, hT, hF⟩
      refine c_skip ?_
      exact x_cut (l1) (s7 rfl rfl rfl rfl rfl rfl rfl) ⟨hrg, hfour.leftN (by omega), hd, hlow, hB, hT, hF⟩
    refine l_p 4 tbOk rfl (q1 (c_ifF rfl (c_skip ?_)))
    exact x_cut (l1) (s7 rfl rfl rfl rfl rfl rfl rfl) ⟨hrg, hfour.leftN (by omega), hd, hlow, hB, hT, hF⟩
  clear hrg hfour hlen1
  rintro l2 w27 ⟨hrg, hfour, hd, hlow, hB, hT, hF⟩
  have hlen2 := hrg.len
  refine q0 (l_p 4 tbOk rfl ?_)
  refine l_splitP 209 _ rfl (fun c5 => ?_) (fun c5 => ?_)
  · refine l_p 4 tbOk rfl (q1 ?_)
    refine c_ifP _ rfl (fun c6 => ?_) (fun c6 => ?_)
    · refine c_reg (l_p 5 tbOk rfl ?_)
      refine l_cons (o_call fo139 rfl rfl rfl (ih M _ B v l2 _ _ _ ((a + b) / 2) ((a + b) / 2 + m - lo) b (by omega) (by omega) (by omega) (by omega) (by omega) (by omega) (by omega) hfour.s3 hfour.s4 hd (by omega) hlow hB) ?_)
      rintro _ w29 ⟨rfl, ⟨l3, hdw29, hr3, ho3⟩, sw29, frw29⟩
      replace hF : ∀ x, x < w.heap.size → some x ≠ (v : Value).ownBlock → w29.heap[x]? = w.heap[x]? := fun x hx hn => (frw29 x (Nat.lt_of_lt_of_le hx hT.upd.1) hn).trans (hF x hx hn)
      replace hT := hT.then sw29
      replace hlow := sw29.low
      replace hB := Nat.le_trans hB sw29.upd.1
      replace hd := hdw29
      refine l_nil ?_
      refine x_ret0n rfl ?_
      exact ⟨rfl, ⟨l3, hd, hrg.trans (hr3.wider (by omega) (Nat.le_refl _)), hfour.right (by omega) (by omega) (by omega) hr3 ho3⟩, hT, hF⟩
    refine c_skip ?_
    refine x_ret0n rfl ?_
    exact ⟨rfl, ⟨l2, hd, hrg, hfour.rightN (by omega)⟩, hT, hF⟩
  refine l_p 4 tbOk rfl (q1 (c_ifF rfl (c_skip ?_)))
  refine x_ret0n rfl ?_
  exact ⟨rfl, ⟨l2, hd, hrg, hfour.rightN (by omega)⟩, hT, hF⟩

/-- stable: put in order. -/
theorem stable_spec (M : Nat → Prop) (w : World) (B : Nat) (v : Value) (l : List Fld) (hd : OwnSl 56 B M w v l) (hl : l.length < 140737488355328) (hlow : Low M w) (hB : B ≤ w.heap.size) :
    Calls Try.prog 130 #[v, .int .i64 (l.length : Int), .func (.func 115) #[] #[]] w (Ret fun r w' => r = .tuple #[] ∧ (∃ l', OwnSl 56 B M w' v l' ∧ Rng l l' 0 l.length ∧ SrtOn l' 0 l.length) ∧ Stp B M M w w' ∧ (∀ x, x < w.heap.size → some x ≠ v.ownBlock → w'.heap[x]? = w.heap[x]?)) := by
  have hT : Stp B M M w w := Stp.refl hlow
  have hF : (∀ x, x < w.heap.size → some x ≠ v.ownBlock → w.heap[x]? = w.heap[x]?) := fun _ _ _ => rfl
  refine c_enter (n := 63) Try.func130 rfl rfl rfl ?_
  refine q0 (l_p 1 tbOk rfl (q1 (q0 (l_p 3 tbOk rfl (q1 (c_seq (c_blk ?_)))))))
  refine c_loop2 (X := Nat) (Y := List Fld) (fun a l' => [(0, v), (1, .int .i64 (l.length : Int)), (2, .func (.func 115) #[] #[]), (6, .int .i64 20), (7, .int .i64 (a : Nat)), (8, .int .i64 ((a + 20 : Nat) : Int))]) (fun a l' w' => 20 ∣ a ∧ a ≤ l.length ∧ Blk1 l' 20 a ∧ Rng l l' 0 l.length ∧ OwnSl 56 B M w' v l' ∧ Low M w' ∧ B ≤ w'.heap.size ∧ Stp B M M w w' ∧ (∀ x, x < w.heap.size → some x ≠ (v : Value).ownBlock → w'.heap[x]? = w.heap[x]?)) (fun a l' => l.length - a) (0) (l) (s6 rfl rfl rfl rfl (get_num rfl rfl) (get_num rfl (by omega))) ?_ ?_
  · exact ⟨Nat.dvd_zero _, Nat.zero_le _, Blk1.zero, Rng.refl _ _ _, hd, hlow, hB, hT, hF⟩
  rintro a l2 w1 ⟨hdv, hal, hbk, hrg, hd, hlow, hB, hT, hF⟩
  have hlen := hrg.len
  refine c_seq (q0 (l_p 3 tbOk rfl (q1 ?_)))
  refine c_ifP _ rfl (fun hc => ?_) (fun hc => ?_)
  · refine c_skip (x_seq (c_blk (q0 (l_p 4 tbOk rfl ?_))))
    refine l_cons (o_call fo138 rfl rfl rfl (insertion_spec M _ B v l2 a (a + 20) hd (by omega) (by omega) (by omega) hlow hB) ?_)
    rintro _ w2 ⟨rfl, ⟨l3, hdw2, hr3, ho3⟩, sw2, frw2⟩
    replace hF : ∀ x, x < w.heap.size → some x ≠ (v : Value).ownBlock → w2.heap[x]? = w.heap[x]? := fun x hx hn => (frw2 x (Nat.lt_of_lt_of_le hx hT.upd.1) hn).trans (hF x hx hn)
    replace hT := hT.then sw2
    replace hlow := sw2.low
    replace hB := Nat.le_trans hB sw2.upd.1
    replace hd := hdw2
    refine q1 (q0 (l_p 2 tbOk rfl (q1 (c_reg (l_p 2 tbOk rfl ?_)))))
    refine l_cons (o_ar rfl rfl rfl (IntWalk.i64_in _ (by omega)) rfl rfl ?_)
    refine l_p 1 tbOk rfl (q2 ?_)
    exact x_round2 (a + 20) (l3) (s6 rfl rfl rfl rfl rfl (get_num rfl (by omega))) ⟨(Nat.dvd_add_right hdv).2 (Nat.dvd_refl _), by omega, hbk.step hdv hr3 ho3, hrg.trans (hr3.wider (Nat.zero_le _) (by omega)), hd, hlow, hB, hT, hF⟩ (by omega)
  refine c_exit (x_seqE (x_seqE (x_blkE (x_seq (q0 (l_p 4 tbOk rfl ?_))))))
  refine l_cons (o_call fo138 rfl rfl rfl (insertion_spec M _ B v l2 a l.length hd (by omega) (by omega) (by omega) hlow hB) ?_)
  rintro _ w3 ⟨rfl, ⟨l3, hdw3, hr3, ho3⟩, sw3, frw3⟩
  replace hF : ∀ x, x < w.heap.size → some x ≠ (v : Value).ownBlock → w3.heap[x]? = w.heap[x]? := fun x hx hn => (frw3 x (Nat.lt_of_lt_of_le hx hT.upd.1) hn).trans (hF x hx hn)
  replace hT := hT.then sw3
  replace hlow := sw3.low
  replace hB := Nat.le_trans hB sw3.upd.1
  replace hd := hdw3
  have hblk := hbk.fin hdv (by omega) hr3 ho3
  replace hrg := hrg.trans (hr3.wider (Nat.zero_le _) (Nat.le_refl _))
  replace hlen := hrg.len
  refine q1 (c_blk ?_)
  refine c_loop2 (X := Nat) (Y := List Fld) (fun bs l' => [(0, v), (1, .int .i64 (l.length : Int)), (2, .func (.func 115) #[] #[]), (6, .int .i64 (bs : Nat))]) (fun bs l' w' => 0 < bs ∧ bs < 281474976710657 ∧ Blk l' bs l.length ∧ Rng l l' 0 l.length ∧ OwnSl 56 B M w' v l' ∧ Low M w' ∧ B ≤ w'.heap.size ∧ Stp B M M w w' ∧ (∀ x, x < w.heap.size → some x ≠ (v : Value).ownBlock → w'.heap[x]? = w.heap[x]?)) (fun bs l' => l.length - bs) (20) (l3) (s4 rfl rfl rfl rfl) ?_ ?_
  · exact ⟨by omega, by omega, hblk, hrg, hd, hlow, hB, hT, hF⟩
  clear hrg hlen
  rintro bs l4 w4 ⟨hb0, hb1, hblk, hrg, hd, hlow, hB, hT, hF⟩
  have hlen := hrg.len
  refine c_seq (q0 (l_p 3 tbOk rfl (q1 ?_)))
  refine c_ifP _ rfl (fun hc => ?_) (fun hc => ?_)
  · refine c_skip (x_seq (c_blk (q0 (l_p 1 tbOk rfl ?_))))
    refine l_cons (o_ar rfl rfl rfl (IntWalk.i64_in _ (by omega)) rfl rfl ?_)
    refine l_p 2 tbOk rfl (q1 (c_seq (c_blk ?_)))
    refine c_loop2 (X := Nat) (Y := List Fld) (fun a l' => [(0, v), (1, .int .i64 (l.length : Int)), (2, .func (.func 115) #[] #[]), (6, .int .i64 (bs : Nat)), (7, .int .i64 (a : Nat)), (8, .int .i64 ((a + 2 * bs : Nat) : Int))]) (fun a l' w' => a ≤ l.length ∧ B2 l' bs a l.length ∧ Rng l l' 0 l.length ∧ OwnSl 56 B M w' v l' ∧ Low M w' ∧ B ≤ w'.heap.size ∧ Stp B M M w w' ∧ (∀ x, x < w.heap.size → some x ≠ (v : Value).ownBlock → w'.heap[x]? = w.heap[x]?)) (fun a l' => l.length - a) (0) (l4) (s6 rfl rfl rfl rfl (get_num rfl rfl) (get_num rfl (by omega))) ?_ ?_
    · exact ⟨Nat.zero_le _, B2.start hblk, hrg, hd, hlow, hB, hT, hF⟩
    clear hrg hlen
    rintro a l5 w5 ⟨hal, hb2, hrg, hd, hlow, hB, hT, hF⟩
    have hlen := hrg.len
    refine c_seq (q0 (l_p 3 tbOk rfl (q1 ?_)))
    refine c_ifP _ rfl (fun hc => ?_) (fun hc => ?_)
    · refine c_skip (x_seq (c_blk (q0 (l_p 4 tbOk rfl ?_))))
      refine l_cons (o_ar rfl rfl rfl (IntWalk.i64_in _ (by omega)) rfl rfl ?_)
      refine l_p 2 tbOk rfl ?_
      have hR := hb2.right
      rw [Nat.min_eq_left (by omega)] at hR
      refine l_cons (o_call fo139 rfl rfl rfl (symMerge_all _ M _ B v l5 _ _ _ a (a + bs) (a + 2 * bs) (by omega) (by omega) (by omega) (Nat.le_refl _) (by omega) (by omega) (by omega) (hb2.left (by omega)) hR hd (by omega) hlow hB) ?_)
      rintro _ w6 ⟨rfl, ⟨l6, hdw6, hr6, ho6⟩, sw6, frw6⟩
      replace hF : ∀ x, x < w.heap.size → some x ≠ (v : Value).ownBlock → w6.heap[x]? = w.heap[x]? := fun x hx hn => (frw6 x (Nat.lt_of_lt_of_le hx hT.upd.1) hn).trans (hF x hx hn)
      replace hT := hT.then sw6
      replace hlow := sw6.low
      replace hB := Nat.le_trans hB sw6.upd.1
      replace hd := hdw6
      refine q1 (q0 (l_p 2 tbOk rfl (q1 (c_reg (l_p 2 tbOk rfl ?_)))))
      refine l_cons (o_ar rfl rfl rfl (IntWalk.i64_in _ (by omega)) rfl rfl ?_)
      refine l_cons (o_ar rfl rfl rfl (IntWalk.i64_in _ (by omega)) rfl rfl ?_)
      refine l_p 1 tbOk rfl (q2 ?_)
      exact x_round2 (a + 2 * bs) (l6) (s6 rfl rfl rfl rfl rfl (get_num rfl (by omega))) ⟨by omega, hb2.step hr6 ho6, hrg.trans (hr6.wider (Nat.zero_le _) (by omega)), hd, hlow, hB, hT, hF⟩ (by omega)
    refine c_exit (x_seqE (x_seqE (x_blkE (x_seq (c_seq (q0 (l_p 2 tbOk rfl ?_)))))))
    refine l_cons (o_ar rfl rfl rfl (IntWalk.i64_in _ (by omega)) rfl rfl ?_)
    refine l_p 1 tbOk rfl (q1 (q0 (l_p 3 tbOk rfl (q1 ?_))))
    refine c_ifP _ rfl (fun hc => ?_) (fun hc => ?_)
    · refine c_reg (l_p 5 tbOk rfl ?_)
      have hR := hb2.right
      rw [Nat.min_eq_right (by omega)] at hR
      refine l_cons (o_call fo139 rfl rfl rfl (symMerge_all _ M _ B v l5 _ _ _ a (a + bs) l.length (by omega) (by omega) (by omega) (Nat.le_refl _) (by omega) (by omega) (by omega) (hb2.left (by omega)) hR hd (by omega) hlow hB) ?_)
      rintro _ w7 ⟨rfl, ⟨l6, hdw7, hr6, ho6⟩, sw7, frw7⟩
      replace hF : ∀ x, x < w.heap.size → some x ≠ (v : Value).ownBlock → w7.heap[x]? = w.heap[x]? := fun x hx hn => (frw7 x (Nat.lt_of_lt_of_le hx hT.upd.1) hn).trans (hF x hx hn)
      replace hT := hT.then sw7
      replace hlow := sw7.low
      replace hB := Nat.le_trans hB sw7.upd.1
      replace hd := hdw7
      refine q1 (c_reg (l_p 1 tbOk rfl ?_))
      refine l_cons (o_ar rfl rfl rfl (IntWalk.i64_in _ (by omega)) rfl rfl ?_)
      refine l_p 1 tbOk rfl (q2 ?_)
      exact x_round2 (2 * bs) (l6) (s4 rfl rfl rfl (get_num rfl (by omega))) ⟨by omega, by omega, hb2.fin (by omega) hr6 ho6, hrg.trans (hr6.wider (Nat.zero_le _) (Nat.le_refl _)), hd, hlow, hB, hT, hF⟩ (by omega)
    refine c_skip (x_seq (c_reg (l_p 1 tbOk rfl ?_)))
    refine l_cons (o_ar rfl rfl rfl (IntWalk.i64_in _ (by omega)) rfl rfl ?_)
    refine l_p 1 tbOk rfl (q2 ?_)
    exact x_round2 (2 * bs) (l5) (s4 rfl rfl rfl (get_num rfl (by omega))) ⟨by omega, by omega, hb2.finN (by omega) (by omega), hrg, hd, hlow, hB, hT, hF⟩ (by omega)
  refine c_exit (x_seqE (x_seqE (x_blkE ?_)))
  refine x_ret0n rfl ?_
  exact ⟨rfl, ⟨l4, hd, hrg, hblk.all (by omega)⟩, hT, hF⟩

/-- SortStableFunc: put in order. -/
theorem sortStable_spec (M : Nat → Prop) (w : World) (B : Nat) (v : Value) (l : List Fld) (hd : OwnSl 56 B M w v l) (hl : l.length < 140737488355328) (hlow : Low M w) (hB : B ≤ w.heap.size) :
    Calls Try.prog 114 #[v, .func (.func 115) #[] #[]] w (Ret fun r w' => r = .tuple #[] ∧ (∃ l', OwnSl 56 B M w' v l' ∧ l'.length = l.length ∧ StP l l' ∧ Srt l') ∧ Stp B M M w w' ∧ (∀ x, x < w.heap.size → some x ≠ v.ownBlock → w'.heap[x]? = w.heap[x]?)) := by
  have hT : Stp B M M w w := Stp.refl hlow
  have hF : (∀ x, x < w.heap.size → some x ≠ v.ownBlock → w.heap[x]? = w.heap[x]?) := fun _ _ _ => rfl
  refine c_enter (n := 9) Try.func114 rfl rfl rfl ?_
  refine c_reg (l_p 2 tbOk rfl ?_)
  refine l_cons (o_lenO tbOk hd rfl rfl rfl rfl rfl ?_)
  refine l_p 1 tbOk rfl ?_
  refine l_cons (o_call fo130 rfl rfl rfl (stable_spec M _ B v l hd hl hlow hB) ?_)
  rintro _ w1 ⟨rfl, ⟨l2, hdw1, hrg, hso⟩, sw1, frw1⟩
  replace hF : ∀ x, x < w.heap.size → some x ≠ (v : Value).ownBlock → w1.heap[x]? = w.heap[x]? := fun x hx hn => (frw1 x (Nat.lt_of_lt_of_le hx hT.upd.1) hn).trans (hF x hx hn)
  replace hT := hT.then sw1
  replace hlow := sw1.low
  replace hB := Nat.le_trans hB sw1.upd.1
  replace hd := hdw1
  refine l_nil ?_
  refine x_ret0n rfl ?_
  exact ⟨rfl, ⟨l2, hd, hrg.len, hrg.st, srt_of (by rw [hrg.len]; exact hso)⟩, hT, hF⟩

end Go.Proofs.Ytohfnpmehgpphaa
