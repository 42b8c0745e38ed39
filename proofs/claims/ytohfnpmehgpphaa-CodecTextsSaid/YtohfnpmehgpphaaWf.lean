/- Walks: strings compared, fields sorted. Printed by wip/walks/kinds6.py. -/
import Derived.Test.YtohfnpmehgpphaaWe
import Derived.Test.YtohfnpmehgpphaaExt
import Derived.Lib.Walk
import Derived.Test.YtohfnpmehgpphaaDrawO
import Derived.Test.YtohfnpmehgpphaaPlainZ
namespace Go.Proofs.Ytohfnpmehgpphaa
open Go Rw Go.RowKit
set_option maxRecDepth 100000

/-- The runtime's comparison of strings. -/
theorem cmpstring_run (a b : ByteArray) (w : World) : (callFunc 140 ([.string a, .string b] : List Value).toArray).run Try.prog w = .ok (.value (.int .i64 (Lib.compareBytes a.data.toList b.data.toList))) w := by
  rw [run_callFunc_extern Try.func140 (by kernel_rfl) (by kernel_rfl) (by kernel_rfl) (e := Extern.BytealgCompare.compare) (by kernel_rfl), Lib.run_compareString]
  rfl

/-- CompareString. -/
theorem compareString_spec (w : World) (a b : ByteArray) :
    Calls Try.prog 131 #[.string a, .string b] w (Ret fun r w' => r = .int .i64 (Lib.compareBytes a.data.toList b.data.toList) ∧ w = w') := by
  refine c_enter (n := 8) Try.func131 rfl rfl rfl ?_
  refine q0 (l_p 1 tbOk rfl (q1 (q0 (l_p 2 tbOk rfl ?_))))
  refine l_cons (o_ext rfl (cmpstring_run a b _) rfl rfl ?_)
  refine l_p 1 tbOk rfl (q1 (c_ret (x_ret1 rfl rfl ?_)))
  exact ⟨rfl, rfl⟩

/-- strings.Compare. -/
theorem compare_spec (w : World) (a b : ByteArray) :
    Calls Try.prog 116 #[.string a, .string b] w (Ret fun r w' => r = .int .i64 (Lib.compareBytes a.data.toList b.data.toList) ∧ w = w') := by
  refine c_enter (n := 8) Try.func116 rfl rfl rfl ?_
  refine q0 (l_p 1 tbOk rfl (q1 (q0 (l_p 2 tbOk rfl ?_))))
  refine l_cons (o_call fo131 rfl rfl rfl (compareString_spec _ a b) ?_)
  rintro _ _ ⟨rfl, rfl⟩
  refine l_p 1 tbOk rfl (q1 (c_ret (x_ret1 rfl rfl ?_)))
  exact ⟨rfl, rfl⟩

/-- Fields by their names. -/
theorem byName_spec (M : Nat → Prop) (w : World) (x y : Value) (a b : Fld) (ha : Rep.R M w x a) (hb : Rep.R M w y b) (hlow : Low M w) :
    Calls Try.prog 115 #[x, y] w (Ret fun r w' => r = .int .i64 (Lib.compareBytes a.name.data.toList b.name.data.toList) ∧ Ext w w') := by
  have hE : Below w.heap.size w w := Below.refl _ _
  have hB : w.heap.size ≤ w.heap.size := Nat.le_refl _
  obtain ⟨sza, kva, rfl, hya⟩ := fld_open ha
  obtain ⟨szb, kvb, rfl, hyb⟩ := fld_open hb
  refine c_enter (n := 10) Try.func115 rfl rfl rfl ?_
  refine q0 ?_
  refine l_cons (o_box rfl rfl rfl ?_)
  intro b1 w1 hb_b1 ew1 h1
  replace h1 : Box _ b1 56 [.string a.name, .int .u8 a.ty.op, .string a.ty.name, .int .i64 a.ty.n, kva] := h1
  replace h1 := h1.at (nM_of hlow hb_b1)
  replace hE := hE.trans (Below.mono ew1 hB)
  replace hlow := hlow.ext ew1
  replace hB := Nat.le_trans hB ew1.size
  refine l_cons (o_box rfl rfl rfl ?_)
  intro b2 w2 hb_b2 ew2 h2
  replace h2 : Box _ b2 56 [.string b.name, .int .u8 b.ty.op, .string b.ty.name, .int .i64 b.ty.n, kvb] := h2
  replace h2 := h2.at (nM_of hlow hb_b2)
  replace hE := hE.trans (Below.mono ew2 hB)
  replace h1 := h1.ext ew2
  replace hlow := hlow.ext ew2
  replace hB := Nat.le_trans hB ew2.size
  refine l_p 1 tbOk rfl (q1 (q0 (l_p 1 tbOk rfl ?_)))
  refine l_cons (o_ld tbOk (h1.cell 0 _ rfl) rfl rfl rfl rfl rfl ?_)
  refine l_p 1 tbOk rfl ?_
  refine l_cons (o_ld tbOk (h2.cell 0 _ rfl) rfl rfl rfl rfl rfl ?_)
  refine l_cons (o_call fo116 rfl rfl rfl (compare_spec _ a.name b.name) ?_)
  rintro _ _ ⟨rfl, rfl⟩
  refine l_p 1 tbOk rfl (q1 (c_ret (x_ret1 rfl rfl ?_)))
  exact ⟨rfl, hE⟩

/-- insertionSort, fields by their names. -/
theorem insertion_spec (M : Nat → Prop) (w : World) (B : Nat) (v : Value) (l : List Fld) (a b : Nat) (hd : OwnSl 56 B M w v l) (hab : a ≤ b) (hb : b ≤ l.length) (hl : l.length < 140737488355328) (hlow : Low M w) (hB : B ≤ w.heap.size) :
    Calls Try.prog 138 #[v, .int .i64 (a : Int), .int .i64 (b : Int), .func (.func 115) #[] #[]] w (Ret fun r w' => r = .tuple #[] ∧ (∃ l', OwnSl 56 B M w' v l' ∧ Rng l l' a b ∧ SrtOn l' a b) ∧ Stp B M M w w' ∧ (∀ x, x < w.heap.size → some x ≠ v.ownBlock → w'.heap[x]? = w.heap[x]?)) := by
  have hT : Stp B M M w w := Stp.refl hlow
  have hF : (∀ x, x < w.heap.size → some x ≠ v.ownBlock → w.heap[x]? = w.heap[x]?) := fun _ _ _ => rfl
  refine c_enter (n := 53) Try.func138 rfl rfl rfl ?_
  refine q0 (l_p 1 tbOk rfl ?_)
  refine l_cons (o_ar rfl rfl rfl (IntWalk.i64_in _ (by omega)) rfl rfl ?_)
  refine l_p 1 tbOk rfl (q1 (c_blk ?_))
  refine c_loop2 (X := Nat) (Y := List Fld) (fun i l' => [(0, v), (1, .int .i64 (a : Int)), (2, .int .i64 (b : Int)), (3, .func (.func 115) #[] #[]), (8, .int .i64 (i : Nat))]) (fun i l' w' => a + 1 ≤ i ∧ (i ≤ b ∨ i = a + 1) ∧ SrtOn l' a i ∧ OwnSl 56 B M w' v l' ∧ Rng l l' a b ∧ Low M w' ∧ B ≤ w'.heap.size ∧ Stp B M M w w' ∧ (∀ x, x < w.heap.size → some x ≠ (v : Value).ownBlock → w'.heap[x]? = w.heap[x]?)) (fun i l' => b + 1 - i) (a + 1) (l) (s5 rfl rfl rfl rfl (get_num rfl (by omega))) ?_ ?_
  · exact ⟨Nat.le_refl _, .inr rfl, fun p q x y hp hpq hq => by omega, hd, Rng.refl _ _ _, hlow, hB, hT, hF⟩
  rintro i l2 w1 ⟨hi, hib, hso, hd, hrg, hlow, hB, hT, hF⟩
  refine c_seq (q0 (l_p 3 tbOk rfl (q1 ?_)))
  refine c_ifP _ rfl (fun c1 => ?_) (fun c1 => ?_)
  · refine c_skip (x_seq (c_seq (c_blk (q0 (l_p 2 tbOk rfl (q1 (c_blk ?_)))))))
    have hin : i < b := by omega
    have hlen := hrg.len
    refine c_loop2 (X := Nat) (Y := List Fld) (fun j l' => [(0, v), (1, .int .i64 (a : Int)), (2, .int .i64 (b : Int)), (3, .func (.func 115) #[] #[]), (8, .int .i64 (i : Nat)), (9, .int .i64 (j : Nat))]) (fun j l' w' => a ≤ j ∧ j ≤ i ∧ InsI l' a i j ∧ OwnSl 56 B M w' v l' ∧ Rng l l' a b ∧ Low M w' ∧ B ≤ w'.heap.size ∧ Stp B M M w w' ∧ (∀ x, x < w.heap.size → some x ≠ (v : Value).ownBlock → w'.heap[x]? = w.heap[x]?)) (fun j l' => j) (i) (l2) (s6 rfl rfl rfl rfl rfl rfl) ?_ ?_
    · exact ⟨by omega, Nat.le_refl _, ins_start hso, hd, hrg, hlow, hB, hT, hF⟩
    rintro j l3 w2 ⟨haj, hji, hins, hd, hrg, hlow, hB, hT, hF⟩
    refine c_seq (c_seq ?_)
    refine a_beg (fun _ _ => True) rfl ?_
    intro w3 ew3
    replace hF : ∀ x, x < w.heap.size → some x ≠ (v : Value).ownBlock → w3.heap[x]? = w.heap[x]? := fun x hx hn => (ew3.block x (Nat.lt_of_lt_of_le hx hT.upd.1)).trans (hF x hx hn)
    replace hT := hT.then (Stp.ext ew3 hlow hB)
    replace hd := hd.ext hlow hB ew3
    replace hlow := hlow.ext ew3
    replace hB := Nat.le_trans hB ew3.size
    have hS : True := trivial
    refine a_p 0 tbOk rfl rfl rfl rfl (by kernel_rfl) (fun _ _ _ h => h) hS ?_
    refine a_p 1 tbOk rfl rfl rfl rfl (by kernel_rfl) (fun _ _ _ h => h) hS ?_
    refine a_p 2 tbOk rfl rfl rfl rfl (by kernel_rfl) (fun _ _ _ h => h) hS ?_
    refine a_p 3 tbOk rfl rfl rfl rfl (by kernel_rfl) (fun _ _ _ h => h) hS ?_
    refine a_splitP 21 _ rfl (fun cj => ?_) (fun cj => ?_)
    · obtain ⟨j0, rfl⟩ : ∃ j0, j = j0 + 1 := ⟨j - 1, by omega⟩
      have hlen3 := hrg.len
      have hj1 : j0 + 1 < l3.length := by omega
      have hj0 : j0 < l3.length := by omega
      refine a_p 4 tbOk rfl rfl rfl rfl (by kernel_rfl) (fun _ _ _ h => h) hS ?_
      refine a_p 5 tbOk rfl rfl rfl rfl (by kernel_rfl) (fun _ _ _ h => h) hS ?_
      refine a_p 6 tbOk rfl rfl rfl rfl (by kernel_rfl) (fun _ _ _ h => h) hS ?_
      refine a_ixO 7 tbOk hd (List.getElem?_eq_getElem hj1) rfl rfl rfl (by omega) rfl rfl rfl rfl rfl rfl (by kernel_rfl) (fun _ _ _ _ h => h) hS ?_
      intro ibq1 iuq1 hobq1 hrq1 hatq1
      obtain ⟨szq1, kvq1, rfl, hyq1⟩ := fld_open hrq1
      replace hatq1 : OAt _ _ _ [.string l3[j0 + 1].name, .int .u8 l3[j0 + 1].ty.op, .string l3[j0 + 1].ty.name, .int .i64 l3[j0 + 1].ty.n, kvq1] := hatq1
      refine a_p 9 tbOk rfl rfl rfl rfl (by kernel_rfl) (fun _ _ _ h => h) hS ?_
      refine a_p 10 tbOk rfl rfl rfl rfl (by kernel_rfl) (fun _ _ _ h => h) hS ?_
      refine a_ar 11 rfl rfl rfl rfl (IntWalk.i64_in _ (by omega)) rfl rfl (by kernel_rfl) (fun _ _ _ h => h) hS ?_
      refine a_ixO 12 tbOk hd (List.getElem?_eq_getElem hj0) rfl rfl rfl (by omega) rfl rfl rfl rfl rfl rfl (by kernel_rfl) (fun _ _ _ _ h => h) hS ?_
      intro ibq2 iuq2 hobq2 hrq2 hatq2
      obtain ⟨szq2, kvq2, rfl, hyq2⟩ := fld_open hrq2
      replace hatq2 : OAt _ _ _ [.string l3[j0].name, .int .u8 l3[j0].ty.op, .string l3[j0].ty.name, .int .i64 l3[j0].ty.n, kvq2] := hatq2
      refine a_all [8, 13] (by kernel_rfl) rfl (all_cons (i := 8) rfl ?_ (all_cons (i := 13) rfl ?_ all_nil))
      · refine o_lds tbOk (fun j v hv => hatq1.cell j v hv) rfl rfl rfl rfl rfl rfl ?_
        refine ⟨hS, ?_⟩
        refine a_one 13 rfl (by kernel_rfl) (o_lds tbOk (fun j v hv => hatq2.cell j v hv) rfl rfl rfl rfl rfl rfl ?_)
        refine ⟨hS, ?_⟩
        refine a_one 14 rfl (by kernel_rfl) (o_dyn rfl fo115 rfl rfl rfl (byName_spec M _ _ _ _ _ hrq1 hrq2 hlow) ?_)
        rintro _ w4 ⟨rfl, ew4⟩
        replace hF : ∀ x, x < w.heap.size → some x ≠ (v : Value).ownBlock → w4.heap[x]? = w.heap[x]? := fun x hx hn => (ew4.block x (Nat.lt_of_lt_of_le hx hT.upd.1)).trans (hF x hx hn)
        replace hT := hT.then (Stp.ext ew4 hlow hB)
        replace hd := hd.ext hlow hB ew4
        replace hrq1 := Rep.ext hrq1 ew4
        replace hrq2 := Rep.ext hrq2 ew4
        replace hlow := hlow.ext ew4
        replace hB := Nat.le_trans hB ew4.size
        refine ⟨hS, ?_⟩
        refine a_p 15 tbOk rfl rfl rfl rfl (by kernel_rfl) (fun _ _ _ h => h) hS ?_
        refine a_p 16 tbOk rfl rfl rfl rfl (by kernel_rfl) (fun _ _ _ h => h) hS ?_
        refine a_end (by kernel_rfl) ?_
        refine x_seq ?_
        refine c_ifP _ rfl (fun hlt => ?_) (fun hlt => ?_)
        · have hne : l3[j0].name ≠ l3[j0 + 1].name := fun e => by rw [e] at hlt; exact absurd hlt (by rw [cmpB_refl]; decide)
          refine c_skip (x_seq (c_seq (c_blk ?_)))
          refine a_beg (fun _ _ => True) rfl ?_
          intro w5 ew5
          replace hF : ∀ x, x < w.heap.size → some x ≠ (v : Value).ownBlock → w5.heap[x]? = w.heap[x]? := fun x hx hn => (ew5.block x (Nat.lt_of_lt_of_le hx hT.upd.1)).trans (hF x hx hn)
          replace hT := hT.then (Stp.ext ew5 hlow hB)
          replace hd := hd.ext hlow hB ew5
          replace hrq1 := Rep.ext hrq1 ew5
          replace hrq2 := Rep.ext hrq2 ew5
          replace hlow := hlow.ext ew5
          replace hB := Nat.le_trans hB ew5.size
          have hS : True := trivial
          refine a_p 0 tbOk rfl rfl rfl rfl (by kernel_rfl) (fun _ _ _ h => h) hS ?_
          refine a_p 1 tbOk rfl rfl rfl rfl (by kernel_rfl) (fun _ _ _ h => h) hS ?_
          refine a_p 2 tbOk rfl rfl rfl rfl (by kernel_rfl) (fun _ _ _ h => h) hS ?_
          refine a_p 3 tbOk rfl rfl rfl rfl (by kernel_rfl) (fun _ _ _ h => h) hS ?_
          refine a_ar 4 rfl rfl rfl rfl (IntWalk.i64_in _ (by omega)) rfl rfl (by kernel_rfl) (fun _ _ _ h => h) hS ?_
          refine a_p 5 tbOk rfl rfl rfl rfl (by kernel_rfl) (fun _ _ _ h => h) hS ?_
          refine a_p 6 tbOk rfl rfl rfl rfl (by kernel_rfl) (fun _ _ _ h => h) hS ?_
          refine a_ar 7 rfl rfl rfl rfl (IntWalk.i64_in _ (by omega)) rfl rfl (by kernel_rfl) (fun _ _ _ h => h) hS ?_
          refine a_ixO 8 tbOk hd (List.getElem?_eq_getElem hj0) rfl rfl rfl (by omega) rfl rfl rfl rfl rfl rfl (by kernel_rfl) (fun _ _ _ _ h => h) hS ?_
          intro ibq3 iuq3 hobq3 hrq3 hatq3
          obtain ⟨szq3, kvq3, rfl, hyq3⟩ := fld_open hrq3
          replace hatq3 : OAt _ _ _ [.string l3[j0].name, .int .u8 l3[j0].ty.op, .string l3[j0].ty.name, .int .i64 l3[j0].ty.n, kvq3] := hatq3
          refine a_p 10 tbOk rfl rfl rfl rfl (by kernel_rfl) (fun _ _ _ h => h) hS ?_
          refine a_p 11 tbOk rfl rfl rfl rfl (by kernel_rfl) (fun _ _ _ h => h) hS ?_
          refine a_ixO 12 tbOk hd (List.getElem?_eq_getElem hj1) rfl rfl rfl (by omega) rfl rfl rfl rfl rfl rfl (by kernel_rfl) (fun _ _ _ _ h => h) hS ?_
          intro ibq4 iuq4 hobq4 hrq4 hatq4
          obtain ⟨szq4, kvq4, rfl, hyq4⟩ := fld_open hrq4
          replace hatq4 : OAt _ _ _ [.string l3[j0 + 1].name, .int .u8 l3[j0 + 1].ty.op, .string l3[j0 + 1].ty.name, .int .i64 l3[j0 + 1].ty.n, kvq4] := hatq4
          refine a_all [9, 13] (by kernel_rfl) rfl (all_cons (i := 9) rfl ?_ (all_cons (i := 13) rfl ?_ all_nil))
          · refine o_lds tbOk (fun j v hv => hatq3.cell j v hv) rfl rfl rfl rfl rfl rfl ?_
            refine ⟨hS, ?_⟩
            refine a_one 13 rfl (by kernel_rfl) (o_lds tbOk (fun j v hv => hatq4.cell j v hv) rfl rfl rfl rfl rfl rfl ?_)
            refine ⟨hS, ?_⟩
            refine a_ixO 14 tbOk hd (List.getElem?_eq_getElem hj1) rfl rfl rfl (by omega) rfl rfl rfl rfl rfl rfl (by kernel_rfl) (fun _ _ _ _ h => h) hS ?_
            intro ibq5 iuq5 hobq5 hrq5 hatq5
            obtain ⟨szq5, kvq5, rfl, hyq5⟩ := fld_open hrq5
            replace hatq5 : OAt _ _ _ [.string l3[j0 + 1].name, .int .u8 l3[j0 + 1].ty.op, .string l3[j0 + 1].ty.name, .int .i64 l3[j0 + 1].ty.n, kvq5] := hatq5
            refine a_one 15 rfl (by kernel_rfl) (o_stO tbOk hd hobq5 (by first | omega | (simp; omega)) hrq3 hlow rfl rfl rfl rfl rfl rfl ?_)
            intro w6 hw6 sw6 frw6
            replace hF : ∀ x, x < w.heap.size → some x ≠ (v : Value).ownBlock → w6.heap[x]? = w.heap[x]? := fun x hx hn => (frw6 x (Nat.lt_of_lt_of_le hx hT.upd.1) (fun e => hn (by rw [hobq5, e]))).trans (hF x hx hn)
            replace hT := hT.then sw6
            replace hrq1 := Rep.stp hrq1 sw6
            replace hrq2 := Rep.stp hrq2 sw6
            replace hrq3 := Rep.stp hrq3 sw6
            replace hrq4 := Rep.stp hrq4 sw6
            replace hrq5 := Rep.stp hrq5 sw6
            replace hlow := sw6.low
            replace hB := Nat.le_trans hB sw6.upd.1
            refine ⟨hS, ?_⟩
            replace hd := hw6
            clear hw6
            refine a_ixO 16 tbOk hd (List.getElem?_eq_getElem (by simpa using hj0)) rfl rfl rfl (by omega) rfl rfl rfl rfl rfl rfl (by kernel_rfl) (fun _ _ _ _ h => h) hS ?_
            intro ibq6 iuq6 hobq6 hrq6 hatq6
            refine a_one 17 rfl (by kernel_rfl) (o_stO tbOk hd hobq6 (by first | omega | (simp; omega)) hrq4 hlow rfl rfl rfl rfl rfl rfl ?_)
            intro w7 hw7 sw7 frw7
            replace hF : ∀ x, x < w.heap.size → some x ≠ (v : Value).ownBlock → w7.heap[x]? = w.heap[x]? := fun x hx hn => (frw7 x (Nat.lt_of_lt_of_le hx hT.upd.1) (fun e => hn (by rw [hobq6, e]))).trans (hF x hx hn)
            replace hT := hT.then sw7
            replace hrq1 := Rep.stp hrq1 sw7
            replace hrq2 := Rep.stp hrq2 sw7
            replace hrq3 := Rep.stp hrq3 sw7
            replace hrq4 := Rep.stp hrq4 sw7
            replace hrq5 := Rep.stp hrq5 sw7
            replace hlow := sw7.low
            replace hB := Nat.le_trans hB sw7.upd.1
            refine ⟨hS, ?_⟩
            replace hd := hw7
            clear hw7
            refine a_end (by kernel_rfl) ?_
            refine x_blk (x_seq (c_reg (l_p 1 tbOk rfl ?_)))
            refine l_cons (o_ar rfl rfl rfl (IntWalk.i64_in _ (by omega)) rfl rfl ?_)
            refine l_p 1 tbOk rfl (l_nil ?_)
            exact x_round2 (j0) (((l3.set (j0 + 1) l3[j0]).set j0 l3[j0 + 1])) (s6 rfl rfl rfl rfl rfl (get_num rfl (by omega))) ⟨by omega, by omega, ins_step hins (by omega) (by omega) hj1 hlt, hd, hrg.trans (swap_rng hj1 hne (by omega) (by omega)), hlow, hB, hT, hF⟩ (by omega)
          refine o_lds tbOk (fun j v hv => hatq4.cell j v hv) rfl rfl rfl rfl rfl rfl ?_
          refine ⟨hS, ?_⟩
          refine a_one 9 rfl (by kernel_rfl) (o_lds tbOk (fun j v hv => hatq3.cell j v hv) rfl rfl rfl rfl rfl rfl ?_)
          refine ⟨hS, ?_⟩
          refine a_ixO 14 tbOk hd (List.getElem?_eq_getElem (by simpa using hj1)) rfl rfl rfl (by omega) rfl rfl rfl rfl rfl rfl (by kernel_rfl) (fun _ _ _ _ h => h) hS ?_
          intro ibq7 iuq7 hobq7 hrq7 hatq7
          refine a_one 15 rfl (by kernel_rfl) (o_stO tbOk hd hobq7 (by first | omega | (simp; omega)) hrq3 hlow rfl rfl rfl rfl rfl rfl ?_)
          intro w8 hw8 sw8 frw8
          replace hF : ∀ x, x < w.heap.size → some x ≠ (v : Value).ownBlock → w8.heap[x]? = w.heap[x]? := fun x hx hn => (frw8 x (Nat.lt_of_lt_of_le hx hT.upd.1) (fun e => hn (by rw [hobq7, e]))).trans (hF x hx hn)
          replace hT := hT.then sw8
          replace hrq1 := Rep.stp hrq1 sw8
          replace hrq2 := Rep.stp hrq2 sw8
          replace hrq3 := Rep.stp hrq3 sw8
          replace hrq4 := Rep.stp hrq4 sw8
          replace hlow := sw8.low
          replace hB := Nat.le_trans hB sw8.upd.1
          refine ⟨hS, ?_⟩
          replace hd := hw8
          clear hw8
          refine a_ixO 16 tbOk hd (List.getElem?_eq_getElem (by simpa using hj0)) rfl rfl rfl (by omega) rfl rfl rfl rfl rfl rfl (by kernel_rfl) (fun _ _ _ _ h => h) hS ?_
          intro ibq8 iuq8 hobq8 hrq8 hatq8
          refine a_one 17 rfl (by kernel_rfl) (o_stO tbOk hd hobq8 (by first | omega | (simp; omega)) hrq4 hlow rfl rfl rfl rfl rfl rfl ?_)
          intro w9 hw9 sw9 frw9
          replace hF : ∀ x, x < w.heap.size → some x ≠ (v : Value).ownBlock → w9.heap[x]? = w.heap[x]? := fun x hx hn => (frw9 x (Nat.lt_of_lt_of_le hx hT.upd.1) (fun e => hn (by rw [hobq8, e]))).trans (hF x hx hn)
          replace hT := hT.then sw9
          replace hrq1 := Rep.stp hrq1 sw9
          replace hrq2 := Rep.stp hrq2 sw9
          replace hrq3 := Rep.stp hrq3 sw9
          replace hrq4 := Rep.stp hrq4 sw9
          replace hlow := sw9.low
          replace hB := Nat.le_trans hB sw9.upd.1
          refine ⟨hS, ?_⟩
          replace hd := hw9
          clear hw9
          refine a_end (by kernel_rfl) ?_
          refine x_blk (x_seq (c_reg (l_p 1 tbOk rfl ?_)))
          refine l_cons (o_ar rfl rfl rfl (IntWalk.i64_in _ (by omega)) rfl rfl ?_)
          refine l_p 1 tbOk rfl (l_nil ?_)
          exact x_round2 (j0) (((l3.set (j0 + 1) l3[j0]).set j0 l3[j0 + 1])) (s6 rfl rfl rfl rfl rfl (get_num rfl (by omega))) ⟨by omega, by omega, ins_step hins (by omega) (by omega) hj1 hlt, hd, hrg.trans (swap_rng hj1 hne (by omega) (by omega)), hlow, hB, hT, hF⟩ (by omega)
        have hsn := ins_stop hins (by omega) (by omega) hj1 hlt
        refine c_exit (x_seqE (x_seqE (x_blkE (x_blk (x_seq (c_reg (l_p 1 tbOk rfl ?_)))))))
        refine l_cons (o_ar rfl rfl rfl (IntWalk.i64_in _ (by omega)) rfl rfl ?_)
        refine l_p 1 tbOk rfl (l_nil ?_)
        exact x_round2 (i + 1) (l3) (s5 rfl rfl rfl rfl rfl) ⟨by omega, by omega, hsn, hd, hrg, hlow, hB, hT, hF⟩ (by omega)
      refine o_lds tbOk (fun j v hv => hatq2.cell j v hv) rfl rfl rfl rfl rfl rfl ?_
      refine ⟨hS, ?_⟩
      refine a_one 8 rfl (by kernel_rfl) (o_lds tbOk (fun j v hv => hatq1.cell j v hv) rfl rfl rfl rfl rfl rfl ?_)
      refine ⟨hS, ?_⟩
      refine a_one 14 rfl (by kernel_rfl) (o_dyn rfl fo115 rfl rfl rfl (byName_spec M _ _ _ _ _ hrq1 hrq2 hlow) ?_)
      rintro _ w10 ⟨rfl, ew10⟩
      replace hF : ∀ x, x < w.heap.size → some x ≠ (v : Value).ownBlock → w10.heap[x]? = w.heap[x]? := fun x hx hn => (ew10.block x (Nat.lt_of_lt_of_le hx hT.upd.1)).trans (hF x hx hn)
      replace hT := hT.then (Stp.ext ew10 hlow hB)
      replace hd := hd.ext hlow hB ew10
      replace hrq1 := Rep.ext hrq1 ew10
      replace hrq2 := Rep.ext hrq2 ew10
      replace hlow := hlow.ext ew10
      replace hB := Nat.le_trans hB ew10.size
      refine ⟨hS, ?_⟩
      refine a_p 15 tbOk rfl rfl rfl rfl (by kernel_rfl) (fun _ _ _ h => h) hS ?_
      refine a_p 16 tbOk rfl rfl rfl rfl (by kernel_rfl) (fun _ _ _ h => h) hS ?_
      refine a_end (by kernel_rfl) ?_
      refine x_seq ?_
      refine c_ifP _ rfl (fun hlt => ?_) (fun hlt => ?_)
      · have hne : l3[j0].name ≠ l3[j0 + 1].name := fun e => by rw [e] at hlt; exact absurd hlt (by rw [cmpB_refl]; decide)
        refine c_skip (x_seq (c_seq (c_blk ?_)))
        refine a_beg (fun _ _ => True) rfl ?_
        intro w11 ew11
        replace hF : ∀ x, x < w.heap.size → some x ≠ (v : Value).ownBlock → w11.heap[x]? = w.heap[x]? := fun x hx hn => (ew11.block x (Nat.lt_of_lt_of_le hx hT.upd.1)).trans (hF x hx hn)
        replace hT := hT.then (Stp.ext ew11 hlow hB)
        replace hd := hd.ext hlow hB ew11
        replace hrq1 := Rep.ext hrq1 ew11
        replace hrq2 := Rep.ext hrq2 ew11
        replace hlow := hlow.ext ew11
        replace hB := Nat.le_trans hB ew11.size
        have hS : True := trivial
        refine a_p 0 tbOk rfl rfl rfl rfl (by kernel_rfl) (fun _ _ _ h => h) hS ?_
        refine a_p 1 tbOk rfl rfl rfl rfl (by kernel_rfl) (fun _ _ _ h => h) hS ?_
        refine a_p 2 tbOk rfl rfl rfl rfl (by kernel_rfl) (fun _ _ _ h => h) hS ?_
        refine a_p 3 tbOk rfl rfl rfl rfl (by kernel_rfl) (fun _ _ _ h => h) hS ?_
        refine a_ar 4 rfl rfl rfl rfl (IntWalk.i64_in _ (by omega)) rfl rfl (by kernel_rfl) (fun _ _ _ h => h) hS ?_
        refine a_p 5 tbOk rfl rfl rfl rfl (by kernel_rfl) (fun _ _ _ h => h) hS ?_
        refine a_p 6 tbOk rfl rfl rfl rfl (by kernel_rfl) (fun _ _ _ h => h) hS ?_
        refine a_ar 7 rfl rfl rfl rfl (IntWalk.i64_in _ (by omega)) rfl rfl (by kernel_rfl) (fun _ _ _ h => h) hS ?_
        refine a_ixO 8 tbOk hd (List.getElem?_eq_getElem hj0) rfl rfl rfl (by omega) rfl rfl rfl rfl rfl rfl (by kernel_rfl) (fun _ _ _ _ h => h) hS ?_
        intro ibq9 iuq9 hobq9 hrq9 hatq9
        obtain ⟨szq9, kvq9, rfl, hyq9⟩ := fld_open hrq9
        replace hatq9 : OAt _ _ _ [.string l3[j0].name, .int .u8 l3[j0].ty.op, .string l3[j0].ty.name, .int .i64 l3[j0].ty.n, kvq9] := hatq9
        refine a_p 10 tbOk rfl rfl rfl rfl (by kernel_rfl) (fun _ _ _ h => h) hS ?_
        refine a_p 11 tbOk rfl rfl rfl rfl (by kernel_rfl) (fun _ _ _ h => h) hS ?_
        refine a_ixO 12 tbOk hd (List.getElem?_eq_getElem hj1) rfl rfl rfl (by omega) rfl rfl rfl rfl rfl rfl (by kernel_rfl) (fun _ _ _ _ h => h) hS ?_
        intro ibq10 iuq10 hobq10 hrq10 hatq10
        obtain ⟨szq10, kvq10, rfl, hyq10⟩ := fld_open hrq10
        replace hatq10 : OAt _ _ _ [.string l3[j0 + 1].name, .int .u8 l3[j0 + 1].ty.op, .string l3[j0 + 1].ty.name, .int .i64 l3[j0 + 1].ty.n, kvq10] := hatq10
        refine a_all [9, 13] (by kernel_rfl) rfl (all_cons (i := 9) rfl ?_ (all_cons (i := 13) rfl ?_ all_nil))
        · refine o_lds tbOk (fun j v hv => hatq9.cell j v hv) rfl rfl rfl rfl rfl rfl ?_
          refine ⟨hS, ?_⟩
          refine a_one 13 rfl (by kernel_rfl) (o_lds tbOk (fun j v hv => hatq10.cell j v hv) rfl rfl rfl rfl rfl rfl ?_)
          refine ⟨hS, ?_⟩
          refine a_ixO 14 tbOk hd (List.getElem?_eq_getElem hj1) rfl rfl rfl (by omega) rfl rfl rfl rfl rfl rfl (by kernel_rfl) (fun _ _ _ _ h => h) hS ?_
          intro ibq11 iuq11 hobq11 hrq11 hatq11
          obtain ⟨szq11, kvq11, rfl, hyq11⟩ := fld_open hrq11
          replace hatq11 : OAt _ _ _ [.string l3[j0 + 1].name, .int .u8 l3[j0 + 1].ty.op, .string l3[j0 + 1].ty.name, .int .i64 l3[j0 + 1].ty.n, kvq11] := hatq11
          refine a_one 15 rfl (by kernel_rfl) (o_stO tbOk hd hobq11 (by first | omega | (simp; omega)) hrq9 hlow rfl rfl rfl rfl rfl rfl ?_)
          intro w12 hw12 sw12 frw12
          replace hF : ∀ x, x < w.heap.size → some x ≠ (v : Value).ownBlock → w12.heap[x]? = w.heap[x]? := fun x hx hn => (frw12 x (Nat.lt_of_lt_of_le hx hT.upd.1) (fun e => hn (by rw [hobq11, e]))).trans (hF x hx hn)
          replace hT := hT.then sw12
          replace hrq1 := Rep.stp hrq1 sw12
          replace hrq2 := Rep.stp hrq2 sw12
          replace hrq9 := Rep.stp hrq9 sw12
          replace hrq10 := Rep.stp hrq10 sw12
          replace hrq11 := Rep.stp hrq11 sw12
          replace hlow := sw12.low
          replace hB := Nat.le_trans hB sw12.upd.1
          refine ⟨hS, ?_⟩
          replace hd := hw12
          clear hw12
          refine a_ixO 16 tbOk hd (List.getElem?_eq_getElem (by simpa using hj0)) rfl rfl rfl (by omega) rfl rfl rfl rfl rfl rfl (by kernel_rfl) (fun _ _ _ _ h => h) hS ?_
          intro ibq12 iuq12 hobq12 hrq12 hatq12
          refine a_one 17 rfl (by kernel_rfl) (o_stO tbOk hd hobq12 (by first | omega | (simp; omega)) hrq10 hlow rfl rfl rfl rfl rfl rfl ?_)
          intro w13 hw13 sw13 frw13
          replace hF : ∀ x, x < w.heap.size → some x ≠ (v : Value).ownBlock → w13.heap[x]? = w.heap[x]? := fun x hx hn => (frw13 x (Nat.lt_of_lt_of_le hx hT.upd.1) (fun e => hn (by rw [hobq12, e]))).trans (hF x hx hn)
          replace hT := hT.then sw13
          replace hrq1 := Rep.stp hrq1 sw13
          replace hrq2 := Rep.stp hrq2 sw13
          replace hrq9 := Rep.stp hrq9 sw13
          replace hrq10 := Rep.stp hrq10 sw13
          replace hrq11 := Rep.stp hrq11 sw13
          replace hlow := sw13.low
          replace hB := Nat.le_trans hB sw13.upd.1
          refine ⟨hS, ?_⟩
          replace hd := hw13
          clear hw13
          refine a_end (by kernel_rfl) ?_
          refine x_blk (x_seq (c_reg (l_p 1 tbOk rfl ?_)))
          refine l_cons (o_ar rfl rfl rfl (IntWalk.i64_in _ (by omega)) rfl rfl ?_)
          refine l_p 1 tbOk rfl (l_nil ?_)
          exact x_round2 (j0) (((l3.set (j0 + 1) l3[j0]).set j0 l3[j0 + 1])) (s6 rfl rfl rfl rfl rfl (get_num rfl (by omega))) ⟨by omega, by omega, ins_step hins (by omega) (by omega) hj1 hlt, hd, hrg.trans (swap_rng hj1 hne (by omega) (by omega)), hlow, hB, hT, hF⟩ (by omega)
        refine o_lds tbOk (fun j v hv => hatq10.cell j v hv) rfl rfl rfl rfl rfl rfl ?_
        refine ⟨hS, ?_⟩
        refine a_one 9 rfl (by kernel_rfl) (o_lds tbOk (fun j v hv => hatq9.cell j v hv) rfl rfl rfl rfl rfl rfl ?_)
        refine ⟨hS, ?_⟩
        refine a_ixO 14 tbOk hd (List.getElem?_eq_getElem (by simpa using hj1)) rfl rfl rfl (by omega) rfl rfl rfl rfl rfl rfl (by kernel_rfl) (fun _ _ _ _ h => h) hS ?_
        intro ibq13 iuq13 hobq13 hrq13 hatq13
        refine a_one 15 rfl (by kernel_rfl) (o_stO tbOk hd hobq13 (by first | omega | (simp; omega)) hrq9 hlow rfl rfl rfl rfl rfl rfl ?_)
        intro w14 hw14 sw14 frw14
        replace hF : ∀ x, x < w.heap.size → some x ≠ (v : Value).ownBlock → w14.heap[x]? = w.heap[x]? := fun x hx hn => (frw14 x (Nat.lt_of_lt_of_le hx hT.upd.1) (fun e => hn (by rw [hobq13, e]))).trans (hF x hx hn)
        replace hT := hT.then sw14
        replace hrq1 := Rep.stp hrq1 sw14
        replace hrq2 := Rep.stp hrq2 sw14
        replace hrq9 := Rep.stp hrq9 sw14
        replace hrq10 := Rep.stp hrq10 sw14
        replace hlow := sw14.low
        replace hB := Nat.le_trans hB sw14.upd.1
        refine ⟨hS, ?_⟩
        replace hd := hw14
        clear hw14
        refine a_ixO 16 tbOk hd (List.getElem?_eq_getElem (by simpa using hj0)) rfl rfl rfl (by omega) rfl rfl rfl rfl rfl rfl (by kernel_rfl) (fun _ _ _ _ h => h) hS ?_
        intro ibq14 iuq14 hobq14 hrq14 hatq14
        refine a_one 17 rfl (by kernel_rfl) (o_stO tbOk hd hobq14 (by first | omega | (simp; omega)) hrq10 hlow rfl rfl rfl rfl rfl rfl ?_)
        intro w15 hw15 sw15 frw15
        replace hF : ∀ x, x < w.heap.size → some x ≠ (v : Value).ownBlock → w15.heap[x]? = w.heap[x]? := fun x hx hn => (frw15 x (Nat.lt_of_lt_of_le hx hT.upd.1) (fun e => hn (by rw [hobq14, e]))).trans (hF x hx hn)
        replace hT := hT.then sw15
        replace hrq1 := Rep.stp hrq1 sw15
        replace hrq2 := Rep.stp hrq2 sw15
        replace hrq9 := Rep.stp hrq9 sw15
        replace hrq10 := Rep.stp hrq10 sw15
        replace hlow := sw15.low
        replace hB := Nat.le_trans hB sw15.upd.1
        refine ⟨hS, ?_⟩
        replace hd := hw15
        clear hw15
        refine a_end (by kernel_rfl) ?_
        refine x_blk (x_seq (c_reg (l_p 1 tbOk rfl ?_)))
        refine l_cons (o_ar rfl rfl rfl (IntWalk.i64_in _ (by omega)) rfl rfl ?_)
        refine l_p 1 tbOk rfl (l_nil ?_)
        exact x_round2 (j0) (((l3.set (j0 + 1) l3[j0]).set j0 l3[j0 + 1])) (s6 rfl rfl rfl rfl rfl (get_num rfl (by omega))) ⟨by omega, by omega, ins_step hins (by omega) (by omega) hj1 hlt, hd, hrg.trans (swap_rng hj1 hne (by omega) (by omega)), hlow, hB, hT, hF⟩ (by omega)
      have hsn := ins_stop hins (by omega) (by omega) hj1 hlt
      refine c_exit (x_seqE (x_seqE (x_blkE (x_blk (x_seq (c_reg (l_p 1 tbOk rfl ?_)))))))
      refine l_cons (o_ar rfl rfl rfl (IntWalk.i64_in _ (by omega)) rfl rfl ?_)
      refine l_p 1 tbOk rfl (l_nil ?_)
      exact x_round2 (i + 1) (l3) (s5 rfl rfl rfl rfl rfl) ⟨by omega, by omega, hsn, hd, hrg, hlow, hB, hT, hF⟩ (by omega)
    obtain rfl : j = a := by omega
    have hsn := ins_front hins
    refine a_skip 4 rfl rfl rfl (by kernel_rfl) (fun _ _ _ h => h) hS ?_
    refine a_skip 5 rfl rfl rfl (by kernel_rfl) (fun _ _ _ h => h) hS ?_
    refine a_skip 6 rfl rfl rfl (by kernel_rfl) (fun _ _ _ h => h) hS ?_
    refine a_skip 7 rfl rfl rfl (by kernel_rfl) (fun _ _ _ h => h) hS ?_
    refine a_skip 8 rfl rfl rfl (by kernel_rfl) (fun _ _ _ h => h) hS ?_
    refine a_skip 9 rfl rfl rfl (by kernel_rfl) (fun _ _ _ h => h) hS ?_
    refine a_skip 10 rfl rfl rfl (by kernel_rfl) (fun _ _ _ h => h) hS ?_
    refine a_skip 11 rfl rfl rfl (by kernel_rfl) (fun _ _ _ h => h) hS ?_
    refine a_skip 12 rfl rfl rfl (by kernel_rfl) (fun _ _ _ h => h) hS ?_
    refine a_skip 13 rfl rfl rfl (by kernel_rfl) (fun _ _ _ h => h) hS ?_
    refine a_skip 14 rfl rfl rfl (by kernel_rfl) (fun _ _ _ h => h) hS ?_
    refine a_skip 15 rfl rfl rfl (by kernel_rfl) (fun _ _ _ h => h) hS ?_
    refine a_p 16 tbOk rfl rfl rfl rfl (by kernel_rfl) (fun _ _ _ h => h) hS ?_
    refine a_end (by kernel_rfl) ?_
    refine x_seq (c_ifF rfl (c_exit (x_seqE (x_seqE (x_blkE (x_blk (x_seq (c_reg (l_p 1 tbOk rfl ?_)))))))))
    refine l_cons (o_ar rfl rfl rfl (IntWalk.i64_in _ (by omega)) rfl rfl ?_)
    refine l_p 1 tbOk rfl (l_nil ?_)
    exact x_round2 (i + 1) (l3) (s5 rfl rfl rfl rfl rfl) ⟨by omega, by omega, hsn, hd, hrg, hlow, hB, hT, hF⟩ (by omega)
  refine c_exit (x_seqE (x_seqE (x_blkE ?_)))
  refine x_ret0n rfl ?_
  exact ⟨rfl, ⟨l2, hd, hrg, fun p q x y hp hpq hq => hso p q x y hp hpq (by omega)⟩, hT, hF⟩

end Go.Proofs.Ytohfnpmehgpphaa
