/- Walks: codec's eye. Printed by wip/walks/codec2.py. -/
import Derived.Test.YtohfnpmehgpphaaCa
import Derived.Test.YtohfnpmehgpphaaSlh
namespace Go.Proofs.Ytohfnpmehgpphaa
open Go Rw Go.RowKit
set_option maxRecDepth 100000

/-- fail from now on. -/
theorem eyeFail_spec (M : Nat → Prop) (w : World) (B ye : Nat) (bv : Value) (l : List UInt8) (bad : Bool) (he : MB B M w ye 130 [bv, .bool bad]) (hb : Sl M w bv l) (hlow : Low M w) (hB : B ≤ w.heap.size) :
    Calls Try.prog 102 #[.pointer (some ⟨ye, 0, none⟩)] w (Ret fun r w' => r = .tuple #[] ∧ ∃ bv', MB B M w' ye 130 [bv', .bool (true)] ∧ Sl M w' bv' (([] : List UInt8)) ∧ UpdB ye w w') := by
  have hU := UpdB.refl ye w
  obtain ⟨ab, cb, rfl, _⟩ := id hb
  have hlt := hb.lt
  refine c_enter (n := 8) Try.func102 rfl rfl rfl ?_
  refine c_reg (l_p 4 tbOk rfl ?_)
  refine l_cons (o_st tbOk he.box rfl rfl rfl rfl (by intro u hu; simp [Value.cells] at hu; subst hu; rfl) rfl rfl ?_)
  intro w1 hw1 qw1 bew1
  have uw1 : UpdB _ _ _ := ⟨qw1, bew1⟩
  have sw1 := uw1.stp he.inM hlow he.ge
  have frw1 := qw1.2
  replace hU := hU.trans uw1
  replace hb := hb.stp sw1
  replace hlow := sw1.low
  replace hB := Nat.le_trans hB sw1.upd.1
  replace he : MB B _ w1 ye _ [.slice ab l.length cb, .bool true] := ⟨hw1, he.inM, he.ge⟩
  refine l_p 2 tbOk rfl ?_
  refine l_cons (o_st tbOk he.box rfl rfl rfl rfl (by intro u hu; simp [Value.cells] at hu; subst hu; rfl) rfl rfl ?_)
  intro w2 hw2 qw2 bew2
  have uw2 : UpdB _ _ _ := ⟨qw2, bew2⟩
  have sw2 := uw2.stp he.inM hlow he.ge
  have frw2 := qw2.2
  replace hU := hU.trans uw2
  replace hb := hb.stp sw2
  replace hlow := sw2.low
  replace hB := Nat.le_trans hB sw2.upd.1
  replace he : MB B _ w2 ye _ [.slice none 0 0, .bool true] := ⟨hw2, he.inM, he.ge⟩
  refine l_nil ?_
  refine x_ret0n rfl ?_
  exact ⟨rfl, _, he, sl_nil, hU⟩

/-- one byte. -/
theorem eyeOne_spec (M : Nat → Prop) (w : World) (B ye : Nat) (bv : Value) (l : List UInt8) (bad : Bool) (he : MB B M w ye 130 [bv, .bool bad]) (hb : Sl M w bv l) (hlow : Low M w) (hB : B ≤ w.heap.size) :
    Calls Try.prog 103 #[.pointer (some ⟨ye, 0, none⟩)] w (Ret fun r w' => r = .int .u8 (l.headD 0).toNat ∧ ∃ bv', MB B M w' ye 130 [bv', .bool (bad || l.isEmpty)] ∧ Sl M w' bv' (l.tail) ∧ UpdB ye w w') := by
  have hU := UpdB.refl ye w
  obtain ⟨ab, cb, rfl, _⟩ := id hb
  have hlt := hb.lt
  refine c_enter (n := 27) Try.func103 rfl rfl rfl ?_
  refine q0 (l_p 1 tbOk rfl (q1 (c_seq (q0 (l_p 3 tbOk rfl ?_)))))
  refine l_cons (o_ld tbOk (he.cell 0 _ rfl) rfl rfl rfl rfl rfl ?_)
  refine l_cons (o_len tbOk hb rfl rfl rfl rfl rfl ?_)
  refine l_p 1 tbOk rfl (q1 ?_)
  refine c_ifP _ rfl (fun hc => ?_) (fun hc => ?_)
  · obtain rfl : l = [] := List.eq_nil_of_length_eq_zero (by omega)
    refine q0 (l_p 1 tbOk rfl ?_)
    refine l_cons (o_call fo102 rfl rfl rfl (eyeFail_spec _ _ B ye _ _ _ he hb hlow hB) ?_)
    rintro _ w1 ⟨rfl, bvw1, hew1, hbw1, uw1⟩
    have sw1 := uw1.stp he.inM hlow he.ge
    have frw1 := uw1.upd.2
    replace hU := hU.trans uw1
    replace hlow := sw1.low
    replace hB := Nat.le_trans hB sw1.upd.1
    replace he := hew1
    replace hb := hbw1
    obtain ⟨abw1, cbw1, rfl, _⟩ := id hb
    refine q1 (q0 (l_p 1 tbOk rfl (q1 (c_ret (x_seqR (x_ret1 rfl rfl ?_))))))
    exact ⟨rfl, _, by rw [show (bad || ([] : List UInt8).isEmpty) = true by simp]; exact he, hb, hU⟩
  obtain ⟨c, r, rfl⟩ : ∃ c r, l = c :: r := by
    cases l with
    | nil => exact absurd rfl hc
    | cons c r => exact ⟨c, r, rfl⟩
  refine c_skip (x_seq (q0 (l_p 3 tbOk rfl ?_)))
  refine l_cons (o_ld tbOk (he.cell 0 _ rfl) rfl rfl rfl rfl rfl ?_)
  refine l_cons (o_ixS tbOk hb (show (c :: r)[0]? = some c from rfl) rfl rfl rfl rfl rfl rfl rfl rfl rfl ?_)
  intro eb eo eu hr hat
  replace hr : eu = .int .u8 c.toNat := hr
  subst hr
  refine l_cons (o_ld tbOk (hat.cell 0 _ rfl) rfl rfl rfl rfl rfl ?_)
  refine l_p 1 tbOk rfl (q1 (q0 (l_p 4 tbOk rfl ?_)))
  refine l_cons (o_ld tbOk (he.cell 0 _ rfl) rfl rfl rfl rfl rfl ?_)
  refine l_cons (o_slt tbOk hb rfl rfl rfl (j := 1) (by simp) rfl rfl rfl rfl rfl rfl ?_)
  intro bv2 hb2
  replace hb2 : Sl M w bv2 r := hb2
  obtain ⟨a2, c2, rfl, _⟩ := id hb2
  refine l_p 2 tbOk rfl ?_
  refine l_cons (o_st tbOk he.box rfl rfl rfl rfl (by intro u hu; simp [Value.cells] at hu; subst hu; rfl) rfl rfl ?_)
  intro w2 hw2 qw2 bew2
  have uw2 : UpdB _ _ _ := ⟨qw2, bew2⟩
  have sw2 := uw2.stp he.inM hlow he.ge
  have frw2 := qw2.2
  replace hU := hU.trans uw2
  replace hb := hb.stp sw2
  replace hb2 := hb2.stp sw2
  replace hlow := sw2.low
  replace hB := Nat.le_trans hB sw2.upd.1
  replace he : MB B _ w2 ye _ [.slice a2 r.length c2, .bool bad] := ⟨hw2, he.inM, he.ge⟩
  refine q1 (q0 (l_p 2 tbOk rfl (q1 (c_ret (x_ret1 rfl rfl ?_)))))
  exact ⟨rfl, _, by rw [show (bad || (c :: r).isEmpty) = bad by simp]; exact he, hb2, hU⟩

/-- num: a number. -/
theorem eyeNum_spec (M : Nat → Prop) (w : World) (B ye : Nat) (bv : Value) (l : List UInt8) (bad : Bool) (he : MB B M w ye 130 [bv, .bool bad]) (hb : Sl M w bv l) (hlow : Low M w) (hB : B ≤ w.heap.size) :
    Calls Try.prog 101 #[.pointer (some ⟨ye, 0, none⟩)] w (Ret fun r w' => r = .int .u64 ((numE l bad).1 : Nat) ∧ ∃ bv', MB B M w' ye 130 [bv', .bool ((numE l bad).2.2)] ∧ Sl M w' bv' ((numE l bad).2.1) ∧ UpdB ye w w') := by
  have hU := UpdB.refl ye w
  obtain ⟨ab, cb, rfl, _⟩ := id hb
  have hlt := hb.lt
  refine c_enter (n := 39) Try.func101 rfl rfl rfl ?_
  refine q0 (l_p 1 tbOk rfl (q1 (q0 (l_p 1 tbOk rfl (q1 (c_seq (q0 (l_p 1 tbOk rfl (q1 (c_blk ?_))))))))))
  refine c_loop5 (X := Nat) (Y := Nat) (Z := List UInt8) (U := Bool) (V := Value) (fun i n k bd bv => [(0, .pointer (some ⟨ye, 0, none⟩)), (3, .int .u64 (n : Nat)), (6, .int .i64 (i : Nat))]) (fun i n k bd bv w' => i ≤ 9 ∧ n < 2 ^ (7 * i) ∧ eyeN (9 - i) i n k bd = eyeN 9 0 0 l bad ∧ MB B M w' ye 130 [bv, .bool bd] ∧ Sl M w' bv k ∧ UpdB ye w w' ∧ Low M w' ∧ B ≤ w'.heap.size) (fun i n k bd bv => 9 - i) (0) (0) (l) (bad) (.slice ab l.length cb) (s3 rfl rfl rfl) ?_ ?_
  · exact ⟨Nat.zero_le _, by decide, rfl, he, hb, hU, hlow, hB⟩
  clear he hb hU hlow hB
  rintro i n k bd bv w1 ⟨hi, hn, hinv, he, hb, hU, hlow, hB⟩
  obtain ⟨ab2, cb2, rfl, _⟩ := id hb
  refine q0 (l_p 1 tbOk rfl (q1 (c_seq ?_)))
  refine c_ifP _ rfl (fun c1 => ?_) (fun c1 => ?_)
  · have hpw := pow_small (i := i + 1) (by omega)
    have hbd := eye_bound (c := k.headD 0) hn
    refine c_skip (x_seq (c_seq (c_blk (q0 (l_p 2 tbOk rfl (q1 (q0 (l_p 1 tbOk rfl ?_))))))))
    refine l_cons (o_call fo103 rfl rfl rfl (eyeOne_spec _ _ B ye _ _ _ he hb hlow hB) ?_)
    rintro _ w2 ⟨rfl, bvw2, hew2, hbw2, uw2⟩
    have sw2 := uw2.stp he.inM hlow he.ge
    have frw2 := uw2.upd.2
    replace hU := hU.trans uw2
    replace hlow := sw2.low
    replace hB := Nat.le_trans hB sw2.upd.1
    replace he := hew2
    replace hb := hbw2
    obtain ⟨abw2, cbw2, rfl, _⟩ := id hb
    refine l_p 1 tbOk rfl (q1 (c_seq (q0 (l_p 3 tbOk rfl ?_))))
    refine l_splitP 13 _ rfl (fun c2 => ?_) (fun c2 => ?_)
    · refine l_p 4 tbOk rfl ?_
      refine l_splitP 17 _ rfl (fun c3 => ?_) (fun c3 => ?_)
      · refine l_p 5 tbOk rfl (q1 (c_ifT rfl (q0 (l_p 1 tbOk rfl ?_))))
        have hyes : (k.headD 0 = 0 ∧ 0 < i) ∨ (bd || k.isEmpty) = true := by
          have hz : (k.headD 0).toNat = 0 → k.headD 0 = 0 := fun h => UInt8.toNat_inj.1 h
          first | (right; assumption) | exact .inl ⟨hz (by omega), by omega⟩
        refine l_cons (o_call fo102 rfl rfl rfl (eyeFail_spec _ _ B ye _ _ _ he hb hlow hB) ?_)
        rintro _ w3 ⟨rfl, bvw3, hew3, hbw3, uw3⟩
        have sw3 := uw3.stp he.inM hlow he.ge
        have frw3 := uw3.upd.2
        replace hU := hU.trans uw3
        replace hlow := sw3.low
        replace hB := Nat.le_trans hB sw3.upd.1
        replace he := hew3
        replace hb := hbw3
        obtain ⟨abw3, cbw3, rfl, _⟩ := id hb
        refine q1 (q0 (l_p 1 tbOk rfl (q1 (c_ret (x_seqR (x_blkR (x_seqR (x_seqR (x_blkR (x_seqR (x_ret1 rfl rfl ?_)))))))))))
        unfold numE
        rw [← hinv, show 9 - i = (9 - (i + 1)) + 1 by omega, eyeN_bad hyes]
        exact ⟨rfl, _, he, hb, hU⟩
      refine l_p 3 tbOk rfl ?_
      refine l_cons (o_ld tbOk (he.cell 1 _ rfl) rfl rfl rfl rfl rfl ?_)
      refine l_p 1 tbOk rfl (q1 ?_)
      refine c_if _ rfl (fun c4 => ?_) (fun c4 => ?_)
      · refine q0 (l_p 1 tbOk rfl ?_)
        have hyes : (k.headD 0 = 0 ∧ 0 < i) ∨ (bd || k.isEmpty) = true := by
          have hz : (k.headD 0).toNat = 0 → k.headD 0 = 0 := fun h => UInt8.toNat_inj.1 h
          first | (right; assumption) | exact .inl ⟨hz (by omega), by omega⟩
        refine l_cons (o_call fo102 rfl rfl rfl (eyeFail_spec _ _ B ye _ _ _ he hb hlow hB) ?_)
        rintro _ w4 ⟨rfl, bvw4, hew4, hbw4, uw4⟩
        have sw4 := uw4.stp he.inM hlow he.ge
        have frw4 := uw4.upd.2
        replace hU := hU.trans uw4
        replace hlow := sw4.low
        replace hB := Nat.le_trans hB sw4.upd.1
        replace he := hew4
        replace hb := hbw4
        obtain ⟨abw4, cbw4, rfl, _⟩ := id hb
        refine q1 (q0 (l_p 1 tbOk rfl (q1 (c_ret (x_seqR (x_blkR (x_seqR (x_seqR (x_blkR (x_seqR (x_ret1 rfl rfl ?_)))))))))))
        unfold numE
        rw [← hinv, show 9 - i = (9 - (i + 1)) + 1 by omega, eyeN_bad hyes]
        exact ⟨rfl, _, he, hb, hU⟩
      refine c_skip (x_seq (q0 (l_p 2 tbOk rfl ?_)))
      have hno : ¬ ((k.headD 0 = 0 ∧ 0 < i) ∨ (bd || k.isEmpty) = true) := by
        rintro (⟨h1, h2⟩ | h)
        · have h3 : (k.headD 0).toNat = 0 := by rw [h1]; rfl
          omega
        · simp_all
      refine l_cons (o_and (r := (((k.headD 0).toNat % 128 : Nat) : Int)) rfl rfl (and_127 _) rfl rfl ?_)
      refine l_cons (o_conv (y := (((k.headD 0).toNat % 128 : Nat) : Int)) tbOk rfl rfl rfl rfl rfl ((wrap_u64 _).trans (by rw [u64_nat (by omega)])) rfl rfl ?_)
      refine l_p 1 tbOk rfl ?_
      refine l_cons (o_ar rfl rfl rfl (z := ((7 * i : Nat) : Int)) (by rw [IntWalk.i64_in _ (by omega)]; omega) rfl rfl ?_)
      refine l_cons (o_shl (s := 7 * i) (r := (((k.headD 0).toNat % 128 * 2 ^ (7 * i) : Nat) : Int)) rfl rfl (show 7 * i ≤ 64 by omega) (by rw [show (((k.headD 0).toNat % 128 : Nat) : Int) * 2 ^ (7 * i) = (((k.headD 0).toNat % 128 * 2 ^ (7 * i) : Nat) : Int) by simp, wrap_u64, u64_nat (by omega)]) rfl rfl ?_)
      refine l_cons (o_or (r := ((n + (k.headD 0).toNat % 128 * 2 ^ (7 * i) : Nat) : Int)) rfl rfl (or_add hn (by omega)) rfl rfl ?_)
      refine l_p 1 tbOk rfl (q1 (q0 (l_p 2 tbOk rfl (q1 ?_))))
      refine c_ifP _ rfl (fun c5 => ?_) (fun c5 => ?_)
      · refine q0 (l_p 2 tbOk rfl (q1 (c_ret (x_blkR (x_seqR (x_seqR (x_blkR (x_seqR (x_ret1 rfl rfl ?_)))))))))
        unfold numE
        rw [← hinv, show 9 - i = (9 - (i + 1)) + 1 by omega, eyeN_last hno (by omega)]
        exact ⟨rfl, _, he, hb, hU⟩
      refine c_skip (x_blk (x_seq (c_reg ?_)))
      refine l_cons (o_ar rfl rfl rfl (IntWalk.i64_in _ (by omega)) rfl rfl ?_)
      refine l_p 1 tbOk rfl (l_nil ?_)
      exact x_round5 (i + 1) (n + (k.headD 0).toNat % 128 * 2 ^ (7 * i)) (k.tail) (bd || k.isEmpty) ((.slice abw2 _ cbw2)) (s3 rfl rfl (get_num rfl (by omega))) ⟨by omega, eye_bound hn, by rw [← hinv, show 9 - i = (9 - (i + 1)) + 1 by omega]; exact (eyeN_step hno (by omega)).symm, he, hb, hU, hlow, hB⟩ (by omega)
    refine l_p 7 tbOk rfl ?_
    refine l_cons (o_ld tbOk (he.cell 1 _ rfl) rfl rfl rfl rfl rfl ?_)
    refine l_p 1 tbOk rfl (q1 ?_)
    refine c_if _ rfl (fun c6 => ?_) (fun c6 => ?_)
    · refine q0 (l_p 1 tbOk rfl ?_)
      have hyes : (k.headD 0 = 0 ∧ 0 < i) ∨ (bd || k.isEmpty) = true := by
        have hz : (k.headD 0).toNat = 0 → k.headD 0 = 0 := fun h => UInt8.toNat_inj.1 h
        first | (right; assumption) | exact .inl ⟨hz (by omega), by omega⟩
      refine l_cons (o_call fo102 rfl rfl rfl (eyeFail_spec _ _ B ye _ _ _ he hb hlow hB) ?_)
      rintro _ w5 ⟨rfl, bvw5, hew5, hbw5, uw5⟩
      have sw5 := uw5.stp he.inM hlow he.ge
      have frw5 := uw5.upd.2
      replace hU := hU.trans uw5
      replace hlow := sw5.low
      replace hB := Nat.le_trans hB sw5.upd.1
      replace he := hew5
      replace hb := hbw5
      obtain ⟨abw5, cbw5, rfl, _⟩ := id hb
      refine q1 (q0 (l_p 1 tbOk rfl (q1 (c_ret (x_seqR (x_blkR (x_seqR (x_seqR (x_blkR (x_seqR (x_ret1 rfl rfl ?_)))))))))))
      unfold numE
      rw [← hinv, show 9 - i = (9 - (i + 1)) + 1 by omega, eyeN_bad hyes]
      exact ⟨rfl, _, he, hb, hU⟩
    refine c_skip (x_seq (q0 (l_p 2 tbOk rfl ?_)))
    have hno : ¬ ((k.headD 0 = 0 ∧ 0 < i) ∨ (bd || k.isEmpty) = true) := by
      rintro (⟨h1, h2⟩ | h)
      · have h3 : (k.headD 0).toNat = 0 := by rw [h1]; rfl
        omega
      · simp_all
    refine l_cons (o_and (r := (((k.headD 0).toNat % 128 : Nat) : Int)) rfl rfl (and_127 _) rfl rfl ?_)
    refine l_cons (o_conv (y := (((k.headD 0).toNat % 128 : Nat) : Int)) tbOk rfl rfl rfl rfl rfl ((wrap_u64 _).trans (by rw [u64_nat (by omega)])) rfl rfl ?_)
    refine l_p 1 tbOk rfl ?_
    refine l_cons (o_ar rfl rfl rfl (z := ((7 * i : Nat) : Int)) (by rw [IntWalk.i64_in _ (by omega)]; omega) rfl rfl ?_)
    refine l_cons (o_shl (s := 7 * i) (r := (((k.headD 0).toNat % 128 * 2 ^ (7 * i) : Nat) : Int)) rfl rfl (show 7 * i ≤ 64 by omega) (by rw [show (((k.headD 0).toNat % 128 : Nat) : Int) * 2 ^ (7 * i) = (((k.headD 0).toNat % 128 * 2 ^ (7 * i) : Nat) : Int) by simp, wrap_u64, u64_nat (by omega)]) rfl rfl ?_)
    refine l_cons (o_or (r := ((n + (k.headD 0).toNat % 128 * 2 ^ (7 * i) : Nat) : Int)) rfl rfl (or_add hn (by omega)) rfl rfl ?_)
    refine l_p 1 tbOk rfl (q1 (q0 (l_p 2 tbOk rfl (q1 ?_))))
    refine c_ifP _ rfl (fun c7 => ?_) (fun c7 => ?_)
    · refine q0 (l_p 2 tbOk rfl (q1 (c_ret (x_blkR (x_seqR (x_seqR (x_blkR (x_seqR (x_ret1 rfl rfl ?_)))))))))
      unfold numE
      rw [← hinv, show 9 - i = (9 - (i + 1)) + 1 by omega, eyeN_last hno (by omega)]
      exact ⟨rfl, _, he, hb, hU⟩
    refine c_skip (x_blk (x_seq (c_reg ?_)))
    refine l_cons (o_ar rfl rfl rfl (IntWalk.i64_in _ (by omega)) rfl rfl ?_)
    refine l_p 1 tbOk rfl (l_nil ?_)
    exact x_round5 (i + 1) (n + (k.headD 0).toNat % 128 * 2 ^ (7 * i)) (k.tail) (bd || k.isEmpty) ((.slice abw2 _ cbw2)) (s3 rfl rfl (get_num rfl (by omega))) ⟨by omega, eye_bound hn, by rw [← hinv, show 9 - i = (9 - (i + 1)) + 1 by omega]; exact (eyeN_step hno (by omega)).symm, he, hb, hU, hlow, hB⟩ (by omega)
  refine c_exit (x_seqE (x_seqE (x_blkE (x_seq (q0 (l_p 1 tbOk rfl ?_))))))
  refine l_cons (o_call fo102 rfl rfl rfl (eyeFail_spec _ _ B ye _ _ _ he hb hlow hB) ?_)
  rintro _ w6 ⟨rfl, bvw6, hew6, hbw6, uw6⟩
  have sw6 := uw6.stp he.inM hlow he.ge
  have frw6 := uw6.upd.2
  replace hU := hU.trans uw6
  replace hlow := sw6.low
  replace hB := Nat.le_trans hB sw6.upd.1
  replace he := hew6
  replace hb := hbw6
  obtain ⟨abw6, cbw6, rfl, _⟩ := id hb
  refine q1 (q0 (l_p 1 tbOk rfl (q1 (c_ret (x_ret1 rfl rfl ?_)))))
  unfold numE
  rw [← hinv, show 9 - i = 0 by omega, show eyeN 0 i n k bd = (0, [], true) from rfl]
  exact ⟨rfl, _, he, hb, hU⟩

/-- text. -/
theorem eyeText_spec (M : Nat → Prop) (w : World) (B ye : Nat) (bv : Value) (l : List UInt8) (bad : Bool) (he : MB B M w ye 130 [bv, .bool bad]) (hb : Sl M w bv l) (hlow : Low M w) (hB : B ≤ w.heap.size) :
    Calls Try.prog 73 #[.pointer (some ⟨ye, 0, none⟩)] w (Ret fun r w' => r = .string (textE l bad).1 ∧ ∃ bv', MB B M w' ye 130 [bv', .bool ((textE l bad).2.2)] ∧ Sl M w' bv' ((textE l bad).2.1) ∧ UpdB ye w w') := by
  have hU := UpdB.refl ye w
  obtain ⟨ab, cb, rfl, _⟩ := id hb
  have hlt := hb.lt
  refine c_enter (n := 34) Try.func73 rfl rfl rfl ?_
  refine q0 (l_p 1 tbOk rfl (q1 (q0 (l_p 1 tbOk rfl ?_))))
  refine l_cons (o_call fo101 rfl rfl rfl (eyeNum_spec _ _ B ye _ _ _ he hb hlow hB) ?_)
  rintro _ w1 ⟨rfl, bvw1, hew1, hbw1, uw1⟩
  have sw1 := uw1.stp he.inM hlow he.ge
  have frw1 := uw1.upd.2
  replace hU := hU.trans uw1
  replace hlow := sw1.low
  replace hB := Nat.le_trans hB sw1.upd.1
  replace he := hew1
  replace hb := hbw1
  obtain ⟨abw1, cbw1, rfl, _⟩ := id hb
  have hlt2 := hb.lt
  refine l_p 1 tbOk rfl (q1 (c_seq (q0 (l_p 4 tbOk rfl ?_))))
  refine l_cons (o_ld tbOk (he.cell 0 _ rfl) rfl rfl rfl rfl rfl ?_)
  refine l_cons (o_len tbOk hb rfl rfl rfl rfl rfl ?_)
  refine l_cons (o_conv (y := (((numE l bad).2.1.length : Nat) : Int)) tbOk rfl rfl rfl rfl rfl ((wrap_u64 _).trans (by rw [u64_nat (by omega)])) rfl rfl ?_)
  refine l_p 1 tbOk rfl (q1 ?_)
  refine c_ifP _ rfl (fun c1 => ?_) (fun c1 => ?_)
  · refine q0 (l_p 1 tbOk rfl ?_)
    refine l_cons (o_call fo102 rfl rfl rfl (eyeFail_spec _ _ B ye _ _ _ he hb hlow hB) ?_)
    rintro _ w2 ⟨rfl, bvw2, hew2, hbw2, uw2⟩
    have sw2 := uw2.stp he.inM hlow he.ge
    have frw2 := uw2.upd.2
    replace hU := hU.trans uw2
    replace hlow := sw2.low
    replace hB := Nat.le_trans hB sw2.upd.1
    replace he := hew2
    replace hb := hbw2
    obtain ⟨abw2, cbw2, rfl, _⟩ := id hb
    refine q1 (q0 (l_p 1 tbOk rfl (q1 (c_ret (x_seqR (x_ret1 rfl rfl ?_))))))
    unfold textE
    rw [if_pos (by omega)]
    exact ⟨rfl, _, he, hb, hU⟩
  refine c_skip (x_seq (q0 (l_p 3 tbOk rfl ?_)))
  refine l_cons (o_ld tbOk (he.cell 0 _ rfl) rfl rfl rfl rfl rfl ?_)
  refine l_p 1 tbOk rfl ?_
  refine l_cons (o_slh tbOk hb rfl rfl (j := (numE l bad).1) rfl (by omega) rfl rfl rfl rfl rfl ?_)
  intro bv2 hb2
  refine l_cons (o_b2s tbOk hb2 rfl rfl rfl rfl rfl rfl rfl rfl rfl ?_)
  refine l_p 1 tbOk rfl (q1 (q0 (l_p 4 tbOk rfl ?_)))
  refine l_cons (o_ld tbOk (he.cell 0 _ rfl) rfl rfl rfl rfl rfl ?_)
  refine l_p 1 tbOk rfl ?_
  refine l_cons (o_slt tbOk hb rfl rfl (j := (numE l bad).1) rfl (by omega) rfl rfl rfl rfl rfl rfl ?_)
  intro bv3 hb3
  obtain ⟨a3, c3, rfl, _⟩ := id hb3
  refine l_p 2 tbOk rfl ?_
  refine l_cons (o_st tbOk he.box rfl rfl rfl rfl (by intro u hu; simp [Value.cells] at hu; subst hu; rfl) rfl rfl ?_)
  intro w3 hw3 qw3 bew3
  have uw3 : UpdB _ _ _ := ⟨qw3, bew3⟩
  have sw3 := uw3.stp he.inM hlow he.ge
  have frw3 := qw3.2
  replace hU := hU.trans uw3
  replace hb := hb.stp sw3
  replace hb2 := hb2.stp sw3
  replace hb3 := hb3.stp sw3
  replace hlow := sw3.low
  replace hB := Nat.le_trans hB sw3.upd.1
  replace he : MB B _ w3 ye _ [.slice a3 ((numE l bad).2.1.drop (numE l bad).1).length c3, .bool (numE l bad).2.2] := ⟨hw3, he.inM, he.ge⟩
  refine q1 (q0 (l_p 2 tbOk rfl (q1 (c_ret (x_ret1 rfl rfl ?_)))))
  unfold textE
  rw [if_neg (by omega)]
  exact ⟨rfl, _, he, hb3, hU⟩

end Go.Proofs.Ytohfnpmehgpphaa
