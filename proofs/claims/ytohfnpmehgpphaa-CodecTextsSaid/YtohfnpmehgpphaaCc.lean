/- Walks: the document's numbers and texts as bytes. Printed by wip/walks/codec3.py. -/
import Derived.Test.YtohfnpmehgpphaaCb
namespace Go.Proofs.Ytohfnpmehgpphaa
open Go Rw Go.RowKit
set_option maxRecDepth 100000

/-- The document's Num. -/
theorem numR_own (n : Nat) (hn : n < 18446744073709551616) (B : Nat) (M : Nat → Prop) (w : World) (hlow : Low M w) (hB : B ≤ w.heap.size) :
    Calls Try.prog 72 #[.int .u64 (n : Int)] w (Ret fun r w' => ∃ M', OwnSl 5 B M' w' r (numY n) ∧ Stp B M M' w w') := by
  induction n using Nat.strongRecOn generalizing B M w with
  | ind n ih =>
  have hT : Stp B M M w w := Stp.refl hlow
  have hbn := numY_len (n / 128)
  refine c_enter (n := 17) Try.func72 rfl rfl rfl ?_
  refine q0 (l_p 1 tbOk rfl (q1 (c_seq (q0 (l_p 2 tbOk rfl (q1 ?_))))))
  refine c_ifP _ rfl (fun hc => ?_) (fun hc => ?_)
  · refine q0 (l_p 1 tbOk rfl ?_)
    refine l_cons (o_conv (y := ((UInt8.ofNat n).toNat : Int)) tbOk rfl rfl rfl rfl rfl (by rw [wrap_u8, UInt8.toNat_ofNat']) rfl rfl ?_)
    refine l_cons (o_bs tbOk rfl rfl rfl rfl rfl rfl rfl (sz1 rfl) rfl rfl rfl ?_)
    intro bw1 w1 qbw1 ew1 hbw1
    have sw1 := Stp.add ew1 hlow hB (Nat.le_of_eq qbw1.symm) hbw1.lt
    have le_bw1 := hB
    replace hT := hT.then sw1
    replace hlow := sw1.low
    replace hB := Nat.le_trans hB sw1.upd.1
    have ho := own_litS sw1 hbw1 (show Rs _ _ [_] [UInt8.ofNat n] from ⟨rfl, trivial⟩) qbw1 le_bw1 (by simp [maxLen])
    refine l_p 1 tbOk rfl (q1 (c_ret (x_seqR (x_ret1 rfl rfl ?_))))
    refine ⟨_, ?_, hT⟩
    rw [numY_small (by omega)]; exact ho
  refine c_skip (x_seq (q0 (l_p 1 tbOk rfl ?_)))
  refine l_cons (o_rem128 rfl rfl rfl rfl ?_)
  refine l_cons (o_ar rfl rfl rfl (z := (128 : Int) + ((n % 128 : Nat) : Int)) (IntWalk.u64_in _ (by omega)) rfl rfl ?_)
  refine l_cons (o_conv (y := ((UInt8.ofNat (128 + n % 128)).toNat : Int)) tbOk rfl rfl rfl rfl rfl (by rw [show (128 : Int) + ((n % 128 : Nat) : Int) = ((128 + n % 128 : Nat) : Int) by omega, wrap_u8, UInt8.toNat_ofNat']) rfl rfl ?_)
  refine l_cons (o_bs tbOk rfl rfl rfl rfl rfl rfl rfl (sz1 rfl) rfl rfl rfl ?_)
  intro bw2 w2 qbw2 ew2 hbw2
  have sw2 := Stp.add ew2 hlow hB (Nat.le_of_eq qbw2.symm) hbw2.lt
  have le_bw2 := hB
  replace hT := hT.then sw2
  replace hlow := sw2.low
  replace hB := Nat.le_trans hB sw2.upd.1
  have ho := own_litS sw2 hbw2 (show Rs _ _ [_] [UInt8.ofNat (128 + n % 128)] from ⟨rfl, trivial⟩) qbw2 le_bw2 (by simp [maxLen])
  refine l_p 1 tbOk rfl ?_
  refine l_cons (o_quo128 rfl rfl (by simpa using hn) rfl rfl ?_)
  refine l_cons (o_call fo72 rfl rfl rfl ((ih (n / 128) (by omega) (by omega) _ _ _ hlow (Nat.le_refl _)).mono (Ret.mono fun r w' h => (show Sl (Rw.Add M bw2) w' r (numY (n / 128)) ∧ Ext _ w' from let ⟨_, h1, h2⟩ := h; ⟨h1.sl (by omega) hlow h2.sub, h2.below⟩))) ?_)
  rintro vr w3 ⟨hr, ew3⟩
  replace hT := hT.then (Stp.ext ew3 hlow hB)
  replace ho := ho.ext hlow hB ew3
  replace hlow := hlow.ext ew3
  replace hB := Nat.le_trans hB ew3.size
  refine l_cons (o_app tbOk ho hr hlow hB rfl rfl rfl rfl rfl rfl rfl (by simp; omega) (by show (_ + _) * 1 ≤ _; simp; omega) rfl rfl ?_)
  intro vw4 w4 Mw4 hw4 sw4 frw4 blw4
  replace hT := hT.then sw4
  replace hr := hr.stp sw4
  replace hlow := sw4.low
  replace hB := Nat.le_trans hB sw4.upd.1
  replace ho := hw4
  clear hw4
  refine l_p 1 tbOk rfl (q1 (c_ret (x_ret1 rfl rfl ?_)))
  refine ⟨_, ?_, hT⟩
  rw [numY_step (by omega) hn]; exact ho

/-- The document's Text. -/
theorem textR_spec (s : ByteArray) (hs : s.size ≤ 999999999000) (M : Nat → Prop) (w : World) (hlow0 : Low M w) :
    Calls Try.prog 30 #[.string s] w (Ret fun r w' => Sl M w' r (textB s) ∧ Ext w w') := by
  have hlow := hlow0
  have hB : w.heap.size ≤ w.heap.size := Nat.le_refl _
  have hE : Below w.heap.size w w := Below.refl _ _
  have hsub : ∀ b, M b → M b := fun _ h => h
  have hbn := numY_len s.size
  refine c_enter (n := 9) Try.func30 rfl rfl rfl ?_
  refine q0 (l_p 1 tbOk rfl (q1 (q0 (l_p 2 tbOk rfl ?_))))
  refine l_cons (o_conv (y := ((s.size : Nat) : Int)) tbOk rfl rfl rfl rfl rfl ((wrap_u64 _).trans (by rw [u64_nat (by omega)])) rfl rfl ?_)
  refine l_cons (o_call fo72 rfl rfl rfl (numR_own s.size (by omega) w.heap.size _ _ hlow hB) ?_)
  rintro wv w1 ⟨M0, ho, sw1⟩
  replace hE := hE.trans sw1.below
  replace hsub := fun b h => sw1.sub b (hsub b h)
  replace hlow := sw1.low
  replace hB := Nat.le_trans hB sw1.upd.1
  refine l_p 1 tbOk rfl ?_
  refine l_cons (o_appS tbOk ho hlow hB rfl rfl rfl rfl rfl rfl rfl rfl rfl (by simp; omega) (by show (_ + _) * 1 ≤ _; simp; omega) rfl rfl ?_)
  intro vw2 w2 Mw2 hw2 sw2 frw2 blw2
  replace hE := hE.trans sw2.below
  replace hsub := fun b h => sw2.sub b (hsub b h)
  replace hlow := sw2.low
  replace hB := Nat.le_trans hB sw2.upd.1
  replace ho := hw2
  clear hw2
  refine l_p 1 tbOk rfl (q1 (c_ret (x_ret1 rfl rfl ?_)))
  have := textB_len s
  exact ⟨ho.sl (by show (textB s).length < _; omega) hlow0 hsub, hE⟩

def takR (p : Nat) : Option (Nat × Nat) → Value
  | none => .tuple #[.int .u64 0, .int .i64 (-1)]
  | some (m, q) => .tuple #[.int .u64 (m : Int), .int .i64 ((p + q : Nat) : Int)]
/-- takeNum: a number at a place, and the place behind it. -/
theorem takeNum_spec (l : List UInt8) (p : Nat) (hp : p ≤ l.length) (M : Nat → Prop) (w : World) (v : Value) (hs : Sl M w v l) :
    Calls Try.prog 74 #[v, .int .i64 (p : Int)] w (Ret fun r w' => r = takR p (tkN (l.drop p)) ∧ w = w') := by
  have hlt := hs.lt
  obtain ⟨k, hk⟩ : ∃ k, l.drop p = k := ⟨_, rfl⟩
  have hkl : k.length = l.length - p := by rw [← hk, List.length_drop]
  have hkg : ∀ j : Nat, k[j]? = l[p + j]? := fun j => by rw [← hk, List.getElem?_drop]
  have hge : ∀ (j : Nat) (h1 : j < k.length) (h2 : p + j < l.length), k[j] = l[p + j] := fun j h1 h2 => by have := hkg j; rwa [List.getElem?_eq_getElem h1, List.getElem?_eq_getElem h2, Option.some.injEq] at this
  have hle := lead_le k
  rw [hk]
  refine c_enter (n := 73) Try.func74 rfl rfl rfl ?_
  refine q0 (l_p 2 tbOk rfl (q1 (q0 (l_p 2 tbOk rfl (q1 ?_)))))
  refine c_cut (X := Nat) (fun d => [(0, v), (1, .int .i64 (p : Int)), (6, .int .i64 ((p + d : Nat) : Int))]) (fun d w' => d = lead k ∧ w = w') ?_ ?_
  · refine c_blk ?_
    refine c_loop (X := Nat) (fun d => [(0, v), (1, .int .i64 (p : Int)), (6, .int .i64 ((p + d : Nat) : Int))]) (fun d w' => d ≤ lead k ∧ w = w') (fun d => k.length - d) (0) (s3 rfl rfl rfl) ?_ ?_
    · exact ⟨Nat.zero_le _, rfl⟩
    rintro d _ ⟨hd, rfl⟩
    refine c_seq (q0 (l_p 2 tbOk rfl ?_))
    refine l_cons (o_len tbOk hs rfl rfl rfl rfl rfl ?_)
    refine l_p 2 tbOk rfl ?_
    refine l_splitP 14 _ rfl (fun c1 => ?_) (fun c1 => ?_)
    · refine l_p 2 tbOk rfl ?_
      have hil : p + d < l.length := by omega
      refine l_cons (o_ixS tbOk hs (List.getElem?_eq_getElem hil) rfl rfl rfl rfl rfl rfl rfl rfl rfl ?_)
      intro ebz2 eoz2 euz2 hrz2 hatz2
      replace hrz2 : euz2 = .int .u8 (l[p + d]).toNat := hrz2
      subst hrz2
      refine l_cons (o_ld tbOk (hatz2.cell 0 _ rfl) rfl rfl rfl rfl rfl ?_)
      refine l_p 2 tbOk rfl (q1 ?_)
      refine c_ifP _ rfl (fun c3 => ?_) (fun c3 => ?_)
      · refine c_skip (x_seq (c_blk (c_reg (l_p 1 tbOk rfl ?_))))
        refine l_cons (o_ar rfl rfl rfl (IntWalk.i64_in _ (by omega)) rfl rfl ?_)
        refine l_p 1 tbOk rfl (q2 ?_)
        exact x_round (d + 1) (s3 rfl rfl (get_num rfl (by omega))) ⟨by
          have h1 : d < k.length := by omega
          have h2 := hge d h1 hil
          by_cases h : d = lead k
          · have h3 := lead_stop (l := k) (by omega)
            have h4 : k[lead k]'(by omega) = k[d] := by congr 1; exact h.symm
            rw [h4, h2] at h3; omega
          · omega, rfl⟩ (by omega)
      refine c_exit (x_seqE (x_seqE (x_blkE ?_)))
      exact x_cut (d) (s3 rfl rfl rfl) ⟨by
        by_cases h : d < k.length
        · have hil : p + d < l.length := by omega
          have h2 := hge d h hil
          by_cases h3 : d < lead k
          · have := lead_go h3 h; rw [h2] at this; omega
          · omega
        · omega, rfl⟩
    refine l_p 6 tbOk rfl (q1 (c_ifF rfl (c_exit (x_seqE (x_seqE (x_blkE ?_))))))
    exact x_cut (d) (s3 rfl rfl rfl) ⟨by
      by_cases h : d < k.length
      · have hil : p + d < l.length := by omega
        have h2 := hge d h hil
        by_cases h3 : d < lead k
        · have := lead_go h3 h; rw [h2] at this; omega
        · omega
      · omega, rfl⟩
  rintro d _ ⟨rfl, rfl⟩
  refine c_seq (q0 (l_p 2 tbOk rfl ?_))
  refine l_cons (o_len tbOk hs rfl rfl rfl rfl rfl ?_)
  refine l_p 2 tbOk rfl ?_
  refine l_splitP 27 _ rfl (fun c4 => ?_) (fun c4 => ?_)
  · refine l_p 17 tbOk rfl (q1 (c_ifT rfl (q0 (l_p 2 tbOk rfl (q1 (c_ret (x_seqR (x_ret2 rfl rfl rfl ?_))))))))
    have hz : ∀ c : UInt8, (c.toNat : Int) = 0 → c = 0 := fun c h => UInt8.toNat_inj.1 (by show c.toNat = 0; omega)
    refine ⟨?_, rfl⟩
    rw [show tkN k = none from if_pos (by first | exact .inl (by omega) | exact .inr (.inl (by omega)) | exact .inr (.inr ⟨by rw [hgd]; exact hz _ (by assumption), by omega⟩))]; rfl
  refine l_p 2 tbOk rfl ?_
  refine l_cons (o_ar rfl rfl rfl (IntWalk.i64_in _ (by omega)) rfl rfl ?_)
  refine l_p 3 tbOk rfl ?_
  refine l_splitP 33 _ rfl (fun c5 => ?_) (fun c5 => ?_)
  · refine l_p 11 tbOk rfl (q1 (c_ifT rfl (q0 (l_p 2 tbOk rfl (q1 (c_ret (x_seqR (x_ret2 rfl rfl rfl ?_))))))))
    have hz : ∀ c : UInt8, (c.toNat : Int) = 0 → c = 0 := fun c h => UInt8.toNat_inj.1 (by show c.toNat = 0; omega)
    refine ⟨?_, rfl⟩
    rw [show tkN k = none from if_pos (by first | exact .inl (by omega) | exact .inr (.inl (by omega)) | exact .inr (.inr ⟨by rw [hgd]; exact hz _ (by assumption), by omega⟩))]; rfl
  refine l_p 2 tbOk rfl ?_
  have hil : p + lead k < l.length := by omega
  have h8 : lead k ≤ 8 := by omega
  have hlk : lead k < k.length := by omega
  have hge2 := hge (lead k) hlk hil
  have hgd : (k[lead k]?).getD 1 = l[p + lead k] := by rw [List.getElem?_eq_getElem hlk, Option.getD_some, hge2]
  refine l_cons (o_ixS tbOk hs (List.getElem?_eq_getElem hil) rfl rfl rfl rfl rfl rfl rfl rfl rfl ?_)
  intro ebz6 eoz6 euz6 hrz6 hatz6
  replace hrz6 : euz6 = .int .u8 (l[p + lead k]).toNat := hrz6
  subst hrz6
  refine l_cons (o_ld tbOk (hatz6.cell 0 _ rfl) rfl rfl rfl rfl rfl ?_)
  refine l_p 2 tbOk rfl ?_
  refine l_splitP 39 _ rfl (fun c7 => ?_) (fun c7 => ?_)
  · refine l_p 5 tbOk rfl (q1 ?_)
    refine c_ifP _ rfl (fun c8 => ?_) (fun c8 => ?_)
    · refine q0 (l_p 2 tbOk rfl (q1 (c_ret (x_seqR (x_ret2 rfl rfl rfl ?_)))))
      have hz : ∀ c : UInt8, (c.toNat : Int) = 0 → c = 0 := fun c h => UInt8.toNat_inj.1 (by show c.toNat = 0; omega)
      refine ⟨?_, rfl⟩
      rw [show tkN k = none from if_pos (by first | exact .inl (by omega) | exact .inr (.inl (by omega)) | exact .inr (.inr ⟨by rw [hgd]; exact hz _ (by assumption), by omega⟩))]; rfl
    refine c_skip (x_seq (q0 (l_p 1 tbOk rfl (q1 (c_seq (q0 (l_p 2 tbOk rfl (q1 (c_blk ?_)))))))))
    have htl : (k.take (lead k + 1)).length ≤ 9 := by rw [List.length_take]; omega
    have hok : ¬ (k.length ≤ lead k ∨ 8 < lead k ∨ ((k[lead k]?).getD 1 = 0 ∧ 0 < lead k)) := by
      rintro (h | h | ⟨h, h'⟩)
      · omega
      · omega
      · rw [hgd] at h
        have h3 : (l[p + lead k]).toNat = 0 := by rw [h]; rfl
        omega
    have hlt2 : (k.take (lead k + 1)).length = lead k + 1 := by rw [List.length_take]; omega
    refine c_loop (X := Nat) (fun c => [(0, v), (1, .int .i64 (p : Int)), (6, .int .i64 ((p + lead k : Nat) : Int)), (7, .int .u64 (numV ((k.take (lead k + 1)).drop c) : Nat)), (8, .int .i64 (((p + c : Nat) : Int) - 1))]) (fun c w' => c ≤ lead k + 1 ∧ w = w') (fun c => c) (lead k + 1) (s5 rfl rfl rfl (get_num rfl (by rw [List.drop_eq_nil_of_le (by rw [List.length_take]; omega)]; rfl)) (get_num rfl (by omega))) ?_ ?_
    · exact ⟨Nat.le_refl _, rfl⟩
    rintro c _ ⟨hc, rfl⟩
    have hsm := numV_small (c := c) htl
    refine c_seq (q0 (l_p 3 tbOk rfl (q1 ?_)))
    refine c_ifP _ rfl (fun c9 => ?_) (fun c9 => ?_)
    · refine c_skip (x_seq (c_seq (c_blk (c_seq (q0 (l_p 2 tbOk rfl ?_))))))
      have hc0 : c - 1 < k.length := by omega
      have hil2 : p + (c - 1) < l.length := by omega
      have hge3 := hge (c - 1) hc0 hil2
      have hvb := numV_back (l := k.take (lead k + 1)) (c := c - 1) (by omega)
      rw [List.getElem_take, hge3, show c - 1 + 1 = c by omega] at hvb
      have hsm2 := numV_small (c := c - 1) htl
      refine l_cons (o_ixS tbOk hs (List.getElem?_eq_getElem hil2) rfl rfl (by omega) rfl rfl rfl rfl rfl rfl ?_)
      intro ebz10 eoz10 euz10 hrz10 hatz10
      replace hrz10 : euz10 = .int .u8 (l[p + (c - 1)]).toNat := hrz10
      subst hrz10
      refine l_cons (o_ld tbOk (hatz10.cell 0 _ rfl) rfl rfl rfl rfl rfl ?_)
      refine l_p 2 tbOk rfl ?_
      refine l_splitP 56 _ rfl (fun c11 => ?_) (fun c11 => ?_)
      · refine l_p 4 tbOk rfl (q1 ?_)
        refine c_ifP _ rfl (fun c12 => ?_) (fun c12 => ?_)
        · refine q0 (l_p 2 tbOk rfl (q1 (c_ret (x_seqR (x_blkR (x_seqR (x_seqR (x_blkR (x_seqR (x_ret2 rfl rfl rfl ?_))))))))))
          exfalso
          by_cases h : c - 1 < lead k
          · have h6 := lead_go h hc0; rw [hge3] at h6; omega
          · have he : c - 1 = lead k := by omega
            have h5 : (l[p + (c - 1)]'hil2).toNat = l[p + lead k].toNat := by simp only [he]
            omega
        refine c_skip (x_seq (c_reg (l_p 1 tbOk rfl ?_)))
        refine l_cons (o_ar rfl rfl rfl (IntWalk.u64_in _ (by omega)) rfl rfl ?_)
        refine l_p 2 tbOk rfl ?_
        refine l_cons (o_ixS tbOk hs (List.getElem?_eq_getElem hil2) rfl rfl (by omega) rfl rfl rfl rfl rfl rfl ?_)
        intro ebz13 eoz13 euz13 hrz13 hatz13
        replace hrz13 : euz13 = .int .u8 (l[p + (c - 1)]).toNat := hrz13
        subst hrz13
        refine l_cons (o_ld tbOk (hatz13.cell 0 _ rfl) rfl rfl rfl rfl rfl ?_)
        refine l_cons (o_rem128 rfl rfl rfl rfl ?_)
        refine l_cons (o_conv (y := (((l[p + (c - 1)]'hil2).toNat % 128 : Nat) : Int)) tbOk rfl rfl rfl rfl rfl ((wrap_u64 _).trans (by rw [u64_nat (by omega)])) rfl rfl ?_)
        refine l_cons (o_ar rfl rfl rfl (IntWalk.u64_in _ (by omega)) rfl rfl ?_)
        refine l_p 1 tbOk rfl (q2 (x_seq (c_reg (l_p 1 tbOk rfl ?_))))
        refine l_cons (o_ar rfl rfl rfl (IntWalk.i64_in _ (by omega)) rfl rfl ?_)
        refine l_p 1 tbOk rfl (l_nil ?_)
        exact x_round (c - 1) (s5 rfl rfl rfl (get_num rfl (by rw [hvb]; omega)) (get_num rfl (by omega))) ⟨by omega, rfl⟩ (by omega)
      refine l_p 4 tbOk rfl (q1 (c_ifF rfl (c_skip (x_seq (c_reg (l_p 1 tbOk rfl ?_))))))
      refine l_cons (o_ar rfl rfl rfl (IntWalk.u64_in _ (by omega)) rfl rfl ?_)
      refine l_p 2 tbOk rfl ?_
      refine l_cons (o_ixS tbOk hs (List.getElem?_eq_getElem hil2) rfl rfl (by omega) rfl rfl rfl rfl rfl rfl ?_)
      intro ebz14 eoz14 euz14 hrz14 hatz14
      replace hrz14 : euz14 = .int .u8 (l[p + (c - 1)]).toNat := hrz14
      subst hrz14
      refine l_cons (o_ld tbOk (hatz14.cell 0 _ rfl) rfl rfl rfl rfl rfl ?_)
      refine l_cons (o_rem128 rfl rfl rfl rfl ?_)
      refine l_cons (o_conv (y := (((l[p + (c - 1)]'hil2).toNat % 128 : Nat) : Int)) tbOk rfl rfl rfl rfl rfl ((wrap_u64 _).trans (by rw [u64_nat (by omega)])) rfl rfl ?_)
      refine l_cons (o_ar rfl rfl rfl (IntWalk.u64_in _ (by omega)) rfl rfl ?_)
      refine l_p 1 tbOk rfl (q2 (x_seq (c_reg (l_p 1 tbOk rfl ?_))))
      refine l_cons (o_ar rfl rfl rfl (IntWalk.i64_in _ (by omega)) rfl rfl ?_)
      refine l_p 1 tbOk rfl (l_nil ?_)
      exact x_round (c - 1) (s5 rfl rfl rfl (get_num rfl (by rw [hvb]; omega)) (get_num rfl (by omega))) ⟨by omega, rfl⟩ (by omega)
    refine c_exit (x_seqE (x_seqE (x_blkE (x_seq (q0 (l_p 2 tbOk rfl ?_))))))
    refine l_cons (o_ar rfl rfl rfl (IntWalk.i64_in _ (by omega)) rfl rfl ?_)
    refine l_p 2 tbOk rfl (q1 (c_ret (x_ret2 rfl rfl rfl ?_)))
    obtain rfl : c = 0 := by omega
    refine ⟨?_, rfl⟩
    rw [show tkN k = some (numV (k.take (lead k + 1)), lead k + 1) from if_neg hok]; show Value.tuple _ = Value.tuple _
    rw [List.drop_zero]; congr 3 <;> omega
  refine l_p 5 tbOk rfl (q1 (c_ifF rfl (c_skip (x_seq (q0 (l_p 1 tbOk rfl (q1 (c_seq (q0 (l_p 2 tbOk rfl (q1 (c_blk ?_))))))))))))
  have htl : (k.take (lead k + 1)).length ≤ 9 := by rw [List.length_take]; omega
  have hok : ¬ (k.length ≤ lead k ∨ 8 < lead k ∨ ((k[lead k]?).getD 1 = 0 ∧ 0 < lead k)) := by
    rintro (h | h | ⟨h, h'⟩)
    · omega
    · omega
    · rw [hgd] at h
      have h3 : (l[p + lead k]).toNat = 0 := by rw [h]; rfl
      omega
  have hlt2 : (k.take (lead k + 1)).length = lead k + 1 := by rw [List.length_take]; omega
  refine c_loop (X := Nat) (fun c => [(0, v), (1, .int .i64 (p : Int)), (6, .int .i64 ((p + lead k : Nat) : Int)), (7, .int .u64 (numV ((k.take (lead k + 1)).drop c) : Nat)), (8, .int .i64 (((p + c : Nat) : Int) - 1))]) (fun c w' => c ≤ lead k + 1 ∧ w = w') (fun c => c) (lead k + 1) (s5 rfl rfl rfl (get_num rfl (by rw [List.drop_eq_nil_of_le (by rw [List.length_take]; omega)]; rfl)) (get_num rfl (by omega))) ?_ ?_
  · exact ⟨Nat.le_refl _, rfl⟩
  rintro c _ ⟨hc, rfl⟩
  have hsm := numV_small (c := c) htl
  refine c_seq (q0 (l_p 3 tbOk rfl (q1 ?_)))
  refine c_ifP _ rfl (fun c15 => ?_) (fun c15 => ?_)
  · refine c_skip (x_seq (c_seq (c_blk (c_seq (q0 (l_p 2 tbOk rfl ?_))))))
    have hc0 : c - 1 < k.length := by omega
    have hil2 : p + (c - 1) < l.length := by omega
    have hge3 := hge (c - 1) hc0 hil2
    have hvb := numV_back (l := k.take (lead k + 1)) (c := c - 1) (by omega)
    rw [List.getElem_take, hge3, show c - 1 + 1 = c by omega] at hvb
    have hsm2 := numV_small (c := c - 1) htl
    refine l_cons (o_ixS tbOk hs (List.getElem?_eq_getElem hil2) rfl rfl (by omega) rfl rfl rfl rfl rfl rfl ?_)
    intro ebz16 eoz16 euz16 hrz16 hatz16
    replace hrz16 : euz16 = .int .u8 (l[p + (c - 1)]).toNat := hrz16
    subst hrz16
    refine l_cons (o_ld tbOk (hatz16.cell 0 _ rfl) rfl rfl rfl rfl rfl ?_)
    refine l_p 2 tbOk rfl ?_
    refine l_splitP 56 _ rfl (fun c17 => ?_) (fun c17 => ?_)
    · refine l_p 4 tbOk rfl (q1 ?_)
      refine c_ifP _ rfl (fun c18 => ?_) (fun c18 => ?_)
      · refine q0 (l_p 2 tbOk rfl (q1 (c_ret (x_seqR (x_blkR (x_seqR (x_seqR (x_blkR (x_seqR (x_ret2 rfl rfl rfl ?_))))))))))
        exfalso
        by_cases h : c - 1 < lead k
        · have h6 := lead_go h hc0; rw [hge3] at h6; omega
        · have he : c - 1 = lead k := by omega
          have h5 : (l[p + (c - 1)]'hil2).toNat = l[p + lead k].toNat := by simp only [he]
          omega
      refine c_skip (x_seq (c_reg (l_p 1 tbOk rfl ?_)))
      refine l_cons (o_ar rfl rfl rfl (IntWalk.u64_in _ (by omega)) rfl rfl ?_)
      refine l_p 2 tbOk rfl ?_
      refine l_cons (o_ixS tbOk hs (List.getElem?_eq_getElem hil2) rfl rfl (by omega) rfl rfl rfl rfl rfl rfl ?_)
      intro ebz19 eoz19 euz19 hrz19 hatz19
      replace hrz19 : euz19 = .int .u8 (l[p + (c - 1)]).toNat := hrz19
      subst hrz19
      refine l_cons (o_ld tbOk (hatz19.cell 0 _ rfl) rfl rfl rfl rfl rfl ?_)
      refine l_cons (o_rem128 rfl rfl rfl rfl ?_)
      refine l_cons (o_conv (y := (((l[p + (c - 1)]'hil2).toNat % 128 : Nat) : Int)) tbOk rfl rfl rfl rfl rfl ((wrap_u64 _).trans (by rw [u64_nat (by omega)])) rfl rfl ?_)
      refine l_cons (o_ar rfl rfl rfl (IntWalk.u64_in _ (by omega)) rfl rfl ?_)
      refine l_p 1 tbOk rfl (q2 (x_seq (c_reg (l_p 1 tbOk rfl ?_))))
      refine l_cons (o_ar rfl rfl rfl (IntWalk.i64_in _ (by omega)) rfl rfl ?_)
      refine l_p 1 tbOk rfl (l_nil ?_)
      exact x_round (c - 1) (s5 rfl rfl rfl (get_num rfl (by rw [hvb]; omega)) (get_num rfl (by omega))) ⟨by omega, rfl⟩ (by omega)
    refine l_p 4 tbOk rfl (q1 (c_ifF rfl (c_skip (x_seq (c_reg (l_p 1 tbOk rfl ?_))))))
    refine l_cons (o_ar rfl rfl rfl (IntWalk.u64_in _ (by omega)) rfl rfl ?_)
    refine l_p 2 tbOk rfl ?_
    refine l_cons (o_ixS tbOk hs (List.getElem?_eq_getElem hil2) rfl rfl (by omega) rfl rfl rfl rfl rfl rfl ?_)
    intro ebz20 eoz20 euz20 hrz20 hatz20
    replace hrz20 : euz20 = .int .u8 (l[p + (c - 1)]).toNat := hrz20
    subst hrz20
    refine l_cons (o_ld tbOk (hatz20.cell 0 _ rfl) rfl rfl rfl rfl rfl ?_)
    refine l_cons (o_rem128 rfl rfl rfl rfl ?_)
    refine l_cons (o_conv (y := (((l[p + (c - 1)]'hil2).toNat % 128 : Nat) : Int)) tbOk rfl rfl rfl rfl rfl ((wrap_u64 _).trans (by rw [u64_nat (by omega)])) rfl rfl ?_)
    refine l_cons (o_ar rfl rfl rfl (IntWalk.u64_in _ (by omega)) rfl rfl ?_)
    refine l_p 1 tbOk rfl (q2 (x_seq (c_reg (l_p 1 tbOk rfl ?_))))
    refine l_cons (o_ar rfl rfl rfl (IntWalk.i64_in _ (by omega)) rfl rfl ?_)
    refine l_p 1 tbOk rfl (l_nil ?_)
    exact x_round (c - 1) (s5 rfl rfl rfl (get_num rfl (by rw [hvb]; omega)) (get_num rfl (by omega))) ⟨by omega, rfl⟩ (by omega)
  refine c_exit (x_seqE (x_seqE (x_blkE (x_seq (q0 (l_p 2 tbOk rfl ?_))))))
  refine l_cons (o_ar rfl rfl rfl (IntWalk.i64_in _ (by omega)) rfl rfl ?_)
  refine l_p 2 tbOk rfl (q1 (c_ret (x_ret2 rfl rfl rfl ?_)))
  obtain rfl : c = 0 := by omega
  refine ⟨?_, rfl⟩
  rw [show tkN k = some (numV (k.take (lead k + 1)), lead k + 1) from if_neg hok]; show Value.tuple _ = Value.tuple _
  rw [List.drop_zero]; congr 3 <;> omega

def takS (p : Nat) : Option (ByteArray × Nat) → Value
  | none => .tuple #[.string ⟨#[]⟩, .int .i64 (-1)]
  | some (s, q) => .tuple #[.string s, .int .i64 ((p + q : Nat) : Int)]
/-- TakeText: a text at a place, and the place behind it. -/
theorem takeText_spec (l : List UInt8) (p : Nat) (hp : p ≤ l.length) (M : Nat → Prop) (w : World) (v : Value) (hs : Sl M w v l) :
    Calls Try.prog 32 #[v, .int .i64 (p : Int)] w (Ret fun r w' => r = takS p (tkT (l.drop p)) ∧ w = w') := by
  have hlt := hs.lt
  obtain ⟨k, hk⟩ : ∃ k, l.drop p = k := ⟨_, rfl⟩
  have hkl : k.length = l.length - p := by rw [← hk, List.length_drop]
  have hc := takeNum_spec l p hp M w v hs
  rw [hk] at hc ⊢
  cases hq : tkN k with
  | none =>
    rw [hq] at hc
    refine c_enter (n := 37) Try.func32 rfl rfl rfl ?_
    refine q0 (l_p 2 tbOk rfl (q1 (q0 (l_p 2 tbOk rfl ?_))))
    refine l_cons (o_call fo74 rfl rfl rfl (hc) ?_)
    rintro _ _ ⟨rfl, rfl⟩
    refine l_p 5 tbOk rfl (q1 (c_seq (q0 (l_p 11 tbOk rfl (q1 (c_ifT rfl (q0 (l_p 2 tbOk rfl (q1 (c_ret (x_seqR (x_ret2 rfl rfl rfl ?_))))))))))))
    exact ⟨by unfold tkT; rw [hq]; rfl, rfl⟩
  | some z =>
    obtain ⟨m, q⟩ := z
    obtain ⟨hql, hm⟩ := tkN_le hq
    rw [hq] at hc
    refine c_enter (n := 37) Try.func32 rfl rfl rfl ?_
    refine q0 (l_p 2 tbOk rfl (q1 (q0 (l_p 2 tbOk rfl ?_))))
    refine l_cons (o_call fo74 rfl rfl rfl (hc) ?_)
    rintro _ _ ⟨rfl, rfl⟩
    refine l_p 5 tbOk rfl (q1 (c_seq (q0 (l_p 3 tbOk rfl ?_))))
    refine l_splitP 16 _ rfl (fun c1 => ?_) (fun c1 => ?_)
    · exact absurd c1 (by omega)
    refine l_p 2 tbOk rfl ?_
    refine l_cons (o_len tbOk hs rfl rfl rfl rfl rfl ?_)
    refine l_p 1 tbOk rfl ?_
    refine l_cons (o_ar rfl rfl rfl (IntWalk.i64_in _ (by omega)) rfl rfl ?_)
    refine l_cons (o_conv (y := ((l.length - (p + q) : Nat) : Int)) tbOk rfl rfl rfl rfl rfl ((wrap_u64 _).trans (by rw [show (l.length : Int) - ((p + q : Nat) : Int) = ((l.length - (p + q) : Nat) : Int) by omega, u64_nat (by omega)])) rfl rfl ?_)
    refine l_p 2 tbOk rfl (q1 ?_)
    refine c_ifP _ rfl (fun hc2 => ?_) (fun hc2 => ?_)
    · refine q0 (l_p 2 tbOk rfl (q1 (c_ret (x_seqR (x_ret2 rfl rfl rfl ?_)))))
      exact ⟨by unfold tkT; rw [hq]; simp only; rw [if_pos (by omega)]; rfl, rfl⟩
    refine c_skip (x_seq (q0 (l_p 4 tbOk rfl ?_)))
    refine l_cons (o_conv (y := (m : Int)) tbOk rfl rfl rfl rfl rfl (IntWalk.i64_in _ (by omega)) rfl rfl ?_)
    refine l_cons (o_ar rfl rfl rfl (IntWalk.i64_in _ (by omega)) rfl rfl ?_)
    refine l_cons (o_slw tbOk hs rfl rfl rfl rfl (i := p + q + m) (by omega) (by omega) (by omega) rfl rfl rfl rfl rfl rfl ?_)
    intro bv2 hb2
    refine l_cons (o_b2s tbOk hb2 rfl rfl rfl rfl rfl rfl rfl rfl rfl ?_)
    refine l_p 2 tbOk rfl ?_
    refine l_cons (o_conv (y := (m : Int)) tbOk rfl rfl rfl rfl rfl (IntWalk.i64_in _ (by omega)) rfl rfl ?_)
    refine l_cons (o_ar rfl rfl rfl (IntWalk.i64_in _ (by omega)) rfl rfl ?_)
    refine l_p 2 tbOk rfl (q1 (c_ret (x_ret2 rfl rfl rfl ?_)))
    refine ⟨?_, rfl⟩
    unfold tkT; rw [hq]; simp only; rw [if_neg (by omega), ← hk, List.drop_drop]
    show Value.tuple #[_, _] = Value.tuple #[_, _]
    rw [List.take_drop, show ((p + q : Nat) : Int) + (m : Int) = ((p + (q + m) : Nat) : Int) by omega]

/-- Same: the same bytes? -/
theorem sameB_spec (l k : List UInt8) (M : Nat → Prop) (w : World) (v u : Value) (hs : Sl M w v l) (hk : Sl M w u k) :
    Calls Try.prog 29 #[v, u] w (Ret fun r w' => r = .bool (decide (l = k)) ∧ Ext w w') := by
  have hE : Below w.heap.size w w := Below.refl _ _
  have hB : w.heap.size ≤ w.heap.size := Nat.le_refl _
  have hlt := hs.lt
  have hkt := hk.lt
  refine c_enter (n := 26) Try.func29 rfl rfl rfl ?_
  refine q0 (l_p 1 tbOk rfl (q1 (c_seq (q0 (l_p 1 tbOk rfl ?_)))))
  refine l_cons (o_len tbOk hs rfl rfl rfl rfl rfl ?_)
  refine l_p 1 tbOk rfl ?_
  refine l_cons (o_len tbOk hk rfl rfl rfl rfl rfl ?_)
  refine l_p 1 tbOk rfl (q1 ?_)
  refine c_ifN _ rfl (fun c1 => ?_) (fun c1 => ?_)
  · refine q0 (l_p 1 tbOk rfl (q1 (c_ret (x_seqR (x_ret1 rfl rfl ?_)))))
    exact ⟨by rw [decide_eq_false (fun e : l = k => by subst e; omega)], hE⟩
  refine c_skip (x_seq (c_seq (q0 (l_p 1 tbOk rfl (q1 (c_blk ?_))))))
  have hll : l.length = k.length := by omega
  refine c_loop (X := Nat) (fun i => [(0, v), (1, u), (5, .int .i64 (i : Nat))]) (fun i w' => i ≤ l.length ∧ l.take i = k.take i ∧ Sl M w' v l ∧ Sl M w' u k ∧ Below w.heap.size w w' ∧ w.heap.size ≤ w'.heap.size) (fun i => l.length - i) (0) (s3 rfl rfl rfl) ?_ ?_
  · exact ⟨Nat.zero_le _, rfl, hs, hk, hE, hB⟩
  rintro i w1 ⟨hi, htk, hs, hk, hE, hB⟩
  refine c_seq (q0 (l_p 2 tbOk rfl ?_))
  refine l_cons (o_len tbOk hs rfl rfl rfl rfl rfl ?_)
  refine l_p 1 tbOk rfl (q1 ?_)
  refine c_ifP _ rfl (fun c2 => ?_) (fun c2 => ?_)
  · refine c_skip (x_seq (c_seq (c_blk (c_seq ?_))))
    refine a_beg Ext rfl ?_
    intro w2 ew2
    replace hE := hE.trans (Below.mono ew2 hB)
    replace hs := hs.ext ew2
    replace hk := hk.ext ew2
    replace hB := Nat.le_trans hB ew2.size
    have hS : Ext w2 w2 := ext_refl _
    have D_hs := hs
    have D_hk := hk
    refine a_p 0 tbOk rfl rfl rfl rfl (by kernel_rfl) (fun _ _ _ h => h) hS ?_
    refine a_p 1 tbOk rfl rfl rfl rfl (by kernel_rfl) (fun _ _ _ h => h) hS ?_
    have hil : i < l.length := by omega
    have hik : i < k.length := by omega
    refine a_ixS 2 tbOk D_hs (List.getElem?_eq_getElem hil) rfl rfl rfl rfl rfl rfl rfl rfl rfl rfl (by kernel_rfl) (fun _ _ _ _ h => h) hS ?_
    intro ebz3 eoz3 euz3 hrz3 hatz3
    replace hrz3 : euz3 = .int .u8 (l[i]).toNat := hrz3
    subst hrz3
    refine a_ld 3 tbOk (fun _ hs => (hatz3.ext hs).cell 0 _ rfl) rfl rfl rfl rfl rfl rfl (by kernel_rfl) (fun _ _ _ h => h) hS ?_
    refine a_p 4 tbOk rfl rfl rfl rfl (by kernel_rfl) (fun _ _ _ h => h) hS ?_
    refine a_p 5 tbOk rfl rfl rfl rfl (by kernel_rfl) (fun _ _ _ h => h) hS ?_
    refine a_ixS 6 tbOk D_hk (List.getElem?_eq_getElem hik) rfl rfl rfl rfl rfl rfl rfl rfl rfl rfl (by kernel_rfl) (fun _ _ _ _ h => h) hS ?_
    intro ebz4 eoz4 euz4 hrz4 hatz4
    replace hrz4 : euz4 = .int .u8 (k[i]).toNat := hrz4
    subst hrz4
    refine a_ld 7 tbOk (fun _ hs => (hatz4.ext hs).cell 0 _ rfl) rfl rfl rfl rfl rfl rfl (by kernel_rfl) (fun _ _ _ h => h) hS ?_
    refine a_p 8 tbOk rfl rfl rfl rfl (by kernel_rfl) (fun _ _ _ h => h) hS ?_
    refine a_end (by kernel_rfl) ?_
    refine x_seq ?_
    refine c_ifN _ rfl (fun c5 => ?_) (fun c5 => ?_)
    · refine q0 (l_p 1 tbOk rfl (q1 (c_ret (x_blkR (x_seqR (x_seqR (x_blkR (x_seqR (x_ret1 rfl rfl ?_)))))))))
      exact ⟨by rw [decide_eq_false (fun e : l = k => by subst e; omega)], hE⟩
    refine c_skip (x_blk (x_seq (c_reg (l_p 1 tbOk rfl ?_))))
    refine l_cons (o_ar rfl rfl rfl (IntWalk.i64_in _ (by omega)) rfl rfl ?_)
    refine l_p 1 tbOk rfl (l_nil ?_)
    exact x_round (i + 1) (s3 rfl rfl (get_num rfl (by omega))) ⟨by omega, by
      have h5 : l[i] = k[i] := UInt8.toNat_inj.1 (by omega)
      rw [List.take_succ_eq_append_getElem hil, List.take_succ_eq_append_getElem hik, htk, h5], hs, hk, hE, hB⟩ (by omega)
  refine c_exit (x_seqE (x_seqE (x_blkE (x_seq (q0 (l_p 1 tbOk rfl (q1 (c_ret (x_ret1 rfl rfl ?_)))))))))
  exact ⟨by rw [decide_eq_true (show l = k by rwa [List.take_of_length_le (by omega), List.take_of_length_le (by omega)] at htk)], hE⟩

def getS (p : Nat) : Option (ByteArray × Nat) → Value
  | none => .tuple #[.string ⟨#[]⟩, .int .i64 0, .int .u8 15]
  | some (s, q) => .tuple #[.string s, .int .i64 ((p + q : Nat) : Int), .int .u8 0]
/-- GetText at a place that there is. -/
theorem getText_in (l : List UInt8) (p : Nat) (hp : p ≤ l.length) (M : Nat → Prop) (w : World) (v : Value) (hs : Sl M w v l) (hlow0 : Low M w) :
    Calls Try.prog 31 #[v, .int .i64 (p : Int)] w (Ret fun r w' => r = getS p (tkT (l.drop p)) ∧ Ext w w') := by
  have hlow := hlow0
  have hB : w.heap.size ≤ w.heap.size := Nat.le_refl _
  have hE : Below w.heap.size w w := Below.refl _ _
  have hsub : ∀ b, M b → M b := fun _ h => h
  have hlt := hs.lt
  refine c_enter (n := 31) Try.func31 rfl rfl rfl ?_
  refine q0 (l_p 3 tbOk rfl (q1 (c_seq (q0 (l_p 3 tbOk rfl ?_)))))
  refine l_splitP 11 _ rfl (fun c1 => ?_) (fun c1 => ?_)
  · exact absurd c1 (by omega)
  refine l_p 2 tbOk rfl ?_
  refine l_cons (o_len tbOk hs rfl rfl rfl rfl rfl ?_)
  refine l_p 2 tbOk rfl (q1 ?_)
  refine c_ifP _ rfl (fun c2 => ?_) (fun c2 => ?_)
  · exact absurd c2 (by omega)
  refine c_skip (x_seq (q0 (l_p 2 tbOk rfl ?_)))
  refine l_cons (o_slt tbOk hs rfl rfl rfl (j := p) hp rfl rfl rfl rfl rfl rfl ?_)
  intro bv2 hb
  obtain ⟨a2, c2, rfl, _⟩ := id hb
  refine l_cons (o_build (cells := [.slice a2 (l.drop p).length c2, .bool false]) bd130 rfl rfl rfl rfl rfl ?_)
  refine l_cons (o_new tbOk rfl rfl rfl ?_)
  intro ye w1 qye ew1 hye
  have sw1 := Stp.add ew1 hlow hB (Nat.le_of_eq qye.symm) hye.lt
  have he : MB w.heap.size (Rw.Add M ye) w1 ye 130 [.slice none 0 0, .bool false] := MB.mk' hye qye hB
  replace hE := hE.trans sw1.below
  replace hs := hs.stp sw1
  replace hb := hb.stp sw1
  replace hsub := fun b h => sw1.sub b (hsub b h)
  replace hlow := sw1.low
  replace hB := Nat.le_trans hB sw1.upd.1
  refine l_cons (o_st tbOk he.box rfl rfl rfl rfl (by intro u hu; simp [Value.cells] at hu; rcases hu with rfl | rfl <;> rfl) rfl rfl ?_)
  intro w2 hw2 qw2 bew2
  have uw2 : UpdB _ _ _ := ⟨qw2, bew2⟩
  have sw2 := uw2.stp he.inM hlow he.ge
  have frw2 := qw2.2
  replace hE := hE.trans sw2.below
  replace hs := hs.stp sw2
  replace hb := hb.stp sw2
  replace hsub := fun b h => sw2.sub b (hsub b h)
  replace hlow := sw2.low
  replace hB := Nat.le_trans hB sw2.upd.1
  replace he : MB w.heap.size _ w2 ye _ [.slice a2 (l.drop p).length c2, .bool false] := ⟨hw2, he.inM, he.ge⟩
  refine q1 (q0 ?_)
  refine l_cons (o_call fo73 rfl rfl rfl (eyeText_spec _ _ w.heap.size ye _ _ _ he hb hlow hB) ?_)
  rintro _ w3 ⟨rfl, bvw3, hew3, hbw3, uw3⟩
  have sw3 := uw3.stp he.inM hlow he.ge
  have frw3 := uw3.upd.2
  replace hE := hE.trans sw3.below
  replace hs := hs.stp sw3
  replace hsub := fun b h => sw3.sub b (hsub b h)
  replace hlow := sw3.low
  replace hB := Nat.le_trans hB sw3.upd.1
  replace he := hew3
  replace hb := hbw3
  have hlt2 := hb.lt
  have htk := textE_tk (l.drop p)
  have hdl : (l.drop p).length = l.length - p := List.length_drop
  refine l_p 1 tbOk rfl (q1 (c_seq (q0 (l_p 1 tbOk rfl ?_))))
  refine l_cons (o_ld tbOk (he.cell 1 _ rfl) rfl rfl rfl rfl rfl ?_)
  refine q1 ?_
  refine c_if _ rfl (fun c3 => ?_) (fun c3 => ?_)
  · refine q0 (l_p 3 tbOk rfl (q1 (c_ret (x_seqR ?_))))
    refine x_ret3 rfl rfl rfl rfl ?_
    cases hq : tkT (l.drop p) with
    | none => rw [hq] at htk; exact ⟨rfl, hE⟩
    | some z => obtain ⟨s, q⟩ := z; rw [hq] at htk; simp [htk] at c3
  refine c_skip (x_seq (c_seq ?_))
  refine a_beg Ext rfl ?_
  intro w4 ew4
  replace he := he.ext hlow hB ew4
  replace hE := hE.trans (Below.mono ew4 hB)
  replace hs := hs.ext ew4
  replace hb := hb.ext ew4
  replace hlow := hlow.ext ew4
  replace hB := Nat.le_trans hB ew4.size
  have hS : Ext w4 w4 := ext_refl _
  have D_hs := hs
  have D_hb := hb
  have D_he := he.box
  refine a_p 0 tbOk rfl rfl rfl rfl (by kernel_rfl) (fun _ _ _ h => h) hS ?_
  refine a_p 1 tbOk rfl rfl rfl rfl (by kernel_rfl) (fun _ _ _ h => h) hS ?_
  refine a_len 2 tbOk hs rfl rfl rfl rfl rfl rfl (by kernel_rfl) (fun _ _ _ h => h) hS ?_
  refine a_p 3 tbOk rfl rfl rfl rfl (by kernel_rfl) (fun _ _ _ h => h) hS ?_
  refine a_ld 4 tbOk (fun _ hs => (D_he.ext hs).cell 0 _ rfl) rfl rfl rfl rfl rfl rfl (by kernel_rfl) (fun _ _ _ h => h) hS ?_
  refine a_len 5 tbOk hb rfl rfl rfl rfl rfl rfl (by kernel_rfl) (fun _ _ _ h => h) hS ?_
  refine a_ar 6 rfl rfl rfl rfl (IntWalk.i64_in _ (by omega)) rfl rfl (by kernel_rfl) (fun _ _ _ h => h) hS ?_
  refine a_p 7 tbOk rfl rfl rfl rfl (by kernel_rfl) (fun _ _ _ h => h) hS ?_
  refine a_p 8 tbOk rfl rfl rfl rfl (by kernel_rfl) (fun _ _ _ h => h) hS ?_
  refine a_p 9 tbOk rfl rfl rfl rfl (by kernel_rfl) (fun _ _ _ h => h) hS ?_
  refine a_end (by kernel_rfl) ?_
  refine x_seq (c_ret ?_)
  refine x_ret3 rfl rfl rfl rfl ?_
  cases hq : tkT (l.drop p) with
  | none => rw [hq] at htk; simp [htk] at c3
  | some z =>
    obtain ⟨s, q⟩ := z
    have hql := tkT_le hq
    rw [hq] at htk
    refine ⟨?_, hE⟩
    rw [htk]
    show Value.tuple #[_, _, _] = Value.tuple #[_, _, _]
    rw [show ((p + q : Nat) : Int) = (l.length : Int) - (((l.drop p).drop q).length : Int) by rw [List.length_drop (i := q)]; omega]

/-- GetText at a place that there is not. -/
theorem getText_out (l : List UInt8) (p : Int) (hp : p < 0 ∨ (l.length : Int) < p) (M : Nat → Prop) (w : World) (v : Value) (hs : Sl M w v l) :
    Calls Try.prog 31 #[v, .int .i64 p] w (Ret fun r w' => r = .tuple #[.string ⟨#[]⟩, .int .i64 0, .int .u8 1] ∧ w = w') := by
  refine c_enter (n := 31) Try.func31 rfl rfl rfl ?_
  refine q0 (l_p 3 tbOk rfl (q1 (c_seq (q0 (l_p 3 tbOk rfl ?_)))))
  refine l_splitP 11 _ rfl (fun c1 => ?_) (fun c1 => ?_)
  · refine l_p 5 tbOk rfl (q1 (c_ifT rfl (q0 (l_p 3 tbOk rfl (q1 (c_ret (x_seqR ?_)))))))
    refine x_ret3 rfl rfl rfl rfl ?_
    exact ⟨rfl, rfl⟩
  refine l_p 2 tbOk rfl ?_
  refine l_cons (o_len tbOk hs rfl rfl rfl rfl rfl ?_)
  refine l_p 2 tbOk rfl (q1 ?_)
  refine c_ifP _ rfl (fun c2 => ?_) (fun c2 => ?_)
  · refine q0 (l_p 3 tbOk rfl (q1 (c_ret (x_seqR ?_))))
    refine x_ret3 rfl rfl rfl rfl ?_
    exact ⟨rfl, rfl⟩
  exact absurd c2 (by omega)

end Go.Proofs.Ytohfnpmehgpphaa
