/- Part 5 of the proof: rules, plain laws and walks, merged out of smaller texts. -/
import Derived.Test.YtohfnpmehgpphaaQ4
namespace Go.Proofs.Ytohfnpmehgpphaa
open Go Rw Go.RowKit
set_option maxRecDepth 100000
/-- kind: a type is read. -/
theorem eyeKind_spec : ∀ (k : Nat) (l : List UInt8) (bad : Bool) (M : Nat → Prop) (w : World) (B ye : Nat) (bv : Value), MB B M w ye 130 [bv, .bool bad] → Sl M w bv l → Low M w → B ≤ w.heap.size → l.length < k → l.length ≤ 1000000 →
    Calls Try.prog 77 #[.pointer (some ⟨ye, 0, none⟩)] w (Ret fun r w' => Rep.R M w' r ((kindE k l bad).1) ∧ (∃ bv', MB B M w' ye 130 [bv', .bool ((kindE k l bad).2.2)] ∧ Sl M w' bv' ((kindE k l bad).2.1)) ∧ Stp B M M w w' ∧ Kept w w' (Out (fun x => x = ye) w)) := by
  intro k
  induction k with
  | zero => intro l bad M w B ye bv he hb hlow hB hlk; exact absurd hlk (Nat.not_lt_zero _)
  | succ k ih =>
    intro l bad M w B ye bv he hb hlow hB hlk hll
    have hT : Stp B M M w w := Stp.refl hlow
    have hlow0 := hlow
    have he0 := he
    have hfr : Kept w w (Out (fun x => x = ye) w) := Kept.refl (fun x hx => hx.1)
    have d_hfr_he : ∀ x, (Out (fun x => x = ye) w) x → x ≠ ye := fun x hx => hx.2
    have hc8 : (l.headD 0).toNat < 256 := (l.headD 0).toNat_lt
    have hk2 : kcnt (l.headD 0) ≤ 2 := (by unfold kcnt; (repeat' split) <;> omega)
    have hkh := kheadE_less (l.headD 0) l.tail (bad || l.isEmpty)
    have htl : l.tail.length ≤ l.length := by simp
    refine c_enter (n := 44) Try.func77 rfl rfl rfl ?_
    refine q0 ?_
    refine l_cons (o_new tbOk rfl rfl rfl ?_)
    intro b2 w1 qb2 ew1 hb2
    have ne_he_h2 : ye ≠ b2 := by have := he.lt; omega
    have d_hfr_h2 : ∀ x, (Out (fun x => x = ye) w) x → x ≠ b2 := fun x hx => by have := (hfr.lt x hx).2; omega
    have sw1 := Stp.add ew1 hlow hB (Nat.le_of_eq qb2.symm) hb2.lt
    have h2 : MB B (Rw.Add M b2) w1 b2 40 [.int .u8 0, .string ⟨#[]⟩, .int .i64 0, .slice none 0 0] := MB.mk' hb2 qb2 hB
    replace hT := hT.then sw1
    replace hfr := hfr.stp sw1 (fun x hx => ew1.block x (hfr.lt x hx).2)
    replace he := he.stp sw1 (ew1.block ye he.lt)
    replace hb := hb.stp sw1
    replace hlow := sw1.low
    replace hB := Nat.le_trans hB sw1.upd.1
    refine q1 (q0 (l_p 1 tbOk rfl ?_))
    refine l_cons (o_call fo103 rfl rfl rfl (eyeOne_spec _ _ B ye _ _ _ he hb hlow hB) ?_)
    rintro _ w2 ⟨rfl, bvw2, hew2, hbw2, uw2⟩
    have sw2 := uw2.stp he.inM hlow he.ge
    have frw2 := uw2.upd.2
    replace hT := hT.then sw2
    replace hfr := hfr.stp sw2 (fun x hx => frw2 x (hfr.lt x hx).2 (d_hfr_he x hx))
    replace h2 := h2.stp sw2 (frw2 b2 h2.lt ne_he_h2.symm)
    replace hlow := sw2.low
    replace hB := Nat.le_trans hB sw2.upd.1
    replace he := hew2
    replace hb := hbw2
    clear hew2 hbw2
    refine l_cons (o_build (cells := [.int .u8 (l.headD 0).toNat, .string ⟨#[]⟩, .int .i64 0, .slice none 0 0]) (css := [[.int .u8 (l.headD 0).toNat]]) bd40 rfl rfl rfl rfl rfl ?_)
    refine l_cons (o_new tbOk rfl rfl rfl ?_)
    intro b3 w3 qb3 ew3 hb3
    have ne_he_h3 : ye ≠ b3 := by have := he.lt; omega
    have d_hfr_h3 : ∀ x, (Out (fun x => x = ye) w) x → x ≠ b3 := fun x hx => by have := (hfr.lt x hx).2; omega
    have ne_h2_h3 : b2 ≠ b3 := by have := h2.lt; omega
    have sw3 := Stp.add ew3 hlow hB (Nat.le_of_eq qb3.symm) hb3.lt
    have h3 : MB B (Rw.Add (Rw.Add M b2) b3) w3 b3 40 [.int .u8 0, .string ⟨#[]⟩, .int .i64 0, .slice none 0 0] := MB.mk' hb3 qb3 hB
    replace hT := hT.then sw3
    replace hfr := hfr.stp sw3 (fun x hx => ew3.block x (hfr.lt x hx).2)
    replace he := he.stp sw3 (ew3.block ye he.lt)
    replace h2 := h2.stp sw3 (ew3.block b2 h2.lt)
    replace hb := hb.stp sw3
    replace hlow := sw3.low
    replace hB := Nat.le_trans hB sw3.upd.1
    refine l_cons (o_st tbOk h3.box rfl rfl rfl rfl (by intro u hu; simp [Value.cells] at hu; rcases hu with rfl | rfl | rfl | rfl <;> rfl) rfl rfl ?_)
    intro w4 hw4 qw4 bew4
    have uw4 : UpdB _ _ _ := ⟨qw4, bew4⟩
    have sw4 := uw4.stp h3.inM hlow h3.ge
    have frw4 := qw4.2
    replace hT := hT.then sw4
    replace hfr := hfr.stp sw4 (fun x hx => frw4 x (hfr.lt x hx).2 (d_hfr_h3 x hx))
    replace he := he.stp sw4 (frw4 ye he.lt ne_he_h3)
    replace h2 := h2.stp sw4 (frw4 b2 h2.lt ne_h2_h3)
    replace hb := hb.stp sw4
    replace hlow := sw4.low
    replace hB := Nat.le_trans hB sw4.upd.1
    replace h3 : MB B _ w4 b3 _ [.int .u8 (l.headD 0).toNat, .string ⟨#[]⟩, .int .i64 0, .slice none 0 0] := ⟨hw4, h3.inM, h3.ge⟩
    refine q1 (q0 (l_p 1 tbOk rfl (q1 ?_)))
    refine c_cut (X := Value) (fun bv => [(0, .pointer (some ⟨ye, 0, none⟩)), (2, .pointer (some ⟨b2, 0, none⟩)), (3, .pointer (some ⟨b3, 0, none⟩)), (4, .int .i64 (kcnt (l.headD 0) : Int))]) (fun bv w' => MB B (Rw.Add (Rw.Add M b2) b3) w' ye 130 [bv, .bool (kheadE (l.headD 0) l.tail (bad || l.isEmpty)).2.2.2] ∧ Sl (Rw.Add (Rw.Add M b2) b3) w' bv (kheadE (l.headD 0) l.tail (bad || l.isEmpty)).2.2.1 ∧ MB B (Rw.Add (Rw.Add M b2) b3) w' b2 40 [.int .u8 0, .string ⟨#[]⟩, .int .i64 0, .slice none 0 0] ∧ MB B (Rw.Add (Rw.Add M b2) b3) w' b3 40 [.int .u8 (l.headD 0).toNat, .string (kheadE (l.headD 0) l.tail (bad || l.isEmpty)).2.1, .int .i64 (kheadE (l.headD 0) l.tail (bad || l.isEmpty)).1, .slice none 0 0] ∧ Stp B M (Rw.Add (Rw.Add M b2) b3) w w' ∧ Kept w w' (Out (fun x => x = ye) w) ∧ Low (Rw.Add (Rw.Add M b2) b3) w' ∧ B ≤ w'.heap.size) ?_ ?_
    · refine q0 (l_p 1 tbOk rfl ?_)
      refine l_cons (o_ld tbOk (h3.cell 0 _ rfl) rfl rfl rfl rfl rfl ?_)
      refine q1 (c_blk (c_seq (q0 (l_p 2 tbOk rfl (q1 ?_)))))
      refine c_splitP 10 _ rfl (fun c1 => c_ifT rfl ?_) (fun c1 => c_ifF rfl ?_)
      · refine c_skip (x_seq (c_ifT rfl (c_reg (l_p 1 tbOk rfl ?_))))
        refine l_cons (o_call fo101 rfl rfl rfl (eyeNum_spec _ _ B ye _ _ _ he hb hlow hB) ?_)
        rintro _ w5 ⟨rfl, bvw5, hew5, hbw5, uw5⟩
        have sw5 := uw5.stp he.inM hlow he.ge
        have frw5 := uw5.upd.2
        replace hT := hT.then sw5
        replace hfr := hfr.stp sw5 (fun x hx => frw5 x (hfr.lt x hx).2 (d_hfr_he x hx))
        replace h2 := h2.stp sw5 (frw5 b2 h2.lt ne_he_h2.symm)
        replace h3 := h3.stp sw5 (frw5 b3 h3.lt ne_he_h3.symm)
        replace hlow := sw5.low
        replace hB := Nat.le_trans hB sw5.upd.1
        replace he := hew5
        replace hb := hbw5
        clear hew5 hbw5
        have hnl := numE_less l.tail (bad || l.isEmpty)
        refine l_cons (o_conv (y := (((numE l.tail (bad || l.isEmpty)).1 : Nat) : Int)) tbOk rfl rfl rfl rfl rfl (IntWalk.i64_in _ (by omega)) rfl rfl ?_)
        refine l_p 1 tbOk rfl ?_
        refine l_cons (o_st tbOk h3.box rfl rfl rfl rfl (by intro u hu; simp [Value.cells] at hu; subst hu; rfl) rfl rfl ?_)
        intro w6 hw6 qw6 bew6
        have uw6 : UpdB _ _ _ := ⟨qw6, bew6⟩
        have sw6 := uw6.stp h3.inM hlow h3.ge
        have frw6 := qw6.2
        replace hT := hT.then sw6
        replace hfr := hfr.stp sw6 (fun x hx => frw6 x (hfr.lt x hx).2 (d_hfr_h3 x hx))
        replace he := he.stp sw6 (frw6 ye he.lt ne_he_h3)
        replace h2 := h2.stp sw6 (frw6 b2 h2.lt ne_h2_h3)
        replace hb := hb.stp sw6
        replace hlow := sw6.low
        replace hB := Nat.le_trans hB sw6.upd.1
        replace h3 : MB B _ w6 b3 _ [.int .u8 (l.headD 0).toNat, .string ⟨#[]⟩, .int .i64 (((numE l.tail (bad || l.isEmpty)).1 : Nat) : Int), .slice none 0 0] := ⟨hw6, h3.inM, h3.ge⟩
        refine q2 ?_
        have ekh : (kheadE (l.headD 0) l.tail (bad || l.isEmpty)) = (((numE l.tail (bad || l.isEmpty)).1 : Int), ⟨#[]⟩, (numE l.tail (bad || l.isEmpty)).2) := by unfold kheadE; rw [if_pos (by omega)]
        exact x_cut (bvw5) (s4 rfl rfl rfl (get_num rfl (by unfold kcnt; (repeat' split) <;> omega))) (by rw [ekh]; exact ⟨he, hb, h2, h3, hT, hfr, hlow, hB⟩)
      refine c_reg (l_p 2 tbOk rfl (q1 ?_))
      refine c_splitP 10 _ rfl (fun c2 => c_ifT rfl ?_) (fun c2 => c_ifF rfl ?_)
      · refine c_reg (l_p 1 tbOk rfl ?_)
        refine l_cons (o_call fo101 rfl rfl rfl (eyeNum_spec _ _ B ye _ _ _ he hb hlow hB) ?_)
        rintro _ w7 ⟨rfl, bvw7, hew7, hbw7, uw7⟩
        have sw7 := uw7.stp he.inM hlow he.ge
        have frw7 := uw7.upd.2
        replace hT := hT.then sw7
        replace hfr := hfr.stp sw7 (fun x hx => frw7 x (hfr.lt x hx).2 (d_hfr_he x hx))
        replace h2 := h2.stp sw7 (frw7 b2 h2.lt ne_he_h2.symm)
        replace h3 := h3.stp sw7 (frw7 b3 h3.lt ne_he_h3.symm)
        replace hlow := sw7.low
        replace hB := Nat.le_trans hB sw7.upd.1
        replace he := hew7
        replace hb := hbw7
        clear hew7 hbw7
        have hnl := numE_less l.tail (bad || l.isEmpty)
        refine l_cons (o_conv (y := (((numE l.tail (bad || l.isEmpty)).1 : Nat) : Int)) tbOk rfl rfl rfl rfl rfl (IntWalk.i64_in _ (by omega)) rfl rfl ?_)
        refine l_p 1 tbOk rfl ?_
        refine l_cons (o_st tbOk h3.box rfl rfl rfl rfl (by intro u hu; simp [Value.cells] at hu; subst hu; rfl) rfl rfl ?_)
        intro w8 hw8 qw8 bew8
        have uw8 : UpdB _ _ _ := ⟨qw8, bew8⟩
        have sw8 := uw8.stp h3.inM hlow h3.ge
        have frw8 := qw8.2
        replace hT := hT.then sw8
        replace hfr := hfr.stp sw8 (fun x hx => frw8 x (hfr.lt x hx).2 (d_hfr_h3 x hx))
        replace he := he.stp sw8 (frw8 ye he.lt ne_he_h3)
        replace h2 := h2.stp sw8 (frw8 b2 h2.lt ne_h2_h3)
        replace hb := hb.stp sw8
        replace hlow := sw8.low
        replace hB := Nat.le_trans hB sw8.upd.1
        replace h3 : MB B _ w8 b3 _ [.int .u8 (l.headD 0).toNat, .string ⟨#[]⟩, .int .i64 (((numE l.tail (bad || l.isEmpty)).1 : Nat) : Int), .slice none 0 0] := ⟨hw8, h3.inM, h3.ge⟩
        refine q2 ?_
        have ekh : (kheadE (l.headD 0) l.tail (bad || l.isEmpty)) = (((numE l.tail (bad || l.isEmpty)).1 : Int), ⟨#[]⟩, (numE l.tail (bad || l.isEmpty)).2) := by unfold kheadE; rw [if_pos (by omega)]
        exact x_cut (bvw7) (s4 rfl rfl rfl (get_num rfl (by unfold kcnt; (repeat' split) <;> omega))) (by rw [ekh]; exact ⟨he, hb, h2, h3, hT, hfr, hlow, hB⟩)
      refine q0 (l_p 2 tbOk rfl (q1 ?_))
      refine c_ifP _ rfl (fun c3 => ?_) (fun c3 => ?_)
      · refine q0 (l_p 1 tbOk rfl ?_)
        refine l_cons (o_call fo73 rfl rfl rfl (eyeText_spec _ _ B ye _ _ _ he hb hlow hB) ?_)
        rintro _ w9 ⟨rfl, bvw9, hew9, hbw9, uw9⟩
        have sw9 := uw9.stp he.inM hlow he.ge
        have frw9 := uw9.upd.2
        replace hT := hT.then sw9
        replace hfr := hfr.stp sw9 (fun x hx => frw9 x (hfr.lt x hx).2 (d_hfr_he x hx))
        replace h2 := h2.stp sw9 (frw9 b2 h2.lt ne_he_h2.symm)
        replace h3 := h3.stp sw9 (frw9 b3 h3.lt ne_he_h3.symm)
        replace hlow := sw9.low
        replace hB := Nat.le_trans hB sw9.upd.1
        replace he := hew9
        replace hb := hbw9
        clear hew9 hbw9
        refine l_p 1 tbOk rfl ?_
        refine l_cons (o_st tbOk h3.box rfl rfl rfl rfl (by intro u hu; simp [Value.cells] at hu; subst hu; rfl) rfl rfl ?_)
        intro w10 hw10 qw10 bew10
        have uw10 : UpdB _ _ _ := ⟨qw10, bew10⟩
        have sw10 := uw10.stp h3.inM hlow h3.ge
        have frw10 := qw10.2
        replace hT := hT.then sw10
        replace hfr := hfr.stp sw10 (fun x hx => frw10 x (hfr.lt x hx).2 (d_hfr_h3 x hx))
        replace he := he.stp sw10 (frw10 ye he.lt ne_he_h3)
        replace h2 := h2.stp sw10 (frw10 b2 h2.lt ne_h2_h3)
        replace hb := hb.stp sw10
        replace hlow := sw10.low
        replace hB := Nat.le_trans hB sw10.upd.1
        replace h3 : MB B _ w10 b3 _ [.int .u8 (l.headD 0).toNat, .string (textE l.tail (bad || l.isEmpty)).1, .int .i64 0, .slice none 0 0] := ⟨hw10, h3.inM, h3.ge⟩
        refine q1 (c_reg (l_p 1 tbOk rfl (q2 ?_)))
        have ekh : (kheadE (l.headD 0) l.tail (bad || l.isEmpty)) = (0, textE l.tail (bad || l.isEmpty)) := by unfold kheadE; rw [if_neg (by omega), if_pos (by omega)]
        exact x_cut (bvw9) (s4 rfl rfl rfl (get_num rfl (by unfold kcnt; (repeat' split) <;> omega))) (by rw [ekh]; exact ⟨he, hb, h2, h3, hT, hfr, hlow, hB⟩)
      refine q0 (l_p 2 tbOk rfl (q1 ?_))
      refine c_ifP _ rfl (fun c4 => ?_) (fun c4 => ?_)
      · refine c_reg (l_p 1 tbOk rfl (q2 ?_))
        have ekh : (kheadE (l.headD 0) l.tail (bad || l.isEmpty)) = (0, ⟨#[]⟩, l.tail, (bad || l.isEmpty)) := by unfold kheadE; rw [if_neg (by omega), if_neg (by omega)]
        exact x_cut (bvw2) (s4 rfl rfl rfl (get_num rfl (by unfold kcnt; (repeat' split) <;> omega))) (by rw [ekh]; exact ⟨he, hb, h2, h3, hT, hfr, hlow, hB⟩)
      refine c_seq (q0 (l_p 2 tbOk rfl (q1 ?_)))
      refine c_splitP 24 _ rfl (fun c5 => c_ifT rfl ?_) (fun c5 => c_ifF rfl ?_)
      · refine c_skip (x_seq (c_ifT rfl (c_reg (l_p 1 tbOk rfl (q2 ?_)))))
        have ekh : (kheadE (l.headD 0) l.tail (bad || l.isEmpty)) = (0, ⟨#[]⟩, l.tail, (bad || l.isEmpty)) := by unfold kheadE; rw [if_neg (by omega), if_neg (by omega)]
        exact x_cut (bvw2) (s4 rfl rfl rfl (get_num rfl (by unfold kcnt; (repeat' split) <;> omega))) (by rw [ekh]; exact ⟨he, hb, h2, h3, hT, hfr, hlow, hB⟩)
      refine c_reg (l_p 2 tbOk rfl (q1 ?_))
      refine c_splitP 24 _ rfl (fun c6 => c_ifT rfl ?_) (fun c6 => c_ifF rfl ?_)
      · refine c_reg (l_p 1 tbOk rfl (q2 ?_))
        have ekh : (kheadE (l.headD 0) l.tail (bad || l.isEmpty)) = (0, ⟨#[]⟩, l.tail, (bad || l.isEmpty)) := by unfold kheadE; rw [if_neg (by omega), if_neg (by omega)]
        exact x_cut (bvw2) (s4 rfl rfl rfl (get_num rfl (by unfold kcnt; (repeat' split) <;> omega))) (by rw [ekh]; exact ⟨he, hb, h2, h3, hT, hfr, hlow, hB⟩)
      refine c_skip (x_blk ?_)
      have ekh : (kheadE (l.headD 0) l.tail (bad || l.isEmpty)) = (0, ⟨#[]⟩, l.tail, (bad || l.isEmpty)) := by unfold kheadE; rw [if_neg (by omega), if_neg (by omega)]
      exact x_cut (bvw2) (s4 rfl rfl rfl (get_num rfl (by unfold kcnt; (repeat' split) <;> omega))) (by rw [ekh]; exact ⟨he, hb, h2, h3, hT, hfr, hlow, hB⟩)
    clear he hb h2 h3 hT hfr hlow hB
    rintro bv w80 ⟨he, hb, h2, h3, hT, hfr, hlow, hB⟩
    refine c_seq (q0 (l_p 2 tbOk rfl (q1 (c_blk ?_))))
    have d_ho_he : ∀ x, (.slice none 0 0 : Value).ownBlock = some x → x ≠ ye := fun x hx => by simp [Value.ownBlock] at hx
    have dd_ho_hfr : ∀ x y, (.slice none 0 0 : Value).ownBlock = some x → (Out (fun x => x = ye) w) y → x ≠ y := fun x y hx => by simp [Value.ownBlock] at hx
    have d_ho_h2 : ∀ x, (.slice none 0 0 : Value).ownBlock = some x → x ≠ b2 := fun x hx => by simp [Value.ownBlock] at hx
    have d_ho_h3 : ∀ x, (.slice none 0 0 : Value).ownBlock = some x → x ≠ b3 := fun x hx => by simp [Value.ownBlock] at hx
    refine c_loop6 (X := Nat) (Y := Value) (Z := Nat → Prop) (U := Value) (V := List Ty) (T := List UInt8 × Bool) (fun i wv M1 bv ks st => [(0, .pointer (some ⟨ye, 0, none⟩)), (2, .pointer (some ⟨b2, 0, none⟩)), (3, .pointer (some ⟨b3, 0, none⟩)), (27, .int .i64 (kcnt (l.headD 0) : Int)), (28, .int .i64 (i : Nat))]) (fun i wv M1 bv ks st w' => i ≤ kcnt (l.headD 0) ∧ kidsE (kindE k) (kcnt (l.headD 0)) (kheadE (l.headD 0) l.tail (bad || l.isEmpty)).2.2.1 (kheadE (l.headD 0) l.tail (bad || l.isEmpty)).2.2.2 = (ks ++ (kidsE (kindE k) (kcnt (l.headD 0) - i) st.1 st.2).1, (kidsE (kindE k) (kcnt (l.headD 0) - i) st.1 st.2).2) ∧ ks.length = i ∧ st.1.length ≤ l.length ∧ (st.2 = false → st.1.length < k) ∧ OwnSl 40 B M1 w' wv ks ∧ MB B M1 w' ye 130 [bv, .bool st.2] ∧ Sl M1 w' bv st.1 ∧ MB B M1 w' b2 40 [.int .u8 0, .string ⟨#[]⟩, .int .i64 0, .slice none 0 0] ∧ MB B M1 w' b3 40 [.int .u8 (l.headD 0).toNat, .string (kheadE (l.headD 0) l.tail (bad || l.isEmpty)).2.1, .int .i64 (kheadE (l.headD 0) l.tail (bad || l.isEmpty)).1, wv] ∧ Stp B M M1 w w' ∧ Kept w w' (Out (fun x => x = ye) w) ∧ Low M1 w' ∧ B ≤ w'.heap.size ∧ (∀ x, (Out (fun x => x = ye) w) x → x ≠ ye) ∧ (∀ x, (Out (fun x => x = ye) w) x → x ≠ b2) ∧ (∀ x, (Out (fun x => x = ye) w) x → x ≠ b3) ∧ (∀ x, (wv : Value).ownBlock = some x → x ≠ ye) ∧ (∀ x y, (wv : Value).ownBlock = some x → (Out (fun x => x = ye) w) y → x ≠ y) ∧ (∀ x, (wv : Value).ownBlock = some x → x ≠ b2) ∧ (∀ x, (wv : Value).ownBlock = some x → x ≠ b3)) (fun i wv M1 bv ks st => kcnt (l.headD 0) - i) (0) (.slice none 0 0) ((Rw.Add (Rw.Add M b2) b3)) (bv) ([]) (((kheadE (l.headD 0) l.tail (bad || l.isEmpty)).2.2.1, (kheadE (l.headD 0) l.tail (bad || l.isEmpty)).2.2.2)) (s5 rfl rfl rfl rfl rfl) ?_ ?_
    · refine ⟨Nat.zero_le _, rfl, rfl, by simp only; omega, fun h => ?_, own_nil, he, hb, h2, h3, hT, hfr, hlow, hB, d_hfr_he, d_hfr_h2, d_hfr_h3, d_ho_he, dd_ho_hfr, d_ho_h2, d_ho_h3⟩
      have h1 := kheadE_ok (show (kheadE (l.headD 0) l.tail (bad || l.isEmpty)).2.2.2 = false from h)
      have h2 := congrArg List.length (isEmpty_cons (l := l) (by cases bad <;> simp_all))
      simp only [List.length_cons] at h2
      show (kheadE (l.headD 0) l.tail (bad || l.isEmpty)).2.2.1.length < k
      omega
    clear he hb h2 h3 hT hfr hlow hB d_ho_he dd_ho_hfr d_ho_h2 d_ho_h3
    rintro i wv M1 bv ks st w11 ⟨hi, hinv, hks, hsl, hsk, ho, he, hb, h2, h3, hT, hfr, hlow, hB, d_hfr_he, d_hfr_h2, d_hfr_h3, d_ho_he, dd_ho_hfr, d_ho_h2, d_ho_h3⟩
    refine q0 (l_p 1 tbOk rfl (q1 (c_seq ?_)))
    refine c_ifP _ rfl (fun c7 => ?_) (fun c7 => ?_)
    · refine c_skip (x_seq (c_seq (c_blk (c_seq (q0 (l_p 3 tbOk rfl ?_))))))
      refine l_cons (o_ld tbOk (he.cell 1 _ rfl) rfl rfl rfl rfl rfl ?_)
      refine q1 ?_
      refine c_if _ rfl (fun hbt => ?_) (fun hbt => ?_)
      · refine q0 ?_
        refine l_cons (o_lds tbOk (fun j v hv => h3.cell j v hv) rfl rfl rfl rfl rfl rfl ?_)
        obtain ⟨av, cv, rfl, _⟩ := ho.val
        refine l_cons (o_st tbOk h2.box rfl rfl rfl rfl (by intro u hu; simp [Value.cells] at hu; rcases hu with rfl | rfl | rfl | rfl <;> rfl) rfl rfl ?_)
        intro w12 hw12 qw12 bew12
        have uw12 : UpdB _ _ _ := ⟨qw12, bew12⟩
        have sw12 := uw12.stp h2.inM hlow h2.ge
        have frw12 := qw12.2
        replace hT := hT.then sw12
        replace hfr := hfr.stp sw12 (fun x hx => frw12 x (hfr.lt x hx).2 (d_hfr_h2 x hx))
        replace he := he.stp sw12 (frw12 ye he.lt ne_he_h2)
        replace ho := ho.stp sw12 (fun x hx => frw12 x (ho.lt x hx).2 (d_ho_h2 x hx))
        replace h3 := h3.stp sw12 (frw12 b3 h3.lt ne_h2_h3.symm)
        replace hb := hb.stp sw12
        replace hlow := sw12.low
        replace hB := Nat.le_trans hB sw12.upd.1
        replace h2 : MB B _ w12 b2 _ [.int .u8 (l.headD 0).toNat, .string (kheadE (l.headD 0) l.tail (bad || l.isEmpty)).2.1, .int .i64 (kheadE (l.headD 0) l.tail (bad || l.isEmpty)).1, (.slice av ks.length cv)] := ⟨hw12, h2.inM, h2.ge⟩
        refine q1 (c_ret (x_seqR (x_blkR (x_seqR (x_seqR (x_blkR (x_seqR ?_)))))))
        refine x_ret1s tbOk (fun j v hv => h2.cell j v hv) rfl rfl rfl rfl rfl ?_
        have hsl2 : Sl M w12 (.slice av ks.length cv) ks := ho.slM (by omega) (fun b hb => new_of dd_ho_hfr d_ho_he hlow0 hb) hT.sub
        rw [show st.2 = true from hbt, kidsE_bad, List.append_nil] at hinv
        rw [show st.2 = true from hbt] at he
        rw [kindE, hinv]
        exact ⟨ty_mk (by omega) (by omega) (by unfold I64; omega) hsl2, ⟨_, ⟨he.box, he0.inM, he0.ge⟩, Sl.wk hb (fun b _ h => hT.sub b h)⟩, hT.drop hlow0, hfr⟩
      have hbf : st.2 = false := hbt
      refine c_skip (x_seq ?_)
      refine a_beg (Sof2 B M1 b3) rfl ?_
      intro w13 ew13
      replace hT := hT.then (Stp.ext ew13 hlow hB)
      replace hfr := hfr.ext hlow hB ew13
      replace he := he.ext hlow hB ew13
      replace ho := ho.ext hlow hB ew13
      replace h2 := h2.ext hlow hB ew13
      replace h3 := h3.ext hlow hB ew13
      replace hb := hb.ext ew13
      replace hlow := hlow.ext ew13
      replace hB := Nat.le_trans hB ew13.size
      have hS : Stp B M1 M1 w13 w13 := Stp.refl hlow
      have D_he := he.box
      have D_hb := hb
      have D_h2 := h2.box
      have D_h3 := h3.box
      refine a_p 0 tbOk rfl rfl rfl rfl (by kernel_rfl) (fun _ _ _ h => h) ⟨⟨_, hS⟩, h3.box.heap.trans D_h3.heap.symm⟩ ?_
      refine a_ld 1 tbOk (fun _ hs => (D_h3.so2 hs).cell 3 _ rfl) rfl rfl rfl rfl rfl rfl (by kernel_rfl) (fun _ _ _ h => h) ⟨⟨_, hS⟩, h3.box.heap.trans D_h3.heap.symm⟩ ?_
      refine a_p 2 tbOk rfl rfl rfl rfl (by kernel_rfl) (fun _ _ _ h => h) ⟨⟨_, hS⟩, h3.box.heap.trans D_h3.heap.symm⟩ ?_
      refine a_one 3 rfl (by kernel_rfl) (o_call fo77 rfl rfl rfl (ih st.1 st.2 _ _ B ye _ he hb hlow hB (hsk hbf) (by omega)) ?_)
      rintro vhc w14 ⟨hc, ⟨bvw14, hew14, hbw14⟩, sw14, kw14⟩
      have frw14 : ∀ x, x < w13.heap.size → x ≠ ye → w14.heap[x]? = w13.heap[x]? := fun x hx hn => kw14.blk x ⟨hx, hn⟩
      replace hT := hT.then sw14
      replace hS := hS.then sw14
      replace hfr := hfr.stp sw14 (fun x hx => frw14 x (hfr.lt x hx).2 (d_hfr_he x hx))
      replace ho := ho.stp sw14 (fun x hx => frw14 x (ho.lt x hx).2 (d_ho_he x hx))
      replace h2 := h2.stp sw14 (frw14 b2 h2.lt ne_he_h2.symm)
      replace h3 := h3.stp sw14 (frw14 b3 h3.lt ne_he_h3.symm)
      replace hlow := sw14.low
      replace hB := Nat.le_trans hB sw14.upd.1
      refine ⟨⟨⟨_, hS⟩, h3.box.heap.trans D_h3.heap.symm⟩, ?_⟩
      replace he := hew14
      replace hb := hbw14
      clear hew14 hbw14
      refine a_one 4 rfl (by kernel_rfl) (o_bs tbOk rfl rfl rfl rfl rfl rfl rfl (sz1 (Rep.size hc)) rfl rfl rfl ?_)
      intro bw15 w15 qbw15 ew15 hbw15
      have nbw15 := nM_of hlow qbw15
      replace hT := hT.then (Stp.ext ew15 hlow hB)
      replace hS := hS.then (Stp.ext ew15 hlow hB)
      replace hfr := hfr.ext hlow hB ew15
      replace he := he.ext hlow hB ew15
      replace ho := ho.ext hlow hB ew15
      replace h2 := h2.ext hlow hB ew15
      replace h3 := h3.ext hlow hB ew15
      replace hb := hb.ext ew15
      replace hc := Rep.ext hc ew15
      replace hlow := hlow.ext ew15
      replace hB := Nat.le_trans hB ew15.size
      refine ⟨⟨⟨_, hS⟩, h3.box.heap.trans D_h3.heap.symm⟩, ?_⟩
      refine a_one 5 rfl (by kernel_rfl) (o_app1 tbOk ho hbw15 nbw15 hc hlow hB rfl rfl rfl rfl rfl rfl rfl (by omega) (by show (_ + _) * 56 ≤ _; omega) rfl rfl ?_)
      intro vw16 w16 Mw16 hw16 sw16 frw16 blw16
      have zd_ho_he := d_ho_he
      replace d_ho_he : ∀ x, (vw16 : Value).ownBlock = some x → x ≠ ye := fun x hx => (blw16 x hx).elim (d_ho_he x) (fun h e => by have := he.lt; omega)
      have zdd_ho_hfr := dd_ho_hfr
      replace dd_ho_hfr : ∀ x y, (vw16 : Value).ownBlock = some x → (Out (fun x => x = ye) w) y → x ≠ y := fun x y hx hy => (blw16 x hx).elim (fun h => dd_ho_hfr x y h hy) (fun h e => by have := (hfr.lt y hy).2; omega)
      have zd_ho_h2 := d_ho_h2
      replace d_ho_h2 : ∀ x, (vw16 : Value).ownBlock = some x → x ≠ b2 := fun x hx => (blw16 x hx).elim (d_ho_h2 x) (fun h e => by have := h2.lt; omega)
      have zd_ho_h3 := d_ho_h3
      replace d_ho_h3 : ∀ x, (vw16 : Value).ownBlock = some x → x ≠ b3 := fun x hx => (blw16 x hx).elim (d_ho_h3 x) (fun h e => by have := h3.lt; omega)
      replace hT := hT.then sw16
      replace hS := hS.then sw16
      replace hfr := hfr.stp sw16 (fun x hx => frw16 x (hfr.lt x hx).2 (fun e => zdd_ho_hfr x x e.symm hx rfl))
      replace he := he.stp sw16 (frw16 ye he.lt (fun e => zd_ho_he _ e.symm rfl))
      replace h2 := h2.stp sw16 (frw16 b2 h2.lt (fun e => zd_ho_h2 _ e.symm rfl))
      replace h3 := h3.stp sw16 (frw16 b3 h3.lt (fun e => zd_ho_h3 _ e.symm rfl))
      replace hb := hb.stp sw16
      replace hc := Rep.stp hc sw16
      replace hlow := sw16.low
      replace hB := Nat.le_trans hB sw16.upd.1
      refine ⟨⟨⟨_, hS⟩, h3.box.heap.trans D_h3.heap.symm⟩, ?_⟩
      replace ho := hw16
      clear hw16
      refine a_p 6 tbOk rfl rfl rfl rfl (by kernel_rfl) (fun _ _ _ h => h) ⟨⟨_, hS⟩, h3.box.heap.trans D_h3.heap.symm⟩ ?_
      obtain ⟨av6, cv6, rfl, _⟩ := ho.val
      refine a_bar 7 rfl (by kernel_rfl) (by kernel_rfl) (o_st tbOk h3.box rfl rfl rfl rfl (by intro u hu; simp [Value.cells] at hu; subst hu; rfl) rfl rfl ?_)
      intro w17 hw17 qw17 bew17
      have uw17 : UpdB _ _ _ := ⟨qw17, bew17⟩
      have sw17 := uw17.stp h3.inM hlow h3.ge
      have frw17 := qw17.2
      replace hT := hT.then sw17
      replace hS := hS.then sw17
      replace hfr := hfr.stp sw17 (fun x hx => frw17 x (hfr.lt x hx).2 (d_hfr_h3 x hx))
      replace he := he.stp sw17 (frw17 ye he.lt ne_he_h3)
      replace ho := ho.stp sw17 (fun x hx => frw17 x (ho.lt x hx).2 (d_ho_h3 x hx))
      replace h2 := h2.stp sw17 (frw17 b2 h2.lt ne_h2_h3)
      replace hb := hb.stp sw17
      replace hc := Rep.stp hc sw17
      replace hlow := sw17.low
      replace hB := Nat.le_trans hB sw17.upd.1
      replace h3 : MB B _ w17 b3 _ [.int .u8 (l.headD 0).toNat, .string (kheadE (l.headD 0) l.tail (bad || l.isEmpty)).2.1, .int .i64 (kheadE (l.headD 0) l.tail (bad || l.isEmpty)).1, (.slice av6 (ks ++ [(kindE k st.1 st.2).1]).length cv6)] := ⟨hw17, h3.inM, h3.ge⟩
      refine a_end (by kernel_rfl) ?_
      refine x_blk (x_seq (c_reg ?_))
      refine l_cons (o_ar rfl rfl rfl (IntWalk.i64_in _ (by omega)) rfl rfl ?_)
      refine l_p 1 tbOk rfl (l_nil ?_)
      exact x_round6 (i + 1) ((.slice av6 (ks ++ [(kindE k st.1 st.2).1]).length cv6)) (Mw16) (bvw14) (ks ++ [(kindE k st.1 st.2).1]) (((kindE k st.1 st.2).2.1, (kindE k st.1 st.2).2.2)) (s5 rfl rfl rfl rfl (get_num rfl (by omega))) ⟨by omega, by rw [hinv, show kcnt (l.headD 0) - i = (kcnt (l.headD 0) - (i + 1)) + 1 by omega, kidsE_step (k := kcnt (l.headD 0) - (i + 1)) hbf, hbf]; simp, by simp [hks], by have := kindE_less k st.1 st.2; simp only; omega, fun _ => by have := kindE_less k st.1 st.2; have := hsk hbf; simp only; omega, ho, he, hb, h2, h3, hT, hfr, hlow, hB, d_hfr_he, d_hfr_h2, d_hfr_h3, d_ho_he, dd_ho_hfr, d_ho_h2, d_ho_h3⟩ (by omega)
    refine c_exit (x_seqE (x_seqE (x_blkE (x_seq (q0 ?_)))))
    refine l_cons (o_lds tbOk (fun j v hv => h3.cell j v hv) rfl rfl rfl rfl rfl rfl ?_)
    obtain ⟨av, cv, rfl, _⟩ := ho.val
    refine l_cons (o_st tbOk h2.box rfl rfl rfl rfl (by intro u hu; simp [Value.cells] at hu; rcases hu with rfl | rfl | rfl | rfl <;> rfl) rfl rfl ?_)
    intro w18 hw18 qw18 bew18
    have uw18 : UpdB _ _ _ := ⟨qw18, bew18⟩
    have sw18 := uw18.stp h2.inM hlow h2.ge
    have frw18 := qw18.2
    replace hT := hT.then sw18
    replace hfr := hfr.stp sw18 (fun x hx => frw18 x (hfr.lt x hx).2 (d_hfr_h2 x hx))
    replace he := he.stp sw18 (frw18 ye he.lt ne_he_h2)
    replace ho := ho.stp sw18 (fun x hx => frw18 x (ho.lt x hx).2 (d_ho_h2 x hx))
    replace h3 := h3.stp sw18 (frw18 b3 h3.lt ne_h2_h3.symm)
    replace hb := hb.stp sw18
    replace hlow := sw18.low
    replace hB := Nat.le_trans hB sw18.upd.1
    replace h2 : MB B _ w18 b2 _ [.int .u8 (l.headD 0).toNat, .string (kheadE (l.headD 0) l.tail (bad || l.isEmpty)).2.1, .int .i64 (kheadE (l.headD 0) l.tail (bad || l.isEmpty)).1, (.slice av ks.length cv)] := ⟨hw18, h2.inM, h2.ge⟩
    refine q1 (c_ret ?_)
    refine x_ret1s tbOk (fun j v hv => h2.cell j v hv) rfl rfl rfl rfl rfl ?_
    have hsl2 : Sl M w18 (.slice av ks.length cv) ks := ho.slM (by omega) (fun b hb => new_of dd_ho_hfr d_ho_he hlow0 hb) hT.sub
    rw [show kcnt (l.headD 0) - i = 0 by omega] at hinv
    replace hinv := hinv.trans (by rw [show (kidsE (kindE k) 0 st.1 st.2) = ([], st.1, st.2) from rfl, List.append_nil])
    rw [kindE, hinv]
    exact ⟨ty_mk (by omega) (by omega) (by unfold I64; omega) hsl2, ⟨_, ⟨he.box, he0.inM, he0.ge⟩, Sl.wk hb (fun b _ h => hT.sub b h)⟩, hT.drop hlow0, hfr⟩
theorem u8_one (c : UInt8) : decide ((c.toNat : Int) = 1) = decide (c = 1) := by
  rw [decide_eq_decide]
  exact ⟨fun h => UInt8.toNat_inj.1 (show c.toNat = 1 by omega), fun h => by subst h; rfl⟩
/-- term: an expression is read. -/
theorem eyeTerm_spec : ∀ (k : Nat) (l : List UInt8) (bad : Bool) (M : Nat → Prop) (w : World) (B ye : Nat) (bv : Value), MB B M w ye 130 [bv, .bool bad] → Sl M w bv l → Low M w → B ≤ w.heap.size → l.length < k → l.length ≤ 1000000 →
    Calls Try.prog 75 #[.pointer (some ⟨ye, 0, none⟩)] w (Ret fun r w' => Rep.R M w' r ((termE k l bad).1) ∧ (∃ bv', MB B M w' ye 130 [bv', .bool ((termE k l bad).2.2)] ∧ Sl M w' bv' ((termE k l bad).2.1)) ∧ Stp B M M w w' ∧ Kept w w' (Out (fun x => x = ye) w)) := by
  intro k
  induction k with
  | zero => intro l bad M w B ye bv he hb hlow hB hlk; exact absurd hlk (Nat.not_lt_zero _)
  | succ k ih =>
    intro l bad M w B ye bv he hb hlow hB hlk hll
    have hT : Stp B M M w w := Stp.refl hlow
    have hlow0 := hlow
    have he0 := he
    have hfr : Kept w w (Out (fun x => x = ye) w) := Kept.refl (fun x hx => hx.1)
    have d_hfr_he : ∀ x, (Out (fun x => x = ye) w) x → x ≠ ye := fun x hx => hx.2
    have hc8 : (l.headD 0).toNat < 256 := (l.headD 0).toNat_lt
    have hle := e_less l bad
    have htl : l.tail.length ≤ l.length := by simp
    refine c_enter (n := 91) Try.func75 rfl rfl rfl ?_
    refine q0 ?_
    refine l_cons (o_new tbOk rfl rfl rfl ?_)
    intro b2 w1 qb2 ew1 hb2
    have ne_he_h2 : ye ≠ b2 := by have := he.lt; omega
    have d_hfr_h2 : ∀ x, (Out (fun x => x = ye) w) x → x ≠ b2 := fun x hx => by have := (hfr.lt x hx).2; omega
    have sw1 := Stp.add ew1 hlow hB (Nat.le_of_eq qb2.symm) hb2.lt
    have h2 : MB B (Rw.Add M b2) w1 b2 84 [.int .u8 0, .string ⟨#[]⟩, .string ⟨#[]⟩, .int .i64 0, .bool false, .int .u8 0, .string ⟨#[]⟩, .int .i64 0, .slice none 0 0, .slice none 0 0] := MB.mk' hb2 qb2 hB
    replace hT := hT.then sw1
    replace hfr := hfr.stp sw1 (fun x hx => ew1.block x (hfr.lt x hx).2)
    replace he := he.stp sw1 (ew1.block ye he.lt)
    replace hb := hb.stp sw1
    replace hlow := sw1.low
    replace hB := Nat.le_trans hB sw1.upd.1
    refine q1 (q0 (l_p 1 tbOk rfl ?_))
    refine l_cons (o_call fo103 rfl rfl rfl (eyeOne_spec _ _ B ye _ _ _ he hb hlow hB) ?_)
    rintro _ w2 ⟨rfl, bvw2, hew2, hbw2, uw2⟩
    have sw2 := uw2.stp he.inM hlow he.ge
    have frw2 := uw2.upd.2
    replace hT := hT.then sw2
    replace hfr := hfr.stp sw2 (fun x hx => frw2 x (hfr.lt x hx).2 (d_hfr_he x hx))
    replace h2 := h2.stp sw2 (frw2 b2 h2.lt ne_he_h2.symm)
    replace hlow := sw2.low
    replace hB := Nat.le_trans hB sw2.upd.1
    replace he := hew2
    replace hb := hbw2
    clear hew2 hbw2
    refine l_cons (o_build (cells := [.int .u8 (e0 l bad).1, .string ⟨#[]⟩, .string ⟨#[]⟩, .int .i64 0, .bool false, .int .u8 0, .string ⟨#[]⟩, .int .i64 0, .slice none 0 0, .slice none 0 0]) (css := [[.int .u8 (e0 l bad).1]]) bd84 rfl rfl rfl rfl rfl ?_)
    refine l_cons (o_new tbOk rfl rfl rfl ?_)
    intro b3 w3 qb3 ew3 hb3
    have ne_he_h3 : ye ≠ b3 := by have := he.lt; omega
    have d_hfr_h3 : ∀ x, (Out (fun x => x = ye) w) x → x ≠ b3 := fun x hx => by have := (hfr.lt x hx).2; omega
    have ne_h2_h3 : b2 ≠ b3 := by have := h2.lt; omega
    have sw3 := Stp.add ew3 hlow hB (Nat.le_of_eq qb3.symm) hb3.lt
    have h3 : MB B (Rw.Add (Rw.Add M b2) b3) w3 b3 84 [.int .u8 0, .string ⟨#[]⟩, .string ⟨#[]⟩, .int .i64 0, .bool false, .int .u8 0, .string ⟨#[]⟩, .int .i64 0, .slice none 0 0, .slice none 0 0] := MB.mk' hb3 qb3 hB
    replace hT := hT.then sw3
    replace hfr := hfr.stp sw3 (fun x hx => ew3.block x (hfr.lt x hx).2)
    replace he := he.stp sw3 (ew3.block ye he.lt)
    replace h2 := h2.stp sw3 (ew3.block b2 h2.lt)
    replace hb := hb.stp sw3
    replace hlow := sw3.low
    replace hB := Nat.le_trans hB sw3.upd.1
    refine l_cons (o_st tbOk h3.box rfl rfl rfl rfl (by intro u hu; simp [Value.cells] at hu; rcases hu with rfl | rfl | rfl | rfl | rfl | rfl | rfl | rfl | rfl | rfl <;> rfl) rfl rfl ?_)
    intro w4 hw4 qw4 bew4
    have uw4 : UpdB _ _ _ := ⟨qw4, bew4⟩
    have sw4 := uw4.stp h3.inM hlow h3.ge
    have frw4 := qw4.2
    replace hT := hT.then sw4
    replace hfr := hfr.stp sw4 (fun x hx => frw4 x (hfr.lt x hx).2 (d_hfr_h3 x hx))
    replace he := he.stp sw4 (frw4 ye he.lt ne_he_h3)
    replace h2 := h2.stp sw4 (frw4 b2 h2.lt ne_h2_h3)
    replace hb := hb.stp sw4
    replace hlow := sw4.low
    replace hB := Nat.le_trans hB sw4.upd.1
    replace h3 : MB B _ w4 b3 _ [.int .u8 (e0 l bad).1, .string ⟨#[]⟩, .string ⟨#[]⟩, .int .i64 0, .bool false, .int .u8 0, .string ⟨#[]⟩, .int .i64 0, .slice none 0 0, .slice none 0 0] := ⟨hw4, h3.inM, h3.ge⟩
    refine q1 (q0 (l_p 1 tbOk rfl ?_))
    refine l_cons (o_ld tbOk (h3.cell 0 _ rfl) rfl rfl rfl rfl rfl ?_)
    refine l_cons (o_call fo104 rfl rfl rfl (prt_spec (e0 l bad).1 _) ?_)
    rintro _ _ ⟨rfl, rfl⟩
    refine l_p 9 tbOk rfl (q1 ?_)
    refine c_cut (X := Value) (fun bv => [(0, .pointer (some ⟨ye, 0, none⟩)), (2, .pointer (some ⟨b2, 0, none⟩)), (3, .pointer (some ⟨b3, 0, none⟩)), (5, .bool (prt (e0 l bad).1).2.1), (6, .bool (prt (e0 l bad).1).2.2.1), (7, .int .i64 (prt (e0 l bad).1).2.2.2)]) (fun bv w' => MB B (Rw.Add (Rw.Add M b2) b3) w' ye 130 [bv, .bool (e1 l bad).2.2] ∧ Sl (Rw.Add (Rw.Add M b2) b3) w' bv (e1 l bad).2.1 ∧ MB B (Rw.Add (Rw.Add M b2) b3) w' b2 84 [.int .u8 0, .string ⟨#[]⟩, .string ⟨#[]⟩, .int .i64 0, .bool false, .int .u8 0, .string ⟨#[]⟩, .int .i64 0, .slice none 0 0, .slice none 0 0] ∧ MB B (Rw.Add (Rw.Add M b2) b3) w' b3 84 [.int .u8 (e0 l bad).1, .string (e1 l bad).1, .string ⟨#[]⟩, .int .i64 0, .bool false, .int .u8 0, .string ⟨#[]⟩, .int .i64 0, .slice none 0 0, .slice none 0 0] ∧ Stp B M (Rw.Add (Rw.Add M b2) b3) w w' ∧ Kept w w' (Out (fun x => x = ye) w) ∧ Low (Rw.Add (Rw.Add M b2) b3) w' ∧ B ≤ w'.heap.size) ?_ ?_
    · refine q0 (l_p 1 tbOk rfl (q1 ?_))
      refine c_if _ rfl (fun c1 => ?_) (fun c1 => ?_)
      · refine c_reg (l_p 1 tbOk rfl ?_)
        refine l_cons (o_call fo73 rfl rfl rfl (eyeText_spec _ _ B ye _ _ _ he hb hlow hB) ?_)
        rintro _ w5 ⟨rfl, bvw5, hew5, hbw5, uw5⟩
        have sw5 := uw5.stp he.inM hlow he.ge
        have frw5 := uw5.upd.2
        replace hT := hT.then sw5
        replace hfr := hfr.stp sw5 (fun x hx => frw5 x (hfr.lt x hx).2 (d_hfr_he x hx))
        replace h2 := h2.stp sw5 (frw5 b2 h2.lt ne_he_h2.symm)
        replace h3 := h3.stp sw5 (frw5 b3 h3.lt ne_he_h3.symm)
        replace hlow := sw5.low
        replace hB := Nat.le_trans hB sw5.upd.1
        replace he := hew5
        replace hb := hbw5
        clear hew5 hbw5
        refine l_p 1 tbOk rfl ?_
        refine l_cons (o_st tbOk h3.box rfl rfl rfl rfl (by intro u hu; simp [Value.cells] at hu; subst hu; rfl) rfl rfl ?_)
        intro w6 hw6 qw6 bew6
        have uw6 : UpdB _ _ _ := ⟨qw6, bew6⟩
        have sw6 := uw6.stp h3.inM hlow h3.ge
        have frw6 := qw6.2
        replace hT := hT.then sw6
        replace hfr := hfr.stp sw6 (fun x hx => frw6 x (hfr.lt x hx).2 (d_hfr_h3 x hx))
        replace he := he.stp sw6 (frw6 ye he.lt ne_he_h3)
        replace h2 := h2.stp sw6 (frw6 b2 h2.lt ne_h2_h3)
        replace hb := hb.stp sw6
        replace hlow := sw6.low
        replace hB := Nat.le_trans hB sw6.upd.1
        replace h3 : MB B _ w6 b3 _ [.int .u8 (e0 l bad).1, .string (textE (e0 l bad).2.1 (e0 l bad).2.2).1, .string ⟨#[]⟩, .int .i64 0, .bool false, .int .u8 0, .string ⟨#[]⟩, .int .i64 0, .slice none 0 0, .slice none 0 0] := ⟨hw6, h3.inM, h3.ge⟩
        refine l_nil ?_
        have ee : e1 l bad = textE (e0 l bad).2.1 (e0 l bad).2.2 := by unfold e1 eT; rw [c1]; rfl
        exact x_cut (bvw5) (s6 rfl rfl rfl rfl rfl rfl) (by rw [ee]; exact ⟨he, hb, h2, h3, hT, hfr, hlow, hB⟩)
      refine c_skip ?_
      have ee : e1 l bad = (⟨#[]⟩, (e0 l bad).2.1, (e0 l bad).2.2) := by unfold e1 eT; rw [c1]; rfl
      exact x_cut (bvw2) (s6 rfl rfl rfl rfl rfl rfl) (by rw [ee]; exact ⟨he, hb, h2, h3, hT, hfr, hlow, hB⟩)
    clear he hb h2 h3 hT hfr hlow hB
    rintro bv w81 ⟨he, hb, h2, h3, hT, hfr, hlow, hB⟩
    refine c_cut (X := Value) (fun bv => [(0, .pointer (some ⟨ye, 0, none⟩)), (2, .pointer (some ⟨b2, 0, none⟩)), (3, .pointer (some ⟨b3, 0, none⟩)), (6, .bool (prt (e0 l bad).1).2.2.1), (7, .int .i64 (prt (e0 l bad).1).2.2.2)]) (fun bv w' => MB B (Rw.Add (Rw.Add M b2) b3) w' ye 130 [bv, .bool (e2 l bad).2.2] ∧ Sl (Rw.Add (Rw.Add M b2) b3) w' bv (e2 l bad).2.1 ∧ MB B (Rw.Add (Rw.Add M b2) b3) w' b2 84 [.int .u8 0, .string ⟨#[]⟩, .string ⟨#[]⟩, .int .i64 0, .bool false, .int .u8 0, .string ⟨#[]⟩, .int .i64 0, .slice none 0 0, .slice none 0 0] ∧ MB B (Rw.Add (Rw.Add M b2) b3) w' b3 84 [.int .u8 (e0 l bad).1, .string (e1 l bad).1, .string (e2 l bad).1, .int .i64 0, .bool false, .int .u8 0, .string ⟨#[]⟩, .int .i64 0, .slice none 0 0, .slice none 0 0] ∧ Stp B M (Rw.Add (Rw.Add M b2) b3) w w' ∧ Kept w w' (Out (fun x => x = ye) w) ∧ Low (Rw.Add (Rw.Add M b2) b3) w' ∧ B ≤ w'.heap.size) ?_ ?_
    · refine q0 (l_p 1 tbOk rfl (q1 ?_))
      refine c_if _ rfl (fun c2 => ?_) (fun c2 => ?_)
      · refine c_reg (l_p 1 tbOk rfl ?_)
        refine l_cons (o_call fo73 rfl rfl rfl (eyeText_spec _ _ B ye _ _ _ he hb hlow hB) ?_)
        rintro _ w7 ⟨rfl, bvw7, hew7, hbw7, uw7⟩
        have sw7 := uw7.stp he.inM hlow he.ge
        have frw7 := uw7.upd.2
        replace hT := hT.then sw7
        replace hfr := hfr.stp sw7 (fun x hx => frw7 x (hfr.lt x hx).2 (d_hfr_he x hx))
        replace h2 := h2.stp sw7 (frw7 b2 h2.lt ne_he_h2.symm)
        replace h3 := h3.stp sw7 (frw7 b3 h3.lt ne_he_h3.symm)
        replace hlow := sw7.low
        replace hB := Nat.le_trans hB sw7.upd.1
        replace he := hew7
        replace hb := hbw7
        clear hew7 hbw7
        refine l_p 1 tbOk rfl ?_
        refine l_cons (o_st tbOk h3.box rfl rfl rfl rfl (by intro u hu; simp [Value.cells] at hu; subst hu; rfl) rfl rfl ?_)
        intro w8 hw8 qw8 bew8
        have uw8 : UpdB _ _ _ := ⟨qw8, bew8⟩
        have sw8 := uw8.stp h3.inM hlow h3.ge
        have frw8 := qw8.2
        replace hT := hT.then sw8
        replace hfr := hfr.stp sw8 (fun x hx => frw8 x (hfr.lt x hx).2 (d_hfr_h3 x hx))
        replace he := he.stp sw8 (frw8 ye he.lt ne_he_h3)
        replace h2 := h2.stp sw8 (frw8 b2 h2.lt ne_h2_h3)
        replace hb := hb.stp sw8
        replace hlow := sw8.low
        replace hB := Nat.le_trans hB sw8.upd.1
        replace h3 : MB B _ w8 b3 _ [.int .u8 (e0 l bad).1, .string (e1 l bad).1, .string (textE (e1 l bad).2.1 (e1 l bad).2.2).1, .int .i64 0, .bool false, .int .u8 0, .string ⟨#[]⟩, .int .i64 0, .slice none 0 0, .slice none 0 0] := ⟨hw8, h3.inM, h3.ge⟩
        refine l_nil ?_
        have ee : e2 l bad = textE (e1 l bad).2.1 (e1 l bad).2.2 := by unfold e2 eT; rw [c2]; rfl
        exact x_cut (bvw7) (s5 rfl rfl rfl rfl rfl) (by rw [ee]; exact ⟨he, hb, h2, h3, hT, hfr, hlow, hB⟩)
      refine c_skip ?_
      have ee : e2 l bad = (⟨#[]⟩, (e1 l bad).2.1, (e1 l bad).2.2) := by unfold e2 eT; rw [c2]; rfl
      exact x_cut (bv) (s5 rfl rfl rfl rfl rfl) (by rw [ee]; exact ⟨he, hb, h2, h3, hT, hfr, hlow, hB⟩)
    clear he hb h2 h3 hT hfr hlow hB
    rintro bv w82 ⟨he, hb, h2, h3, hT, hfr, hlow, hB⟩
    refine c_cut (X := Value) (fun bv => [(0, .pointer (some ⟨ye, 0, none⟩)), (2, .pointer (some ⟨b2, 0, none⟩)), (3, .pointer (some ⟨b3, 0, none⟩)), (7, .int .i64 (prt (e0 l bad).1).2.2.2)]) (fun bv w' => MB B (Rw.Add (Rw.Add M b2) b3) w' ye 130 [bv, .bool (e3 l bad).2.2] ∧ Sl (Rw.Add (Rw.Add M b2) b3) w' bv (e3 l bad).2.1 ∧ MB B (Rw.Add (Rw.Add M b2) b3) w' b2 84 [.int .u8 0, .string ⟨#[]⟩, .string ⟨#[]⟩, .int .i64 0, .bool false, .int .u8 0, .string ⟨#[]⟩, .int .i64 0, .slice none 0 0, .slice none 0 0] ∧ MB B (Rw.Add (Rw.Add M b2) b3) w' b3 84 [.int .u8 (e0 l bad).1, .string (e1 l bad).1, .string (e2 l bad).1, .int .i64 ((e3 l bad).1 : Int), .bool false, .int .u8 0, .string ⟨#[]⟩, .int .i64 0, .slice none 0 0, .slice none 0 0] ∧ Stp B M (Rw.Add (Rw.Add M b2) b3) w w' ∧ Kept w w' (Out (fun x => x = ye) w) ∧ Low (Rw.Add (Rw.Add M b2) b3) w' ∧ B ≤ w'.heap.size) ?_ ?_
    · refine q0 (l_p 1 tbOk rfl (q1 ?_))
      refine c_if _ rfl (fun c3 => ?_) (fun c3 => ?_)
      · refine c_reg (l_p 1 tbOk rfl ?_)
        refine l_cons (o_call fo101 rfl rfl rfl (eyeNum_spec _ _ B ye _ _ _ he hb hlow hB) ?_)
        rintro _ w9 ⟨rfl, bvw9, hew9, hbw9, uw9⟩
        have sw9 := uw9.stp he.inM hlow he.ge
        have frw9 := uw9.upd.2
        replace hT := hT.then sw9
        replace hfr := hfr.stp sw9 (fun x hx => frw9 x (hfr.lt x hx).2 (d_hfr_he x hx))
        replace h2 := h2.stp sw9 (frw9 b2 h2.lt ne_he_h2.symm)
        replace h3 := h3.stp sw9 (frw9 b3 h3.lt ne_he_h3.symm)
        replace hlow := sw9.low
        replace hB := Nat.le_trans hB sw9.upd.1
        replace he := hew9
        replace hb := hbw9
        clear hew9 hbw9
        have hnl := numE_less (e2 l bad).2.1 (e2 l bad).2.2
        refine l_cons (o_conv (y := (((numE (e2 l bad).2.1 (e2 l bad).2.2).1 : Nat) : Int)) tbOk rfl rfl rfl rfl rfl (IntWalk.i64_in _ (by omega)) rfl rfl ?_)
        refine l_p 1 tbOk rfl ?_
        refine l_cons (o_st tbOk h3.box rfl rfl rfl rfl (by intro u hu; simp [Value.cells] at hu; subst hu; rfl) rfl rfl ?_)
        intro w10 hw10 qw10 bew10
        have uw10 : UpdB _ _ _ := ⟨qw10, bew10⟩
        have sw10 := uw10.stp h3.inM hlow h3.ge
        have frw10 := qw10.2
        replace hT := hT.then sw10
        replace hfr := hfr.stp sw10 (fun x hx => frw10 x (hfr.lt x hx).2 (d_hfr_h3 x hx))
        replace he := he.stp sw10 (frw10 ye he.lt ne_he_h3)
        replace h2 := h2.stp sw10 (frw10 b2 h2.lt ne_h2_h3)
        replace hb := hb.stp sw10
        replace hlow := sw10.low
        replace hB := Nat.le_trans hB sw10.upd.1
        replace h3 : MB B _ w10 b3 _ [.int .u8 (e0 l bad).1, .string (e1 l bad).1, .string (e2 l bad).1, .int .i64 (((numE (e2 l bad).2.1 (e2 l bad).2.2).1 : Nat) : Int), .bool false, .int .u8 0, .string ⟨#[]⟩, .int .i64 0, .slice none 0 0, .slice none 0 0] := ⟨hw10, h3.inM, h3.ge⟩
        refine l_nil ?_
        have ee : e3 l bad = numE (e2 l bad).2.1 (e2 l bad).2.2 := by unfold e3 eN; rw [c3]; rfl
        exact x_cut (bvw9) (s4 rfl rfl rfl rfl) (by rw [ee]; exact ⟨he, hb, h2, h3, hT, hfr, hlow, hB⟩)
      refine c_skip ?_
      have ee : e3 l bad = (0, (e2 l bad).2.1, (e2 l bad).2.2) := by unfold e3 eN; rw [c3]; rfl
      exact x_cut (bv) (s4 rfl rfl rfl rfl) (by rw [ee]; exact ⟨he, hb, h2, h3, hT, hfr, hlow, hB⟩)
    clear he hb h2 h3 hT hfr hlow hB
    rintro bv w83 ⟨he, hb, h2, h3, hT, hfr, hlow, hB⟩
    refine q0 (l_p 3 tbOk rfl ?_)
    refine l_cons (o_st tbOk h3.box rfl rfl rfl rfl (by intro u hu; simp [Value.cells] at hu; subst hu; rfl) rfl rfl ?_)
    intro w11 hw11 qw11 bew11
    have uw11 : UpdB _ _ _ := ⟨qw11, bew11⟩
    have sw11 := uw11.stp h3.inM hlow h3.ge
    have frw11 := qw11.2
    replace hT := hT.then sw11
    replace hfr := hfr.stp sw11 (fun x hx => frw11 x (hfr.lt x hx).2 (d_hfr_h3 x hx))
    replace he := he.stp sw11 (frw11 ye he.lt ne_he_h3)
    replace h2 := h2.stp sw11 (frw11 b2 h2.lt ne_h2_h3)
    replace hb := hb.stp sw11
    replace hlow := sw11.low
    replace hB := Nat.le_trans hB sw11.upd.1
    replace h3 : MB B _ w11 b3 _ [.int .u8 (e0 l bad).1, .string (e1 l bad).1, .string (e2 l bad).1, .int .i64 ((e3 l bad).1 : Int), .bool (decide ((prt (e0 l bad).1).2.2.2 = 2)), .int .u8 0, .string ⟨#[]⟩, .int .i64 0, .slice none 0 0, .slice none 0 0] := ⟨hw11, h3.inM, h3.ge⟩
    refine q1 ?_
    refine c_cut (X := Value) (fun bv => [(0, .pointer (some ⟨ye, 0, none⟩)), (2, .pointer (some ⟨b2, 0, none⟩)), (3, .pointer (some ⟨b3, 0, none⟩))]) (fun bv w' => MB B (Rw.Add (Rw.Add M b2) b3) w' ye 130 [bv, .bool (e4 l bad).2.2] ∧ Sl (Rw.Add (Rw.Add M b2) b3) w' bv (e4 l bad).2.1 ∧ MB B (Rw.Add (Rw.Add M b2) b3) w' b2 84 [.int .u8 0, .string ⟨#[]⟩, .string ⟨#[]⟩, .int .i64 0, .bool false, .int .u8 0, .string ⟨#[]⟩, .int .i64 0, .slice none 0 0, .slice none 0 0] ∧ MB B (Rw.Add (Rw.Add M b2) b3) w' b3 84 [.int .u8 (e0 l bad).1, .string (e1 l bad).1, .string (e2 l bad).1, .int .i64 ((e3 l bad).1 : Int), .bool (e4 l bad).1, .int .u8 0, .string ⟨#[]⟩, .int .i64 0, .slice none 0 0, .slice none 0 0] ∧ Stp B M (Rw.Add (Rw.Add M b2) b3) w w' ∧ Kept w w' (Out (fun x => x = ye) w) ∧ Low (Rw.Add (Rw.Add M b2) b3) w' ∧ B ≤ w'.heap.size) ?_ ?_
    · refine q0 (l_p 2 tbOk rfl (q1 ?_))
      refine c_ifP _ rfl (fun c4 => ?_) (fun c4 => ?_)
      · refine q0 (l_p 1 tbOk rfl ?_)
        refine l_cons (o_call fo103 rfl rfl rfl (eyeOne_spec _ _ B ye _ _ _ he hb hlow hB) ?_)
        rintro _ w12 ⟨rfl, bvw12, hew12, hbw12, uw12⟩
        have sw12 := uw12.stp he.inM hlow he.ge
        have frw12 := uw12.upd.2
        replace hT := hT.then sw12
        replace hfr := hfr.stp sw12 (fun x hx => frw12 x (hfr.lt x hx).2 (d_hfr_he x hx))
        replace h2 := h2.stp sw12 (frw12 b2 h2.lt ne_he_h2.symm)
        replace h3 := h3.stp sw12 (frw12 b3 h3.lt ne_he_h3.symm)
        replace hlow := sw12.low
        replace hB := Nat.le_trans hB sw12.upd.1
        replace he := hew12
        replace hb := hbw12
        clear hew12 hbw12
        refine l_p 1 tbOk rfl (q1 (c_seq (q0 (l_p 2 tbOk rfl (q1 ?_)))))
        refine c_ifP _ rfl (fun c5 => ?_) (fun c5 => ?_)
        · refine c_reg (l_p 1 tbOk rfl ?_)
          refine l_cons (o_call fo102 rfl rfl rfl (eyeFail_spec _ _ B ye _ _ _ he hb hlow hB) ?_)
          rintro _ w13 ⟨rfl, bvw13, hew13, hbw13, uw13⟩
          have sw13 := uw13.stp he.inM hlow he.ge
          have frw13 := uw13.upd.2
          replace hT := hT.then sw13
          replace hfr := hfr.stp sw13 (fun x hx => frw13 x (hfr.lt x hx).2 (d_hfr_he x hx))
          replace h2 := h2.stp sw13 (frw13 b2 h2.lt ne_he_h2.symm)
          replace h3 := h3.stp sw13 (frw13 b3 h3.lt ne_he_h3.symm)
          replace hlow := sw13.low
          replace hB := Nat.le_trans hB sw13.upd.1
          replace he := hew13
          replace hb := hbw13
          clear hew13 hbw13
          refine q1 (c_reg (l_p 3 tbOk rfl ?_))
          refine l_cons (o_st tbOk h3.box rfl rfl rfl rfl (by intro u hu; simp [Value.cells] at hu; subst hu; rfl) rfl rfl ?_)
          intro w14 hw14 qw14 bew14
          have uw14 : UpdB _ _ _ := ⟨qw14, bew14⟩
          have sw14 := uw14.stp h3.inM hlow h3.ge
          have frw14 := qw14.2
          replace hT := hT.then sw14
          replace hfr := hfr.stp sw14 (fun x hx => frw14 x (hfr.lt x hx).2 (d_hfr_h3 x hx))
          replace he := he.stp sw14 (frw14 ye he.lt ne_he_h3)
          replace h2 := h2.stp sw14 (frw14 b2 h2.lt ne_h2_h3)
          replace hb := hb.stp sw14
          replace hlow := sw14.low
          replace hB := Nat.le_trans hB sw14.upd.1
          replace h3 : MB B _ w14 b3 _ [.int .u8 (e0 l bad).1, .string (e1 l bad).1, .string (e2 l bad).1, .int .i64 ((e3 l bad).1 : Int), .bool (decide ((((e3 l bad).2.1.headD 0).toNat : Int) = 1)), .int .u8 0, .string ⟨#[]⟩, .int .i64 0, .slice none 0 0, .slice none 0 0] := ⟨hw14, h3.inM, h3.ge⟩
          refine l_nil ?_
          have ee : e4 l bad = (decide ((((e3 l bad).2.1.headD 0).toNat : Int) = 1), [], true) := by unfold e4 eH; rw [decide_eq_true c4, u8_one]; simp only [cond_true]; rw [decide_eq_true (show 1 < ((e3 l bad).2.1.headD 0).toNat by omega)]; simp
          exact x_cut (bvw13) (s3 rfl rfl rfl) (by rw [ee]; exact ⟨he, hb, h2, h3, hT, hfr, hlow, hB⟩)
        refine c_skip (x_seq (c_reg (l_p 3 tbOk rfl ?_)))
        refine l_cons (o_st tbOk h3.box rfl rfl rfl rfl (by intro u hu; simp [Value.cells] at hu; subst hu; rfl) rfl rfl ?_)
        intro w15 hw15 qw15 bew15
        have uw15 : UpdB _ _ _ := ⟨qw15, bew15⟩
        have sw15 := uw15.stp h3.inM hlow h3.ge
        have frw15 := qw15.2
        replace hT := hT.then sw15
        replace hfr := hfr.stp sw15 (fun x hx => frw15 x (hfr.lt x hx).2 (d_hfr_h3 x hx))
        replace he := he.stp sw15 (frw15 ye he.lt ne_he_h3)
        replace h2 := h2.stp sw15 (frw15 b2 h2.lt ne_h2_h3)
        replace hb := hb.stp sw15
        replace hlow := sw15.low
        replace hB := Nat.le_trans hB sw15.upd.1
        replace h3 : MB B _ w15 b3 _ [.int .u8 (e0 l bad).1, .string (e1 l bad).1, .string (e2 l bad).1, .int .i64 ((e3 l bad).1 : Int), .bool (decide ((((e3 l bad).2.1.headD 0).toNat : Int) = 1)), .int .u8 0, .string ⟨#[]⟩, .int .i64 0, .slice none 0 0, .slice none 0 0] := ⟨hw15, h3.inM, h3.ge⟩
        refine l_nil ?_
        have ee : e4 l bad = (decide ((((e3 l bad).2.1.headD 0).toNat : Int) = 1), (e3 l bad).2.1.tail, ((e3 l bad).2.2 || (e3 l bad).2.1.isEmpty)) := by unfold e4 eH; rw [decide_eq_true c4, u8_one]; simp only [cond_true]; rw [decide_eq_false (show ¬ 1 < ((e3 l bad).2.1.headD 0).toNat by omega)]; simp
        exact x_cut (bvw12) (s3 rfl rfl rfl) (by rw [ee]; exact ⟨he, hb, h2, h3, hT, hfr, hlow, hB⟩)
      refine c_skip ?_
      have ee : e4 l bad = (decide ((prt (e0 l bad).1).2.2.2 = 2), (e3 l bad).2.1, (e3 l bad).2.2) := by unfold e4 eH; rw [decide_eq_false c4]; rfl
      exact x_cut (bv) (s3 rfl rfl rfl) (by rw [ee]; exact ⟨he, hb, h2, h3, hT, hfr, hlow, hB⟩)
    clear he hb h2 h3 hT hfr hlow hB
    rintro bv w84 ⟨he, hb, h2, h3, hT, hfr, hlow, hB⟩
    refine c_cut2 (X := Value) (Y := Value) (fun bv akv => [(0, .pointer (some ⟨ye, 0, none⟩)), (2, .pointer (some ⟨b2, 0, none⟩)), (3, .pointer (some ⟨b3, 0, none⟩))]) (fun bv akv w' => MB B (Rw.Add (Rw.Add M b2) b3) w' ye 130 [bv, .bool (e5 l bad).2.2] ∧ Sl (Rw.Add (Rw.Add M b2) b3) w' bv (e5 l bad).2.1 ∧ MB B (Rw.Add (Rw.Add M b2) b3) w' b2 84 [.int .u8 0, .string ⟨#[]⟩, .string ⟨#[]⟩, .int .i64 0, .bool false, .int .u8 0, .string ⟨#[]⟩, .int .i64 0, .slice none 0 0, .slice none 0 0] ∧ MB B (Rw.Add (Rw.Add M b2) b3) w' b3 84 [.int .u8 (e0 l bad).1, .string (e1 l bad).1, .string (e2 l bad).1, .int .i64 ((e3 l bad).1 : Int), .bool (e4 l bad).1, .int .u8 (e5 l bad).1.op, .string (e5 l bad).1.name, .int .i64 (e5 l bad).1.n, akv, .slice none 0 0] ∧ Stp B M (Rw.Add (Rw.Add M b2) b3) w w' ∧ Kept w w' (Out (fun x => x = ye) w) ∧ Low (Rw.Add (Rw.Add M b2) b3) w' ∧ B ≤ w'.heap.size ∧ Rep.R (Rw.Add (Rw.Add M b2) b3) w' (.agg #[.int .u8 (e5 l bad).1.op, .string (e5 l bad).1.name, .int .i64 (e5 l bad).1.n, akv]) (e5 l bad).1) ?_ ?_
    · refine q0 (l_p 1 tbOk rfl ?_)
      refine l_cons (o_ld tbOk (h3.cell 4 _ rfl) rfl rfl rfl rfl rfl ?_)
      refine q1 ?_
      refine c_if _ rfl (fun c6 => ?_) (fun c6 => ?_)
      · refine c_reg (l_p 1 tbOk rfl ?_)
        refine l_cons (o_call fo77 rfl rfl rfl (eyeKind_spec ((e4 l bad).2.1.length + 1) (e4 l bad).2.1 (e4 l bad).2.2 _ _ B ye _ he hb hlow hB (by omega) (by omega)) ?_)
        rintro vhc w16 ⟨hc, ⟨bvw16, hew16, hbw16⟩, sw16, kw16⟩
        have frw16 : ∀ x, x < w84.heap.size → x ≠ ye → w16.heap[x]? = w84.heap[x]? := fun x hx hn => kw16.blk x ⟨hx, hn⟩
        replace hT := hT.then sw16
        replace hfr := hfr.stp sw16 (fun x hx => frw16 x (hfr.lt x hx).2 (d_hfr_he x hx))
        replace h2 := h2.stp sw16 (frw16 b2 h2.lt ne_he_h2.symm)
        replace h3 := h3.stp sw16 (frw16 b3 h3.lt ne_he_h3.symm)
        replace hlow := sw16.low
        replace hB := Nat.le_trans hB sw16.upd.1
        replace he := hew16
        replace hb := hbw16
        clear hew16 hbw16
        have ee : e5 l bad = kindE ((e4 l bad).2.1.length + 1) (e4 l bad).2.1 (e4 l bad).2.2 := by unfold e5 eA; rw [c6]; rfl
        rw [← ee] at hc he hb
        obtain ⟨kvc, rfl, opc, nmc, n64c, hkc⟩ := ty_open hc
        refine l_p 1 tbOk rfl ?_
        refine l_cons (o_st tbOk h3.box rfl rfl rfl rfl (Rep.one hc) rfl rfl ?_)
        intro w17 hw17 qw17 bew17
        have uw17 : UpdB _ _ _ := ⟨qw17, bew17⟩
        have sw17 := uw17.stp h3.inM hlow h3.ge
        have frw17 := qw17.2
        replace hT := hT.then sw17
        replace hfr := hfr.stp sw17 (fun x hx => frw17 x (hfr.lt x hx).2 (d_hfr_h3 x hx))
        replace he := he.stp sw17 (frw17 ye he.lt ne_he_h3)
        replace h2 := h2.stp sw17 (frw17 b2 h2.lt ne_h2_h3)
        replace hb := hb.stp sw17
        replace hc := Rep.stp hc sw17
        replace hlow := sw17.low
        replace hB := Nat.le_trans hB sw17.upd.1
        replace h3 : MB B _ w17 b3 _ [.int .u8 (e0 l bad).1, .string (e1 l bad).1, .string (e2 l bad).1, .int .i64 ((e3 l bad).1 : Int), .bool (e4 l bad).1, .int .u8 (e5 l bad).1.op, .string (e5 l bad).1.name, .int .i64 (e5 l bad).1.n, kvc, .slice none 0 0] := ⟨hw17, h3.inM, h3.ge⟩
        refine l_nil ?_
        have ha := hc
        exact x_cut2 (bvw16) (kvc) (s3 rfl rfl rfl) ⟨he, hb, h2, h3, hT, hfr, hlow, hB, ha⟩
      refine c_skip ?_
      have ha : Rep.R (Rw.Add (Rw.Add M b2) b3) w84 (.agg #[.int .u8 0, .string ⟨#[]⟩, .int .i64 0, .slice none 0 0]) (.mk 0 ⟨#[]⟩ 0 [] : Ty) := ty_mk (by decide) (by decide) ⟨by decide, by decide⟩ sl_nil
      have ee : e5 l bad = ((.mk 0 ⟨#[]⟩ 0 [] : Ty), (e4 l bad).2.1, (e4 l bad).2.2) := by unfold e5 eA; rw [c6]; rfl
      exact x_cut2 (bv) (.slice none 0 0) (s3 rfl rfl rfl) (by rw [ee]; exact ⟨he, hb, h2, h3, hT, hfr, hlow, hB, ha⟩)
    clear he hb h2 h3 hT hfr hlow hB
    rintro bv akv w85 ⟨he, hb, h2, h3, hT, hfr, hlow, hB, ha⟩
    refine q0 (l_p 1 tbOk rfl ?_)
    refine l_cons (o_ld tbOk (h3.cell 0 _ rfl) rfl rfl rfl rfl rfl ?_)
    refine l_cons (o_call fo105 rfl rfl rfl (cnt_spec (e0 l bad).1 _) ?_)
    rintro _ _ ⟨rfl, rfl⟩
    refine l_p 1 tbOk rfl (q1 ?_)
    refine c_cut2 (X := Value) (Y := Value) (fun bv akv => [(0, .pointer (some ⟨ye, 0, none⟩)), (2, .pointer (some ⟨b2, 0, none⟩)), (3, .pointer (some ⟨b3, 0, none⟩)), (9, .int .i64 ((e6 l bad).1 : Int))]) (fun bv akv w' => MB B (Rw.Add (Rw.Add M b2) b3) w' ye 130 [bv, .bool (e6 l bad).2.2] ∧ Sl (Rw.Add (Rw.Add M b2) b3) w' bv (e6 l bad).2.1 ∧ MB B (Rw.Add (Rw.Add M b2) b3) w' b2 84 [.int .u8 0, .string ⟨#[]⟩, .string ⟨#[]⟩, .int .i64 0, .bool false, .int .u8 0, .string ⟨#[]⟩, .int .i64 0, .slice none 0 0, .slice none 0 0] ∧ MB B (Rw.Add (Rw.Add M b2) b3) w' b3 84 [.int .u8 (e0 l bad).1, .string (e1 l bad).1, .string (e2 l bad).1, .int .i64 ((e3 l bad).1 : Int), .bool (e4 l bad).1, .int .u8 (e5 l bad).1.op, .string (e5 l bad).1.name, .int .i64 (e5 l bad).1.n, akv, .slice none 0 0] ∧ Stp B M (Rw.Add (Rw.Add M b2) b3) w w' ∧ Kept w w' (Out (fun x => x = ye) w) ∧ Low (Rw.Add (Rw.Add M b2) b3) w' ∧ B ≤ w'.heap.size ∧ Rep.R (Rw.Add (Rw.Add M b2) b3) w' (.agg #[.int .u8 (e5 l bad).1.op, .string (e5 l bad).1.name, .int .i64 (e5 l bad).1.n, akv]) (e5 l bad).1) ?_ ?_
    · refine q0 (l_p 2 tbOk rfl (q1 ?_))
      refine c_ifP _ rfl (fun c7 => ?_) (fun c7 => ?_)
      · refine q0 (l_p 1 tbOk rfl ?_)
        refine l_cons (o_call fo101 rfl rfl rfl (eyeNum_spec _ _ B ye _ _ _ he hb hlow hB) ?_)
        rintro _ w18 ⟨rfl, bvw18, hew18, hbw18, uw18⟩
        have sw18 := uw18.stp he.inM hlow he.ge
        have frw18 := uw18.upd.2
        replace hT := hT.then sw18
        replace hfr := hfr.stp sw18 (fun x hx => frw18 x (hfr.lt x hx).2 (d_hfr_he x hx))
        replace h2 := h2.stp sw18 (frw18 b2 h2.lt ne_he_h2.symm)
        replace h3 := h3.stp sw18 (frw18 b3 h3.lt ne_he_h3.symm)
        replace ha := Rep.stp ha sw18
        replace hlow := sw18.low
        replace hB := Nat.le_trans hB sw18.upd.1
        replace he := hew18
        replace hb := hbw18
        clear hew18 hbw18
        have hnl := numE_less (e5 l bad).2.1 (e5 l bad).2.2
        refine l_p 1 tbOk rfl (q1 (c_seq (q0 (l_p 4 tbOk rfl ?_))))
        refine l_cons (o_ld tbOk (he.cell 0 _ rfl) rfl rfl rfl rfl rfl ?_)
        refine l_cons (o_len tbOk hb rfl rfl rfl rfl rfl ?_)
        have hlt2 := hb.lt
        refine l_cons (o_conv (y := (((numE (e5 l bad).2.1 (e5 l bad).2.2).2.1.length : Nat) : Int)) tbOk rfl rfl rfl rfl rfl ((wrap_u64 _).trans (by rw [u64_nat (by omega)])) rfl rfl ?_)
        refine l_p 1 tbOk rfl (q1 ?_)
        refine c_ifP _ rfl (fun c8 => ?_) (fun c8 => ?_)
        · refine q0 (l_p 1 tbOk rfl ?_)
          refine l_cons (o_call fo102 rfl rfl rfl (eyeFail_spec _ _ B ye _ _ _ he hb hlow hB) ?_)
          rintro _ w19 ⟨rfl, bvw19, hew19, hbw19, uw19⟩
          have sw19 := uw19.stp he.inM hlow he.ge
          have frw19 := uw19.upd.2
          replace hT := hT.then sw19
          replace hfr := hfr.stp sw19 (fun x hx => frw19 x (hfr.lt x hx).2 (d_hfr_he x hx))
          replace h2 := h2.stp sw19 (frw19 b2 h2.lt ne_he_h2.symm)
          replace h3 := h3.stp sw19 (frw19 b3 h3.lt ne_he_h3.symm)
          replace ha := Rep.stp ha sw19
          replace hlow := sw19.low
          replace hB := Nat.le_trans hB sw19.upd.1
          replace he := hew19
          replace hb := hbw19
          clear hew19 hbw19
          refine q1 (q0 ?_)
          refine l_cons (o_lds tbOk (fun j v hv => h3.cell j v hv) rfl rfl rfl rfl rfl rfl ?_)
          refine l_cons (o_st tbOk h2.box rfl rfl rfl rfl (by intro u hu; simp [Value.cells] at hu; have := Rep.one ha; simp [Value.cells] at this; rcases hu with rfl | rfl | rfl | rfl | rfl | rfl | rfl | rfl | rfl | rfl <;> first | rfl | exact this.2.2.2) rfl rfl ?_)
          intro w20 hw20 qw20 bew20
          have uw20 : UpdB _ _ _ := ⟨qw20, bew20⟩
          have sw20 := uw20.stp h2.inM hlow h2.ge
          have frw20 := qw20.2
          replace hT := hT.then sw20
          replace hfr := hfr.stp sw20 (fun x hx => frw20 x (hfr.lt x hx).2 (d_hfr_h2 x hx))
          replace he := he.stp sw20 (frw20 ye he.lt ne_he_h2)
          replace h3 := h3.stp sw20 (frw20 b3 h3.lt ne_h2_h3.symm)
          replace hb := hb.stp sw20
          replace ha := Rep.stp ha sw20
          replace hlow := sw20.low
          replace hB := Nat.le_trans hB sw20.upd.1
          replace h2 : MB B _ w20 b2 _ [.int .u8 (e0 l bad).1, .string (e1 l bad).1, .string (e2 l bad).1, .int .i64 ((e3 l bad).1 : Int), .bool (e4 l bad).1, .int .u8 (e5 l bad).1.op, .string (e5 l bad).1.name, .int .i64 (e5 l bad).1.n, akv, .slice none 0 0] := ⟨hw20, h2.inM, h2.ge⟩
          refine q1 (c_ret (x_seqR (x_seqR ?_)))
          refine x_ret1s tbOk (fun j v hv => h2.cell j v hv) rfl rfl rfl rfl rfl ?_
          have ee : e6 l bad = (0, [], true) := by unfold e6 eC; rw [decide_eq_true c7, cond_true, decide_eq_true (by omega), cond_true]
          have hsl2 : Sl M w20 (.slice none 0 0) ([] : List Tm) := sl_nil
          rw [termE, ee]
          exact ⟨tm_mk (by unfold e0; simp only; omega) (by omega) (by omega) (by unfold I64; omega) (Rep.wk ha (fun b _ h => hT.sub b h)) hsl2, ⟨_, ⟨he.box, he0.inM, he0.ge⟩, Sl.wk hb (fun b _ h => hT.sub b h)⟩, hT.drop hlow0, hfr⟩
        refine c_skip (x_seq (c_reg (l_p 1 tbOk rfl ?_)))
        refine l_cons (o_conv (y := (((numE (e5 l bad).2.1 (e5 l bad).2.2).1 : Nat) : Int)) tbOk rfl rfl rfl rfl rfl (IntWalk.i64_in _ (by omega)) rfl rfl ?_)
        refine l_p 1 tbOk rfl (l_nil ?_)
        have ee : e6 l bad = numE (e5 l bad).2.1 (e5 l bad).2.2 := by unfold e6 eC; rw [decide_eq_true c7, cond_true, decide_eq_false (by omega), cond_false]
        exact x_cut2 (bvw18) (akv) (s4 rfl rfl rfl (get_num rfl (by rw [ee]))) (by rw [ee]; exact ⟨he, hb, h2, h3, hT, hfr, hlow, hB, ha⟩)
      refine c_skip ?_
      have ee : e6 l bad = ((cnt (e0 l bad).1).toNat, (e5 l bad).2.1, (e5 l bad).2.2) := by unfold e6 eC; rw [decide_eq_false c7]; rfl
      exact x_cut2 (bv) (akv) (s4 rfl rfl rfl (get_num rfl (by rw [ee]; show cnt _ = ((cnt _).toNat : Int); omega))) (by rw [ee]; exact ⟨he, hb, h2, h3, hT, hfr, hlow, hB, ha⟩)
    clear he hb h2 h3 hT hfr hlow hB ha
    rintro bv akv w86 ⟨he, hb, h2, h3, hT, hfr, hlow, hB, ha⟩
    refine c_seq (q0 (l_p 2 tbOk rfl (q1 (c_blk ?_))))
    have d_ho_he : ∀ x, (.slice none 0 0 : Value).ownBlock = some x → x ≠ ye := fun x hx => by simp [Value.ownBlock] at hx
    have dd_ho_hfr : ∀ x y, (.slice none 0 0 : Value).ownBlock = some x → (Out (fun x => x = ye) w) y → x ≠ y := fun x y hx => by simp [Value.ownBlock] at hx
    have d_ho_h2 : ∀ x, (.slice none 0 0 : Value).ownBlock = some x → x ≠ b2 := fun x hx => by simp [Value.ownBlock] at hx
    have d_ho_h3 : ∀ x, (.slice none 0 0 : Value).ownBlock = some x → x ≠ b3 := fun x hx => by simp [Value.ownBlock] at hx
    refine c_loop6 (X := Nat) (Y := Value) (Z := Nat → Prop) (U := Value) (V := List Tm) (T := List UInt8 × Bool) (fun i wv M1 bv ks st => [(0, .pointer (some ⟨ye, 0, none⟩)), (2, .pointer (some ⟨b2, 0, none⟩)), (3, .pointer (some ⟨b3, 0, none⟩)), (74, .int .i64 ((e6 l bad).1 : Int)), (75, .int .i64 (i : Nat))]) (fun i wv M1 bv ks st w' => i ≤ (e6 l bad).1 ∧ kidsE (termE k) (e6 l bad).1 (e6 l bad).2.1 (e6 l bad).2.2 = (ks ++ (kidsE (termE k) ((e6 l bad).1 - i) st.1 st.2).1, (kidsE (termE k) ((e6 l bad).1 - i) st.1 st.2).2) ∧ ks.length = i ∧ st.1.length ≤ l.length ∧ (st.2 = false → st.1.length < k) ∧ OwnSl 84 B M1 w' wv ks ∧ MB B M1 w' ye 130 [bv, .bool st.2] ∧ Sl M1 w' bv st.1 ∧ MB B M1 w' b2 84 [.int .u8 0, .string ⟨#[]⟩, .string ⟨#[]⟩, .int .i64 0, .bool false, .int .u8 0, .string ⟨#[]⟩, .int .i64 0, .slice none 0 0, .slice none 0 0] ∧ MB B M1 w' b3 84 [.int .u8 (e0 l bad).1, .string (e1 l bad).1, .string (e2 l bad).1, .int .i64 ((e3 l bad).1 : Int), .bool (e4 l bad).1, .int .u8 (e5 l bad).1.op, .string (e5 l bad).1.name, .int .i64 (e5 l bad).1.n, akv, wv] ∧ Stp B M M1 w w' ∧ Kept w w' (Out (fun x => x = ye) w) ∧ Low M1 w' ∧ B ≤ w'.heap.size ∧ Rep.R M1 w' (.agg #[.int .u8 (e5 l bad).1.op, .string (e5 l bad).1.name, .int .i64 (e5 l bad).1.n, akv]) (e5 l bad).1 ∧ (∀ x, (Out (fun x => x = ye) w) x → x ≠ ye) ∧ (∀ x, (Out (fun x => x = ye) w) x → x ≠ b2) ∧ (∀ x, (Out (fun x => x = ye) w) x → x ≠ b3) ∧ (∀ x, (wv : Value).ownBlock = some x → x ≠ ye) ∧ (∀ x y, (wv : Value).ownBlock = some x → (Out (fun x => x = ye) w) y → x ≠ y) ∧ (∀ x, (wv : Value).ownBlock = some x → x ≠ b2) ∧ (∀ x, (wv : Value).ownBlock = some x → x ≠ b3)) (fun i wv M1 bv ks st => (e6 l bad).1 - i) (0) (.slice none 0 0) ((Rw.Add (Rw.Add M b2) b3)) (bv) ([]) (((e6 l bad).2.1, (e6 l bad).2.2)) (s5 rfl rfl rfl rfl rfl) ?_ ?_
    · refine ⟨Nat.zero_le _, rfl, rfl, by simp only; omega, fun h => ?_, own_nil, he, hb, h2, h3, hT, hfr, hlow, hB, ha, d_hfr_he, d_hfr_h2, d_hfr_h3, d_ho_he, dd_ho_hfr, d_ho_h2, d_ho_h3⟩
      have b0 : (bad || l.isEmpty) = false := eT_ok (eT_ok (eN_ok (eH_ok (eA_ok (eC_ok (show (e6 l bad).2.2 = false from h))))))
      have h2 := congrArg List.length (isEmpty_cons (l := l) (by cases bad <;> simp_all))
      simp only [List.length_cons] at h2
      show (e6 l bad).2.1.length < k
      omega
    clear he hb h2 h3 hT hfr hlow hB ha d_ho_he dd_ho_hfr d_ho_h2 d_ho_h3
    rintro i wv M1 bv ks st w21 ⟨hi, hinv, hks, hsl, hsk, ho, he, hb, h2, h3, hT, hfr, hlow, hB, ha, d_hfr_he, d_hfr_h2, d_hfr_h3, d_ho_he, dd_ho_hfr, d_ho_h2, d_ho_h3⟩
    refine q0 (l_p 1 tbOk rfl (q1 (c_seq ?_)))
    refine c_ifP _ rfl (fun c9 => ?_) (fun c9 => ?_)
    · refine c_skip (x_seq (c_seq (c_blk (c_seq (q0 (l_p 3 tbOk rfl ?_))))))
      refine l_cons (o_ld tbOk (he.cell 1 _ rfl) rfl rfl rfl rfl rfl ?_)
      refine q1 ?_
      refine c_if _ rfl (fun hbt => ?_) (fun hbt => ?_)
      · refine q0 ?_
        refine l_cons (o_lds tbOk (fun j v hv => h3.cell j v hv) rfl rfl rfl rfl rfl rfl ?_)
        obtain ⟨av, cv, rfl, _⟩ := ho.val
        refine l_cons (o_st tbOk h2.box rfl rfl rfl rfl (by intro u hu; simp [Value.cells] at hu; have := Rep.one ha; simp [Value.cells] at this; rcases hu with rfl | rfl | rfl | rfl | rfl | rfl | rfl | rfl | rfl | rfl <;> first | rfl | exact this.2.2.2) rfl rfl ?_)
        intro w22 hw22 qw22 bew22
        have uw22 : UpdB _ _ _ := ⟨qw22, bew22⟩
        have sw22 := uw22.stp h2.inM hlow h2.ge
        have frw22 := qw22.2
        replace hT := hT.then sw22
        replace hfr := hfr.stp sw22 (fun x hx => frw22 x (hfr.lt x hx).2 (d_hfr_h2 x hx))
        replace he := he.stp sw22 (frw22 ye he.lt ne_he_h2)
        replace ho := ho.stp sw22 (fun x hx => frw22 x (ho.lt x hx).2 (d_ho_h2 x hx))
        replace h3 := h3.stp sw22 (frw22 b3 h3.lt ne_h2_h3.symm)
        replace hb := hb.stp sw22
        replace ha := Rep.stp ha sw22
        replace hlow := sw22.low
        replace hB := Nat.le_trans hB sw22.upd.1
        replace h2 : MB B _ w22 b2 _ [.int .u8 (e0 l bad).1, .string (e1 l bad).1, .string (e2 l bad).1, .int .i64 ((e3 l bad).1 : Int), .bool (e4 l bad).1, .int .u8 (e5 l bad).1.op, .string (e5 l bad).1.name, .int .i64 (e5 l bad).1.n, akv, (.slice av ks.length cv)] := ⟨hw22, h2.inM, h2.ge⟩
        refine q1 (c_ret (x_seqR (x_blkR (x_seqR (x_seqR (x_blkR (x_seqR ?_)))))))
        refine x_ret1s tbOk (fun j v hv => h2.cell j v hv) rfl rfl rfl rfl rfl ?_
        have hsl2 : Sl M w22 (.slice av ks.length cv) ks := ho.slM (by omega) (fun b hb => new_of dd_ho_hfr d_ho_he hlow0 hb) hT.sub
        rw [show st.2 = true from hbt, kidsE_bad, List.append_nil] at hinv
        rw [show st.2 = true from hbt] at he
        rw [termE, hinv]
        exact ⟨tm_mk (by unfold e0; simp only; omega) (by omega) (by omega) (by unfold I64; omega) (Rep.wk ha (fun b _ h => hT.sub b h)) hsl2, ⟨_, ⟨he.box, he0.inM, he0.ge⟩, Sl.wk hb (fun b _ h => hT.sub b h)⟩, hT.drop hlow0, hfr⟩
      have hbf : st.2 = false := hbt
      refine c_skip (x_seq ?_)
      refine a_beg (Sof2 B M1 b3) rfl ?_
      intro w23 ew23
      replace hT := hT.then (Stp.ext ew23 hlow hB)
      replace hfr := hfr.ext hlow hB ew23
      replace he := he.ext hlow hB ew23
      replace ho := ho.ext hlow hB ew23
      replace h2 := h2.ext hlow hB ew23
      replace h3 := h3.ext hlow hB ew23
      replace hb := hb.ext ew23
      replace ha := Rep.ext ha ew23
      replace hlow := hlow.ext ew23
      replace hB := Nat.le_trans hB ew23.size
      have hS : Stp B M1 M1 w23 w23 := Stp.refl hlow
      have D_he := he.box
      have D_hb := hb
      have D_h2 := h2.box
      have D_h3 := h3.box
      refine a_p 0 tbOk rfl rfl rfl rfl (by kernel_rfl) (fun _ _ _ h => h) ⟨⟨_, hS⟩, h3.box.heap.trans D_h3.heap.symm⟩ ?_
      refine a_ld 1 tbOk (fun _ hs => (D_h3.so2 hs).cell 9 _ rfl) rfl rfl rfl rfl rfl rfl (by kernel_rfl) (fun _ _ _ h => h) ⟨⟨_, hS⟩, h3.box.heap.trans D_h3.heap.symm⟩ ?_
      refine a_p 2 tbOk rfl rfl rfl rfl (by kernel_rfl) (fun _ _ _ h => h) ⟨⟨_, hS⟩, h3.box.heap.trans D_h3.heap.symm⟩ ?_
      refine a_one 3 rfl (by kernel_rfl) (o_call fo75 rfl rfl rfl (ih st.1 st.2 _ _ B ye _ he hb hlow hB (hsk hbf) (by omega)) ?_)
      rintro vhc w24 ⟨hc, ⟨bvw24, hew24, hbw24⟩, sw24, kw24⟩
      have frw24 : ∀ x, x < w23.heap.size → x ≠ ye → w24.heap[x]? = w23.heap[x]? := fun x hx hn => kw24.blk x ⟨hx, hn⟩
      replace hT := hT.then sw24
      replace hS := hS.then sw24
      replace hfr := hfr.stp sw24 (fun x hx => frw24 x (hfr.lt x hx).2 (d_hfr_he x hx))
      replace ho := ho.stp sw24 (fun x hx => frw24 x (ho.lt x hx).2 (d_ho_he x hx))
      replace h2 := h2.stp sw24 (frw24 b2 h2.lt ne_he_h2.symm)
      replace h3 := h3.stp sw24 (frw24 b3 h3.lt ne_he_h3.symm)
      replace ha := Rep.stp ha sw24
      replace hlow := sw24.low
      replace hB := Nat.le_trans hB sw24.upd.1
      refine ⟨⟨⟨_, hS⟩, h3.box.heap.trans D_h3.heap.symm⟩, ?_⟩
      replace he := hew24
      replace hb := hbw24
      clear hew24 hbw24
      refine a_one 4 rfl (by kernel_rfl) (o_bs tbOk rfl rfl rfl rfl rfl rfl rfl (sz1 (Rep.size hc)) rfl rfl rfl ?_)
      intro bw25 w25 qbw25 ew25 hbw25
      have nbw25 := nM_of hlow qbw25
      replace hT := hT.then (Stp.ext ew25 hlow hB)
      replace hS := hS.then (Stp.ext ew25 hlow hB)
      replace hfr := hfr.ext hlow hB ew25
      replace he := he.ext hlow hB ew25
      replace ho := ho.ext hlow hB ew25
      replace h2 := h2.ext hlow hB ew25
      replace h3 := h3.ext hlow hB ew25
      replace hb := hb.ext ew25
      replace ha := Rep.ext ha ew25
      replace hc := Rep.ext hc ew25
      replace hlow := hlow.ext ew25
      replace hB := Nat.le_trans hB ew25.size
      refine ⟨⟨⟨_, hS⟩, h3.box.heap.trans D_h3.heap.symm⟩, ?_⟩
      refine a_one 5 rfl (by kernel_rfl) (o_app1 tbOk ho hbw25 nbw25 hc hlow hB rfl rfl rfl rfl rfl rfl rfl (by omega) (by show (_ + _) * 136 ≤ _; omega) rfl rfl ?_)
      intro vw26 w26 Mw26 hw26 sw26 frw26 blw26
      have zd_ho_he := d_ho_he
      replace d_ho_he : ∀ x, (vw26 : Value).ownBlock = some x → x ≠ ye := fun x hx => (blw26 x hx).elim (d_ho_he x) (fun h e => by have := he.lt; omega)
      have zdd_ho_hfr := dd_ho_hfr
      replace dd_ho_hfr : ∀ x y, (vw26 : Value).ownBlock = some x → (Out (fun x => x = ye) w) y → x ≠ y := fun x y hx hy => (blw26 x hx).elim (fun h => dd_ho_hfr x y h hy) (fun h e => by have := (hfr.lt y hy).2; omega)
      have zd_ho_h2 := d_ho_h2
      replace d_ho_h2 : ∀ x, (vw26 : Value).ownBlock = some x → x ≠ b2 := fun x hx => (blw26 x hx).elim (d_ho_h2 x) (fun h e => by have := h2.lt; omega)
      have zd_ho_h3 := d_ho_h3
      replace d_ho_h3 : ∀ x, (vw26 : Value).ownBlock = some x → x ≠ b3 := fun x hx => (blw26 x hx).elim (d_ho_h3 x) (fun h e => by have := h3.lt; omega)
      replace hT := hT.then sw26
      replace hS := hS.then sw26
      replace hfr := hfr.stp sw26 (fun x hx => frw26 x (hfr.lt x hx).2 (fun e => zdd_ho_hfr x x e.symm hx rfl))
      replace he := he.stp sw26 (frw26 ye he.lt (fun e => zd_ho_he _ e.symm rfl))
      replace h2 := h2.stp sw26 (frw26 b2 h2.lt (fun e => zd_ho_h2 _ e.symm rfl))
      replace h3 := h3.stp sw26 (frw26 b3 h3.lt (fun e => zd_ho_h3 _ e.symm rfl))
      replace hb := hb.stp sw26
      replace ha := Rep.stp ha sw26
      replace hc := Rep.stp hc sw26
      replace hlow := sw26.low
      replace hB := Nat.le_trans hB sw26.upd.1
      refine ⟨⟨⟨_, hS⟩, h3.box.heap.trans D_h3.heap.symm⟩, ?_⟩
      replace ho := hw26
      clear hw26
      refine a_p 6 tbOk rfl rfl rfl rfl (by kernel_rfl) (fun _ _ _ h => h) ⟨⟨_, hS⟩, h3.box.heap.trans D_h3.heap.symm⟩ ?_
      obtain ⟨av6, cv6, rfl, _⟩ := ho.val
      refine a_bar 7 rfl (by kernel_rfl) (by kernel_rfl) (o_st tbOk h3.box rfl rfl rfl rfl (by intro u hu; simp [Value.cells] at hu; subst hu; rfl) rfl rfl ?_)
      intro w27 hw27 qw27 bew27
      have uw27 : UpdB _ _ _ := ⟨qw27, bew27⟩
      have sw27 := uw27.stp h3.inM hlow h3.ge
      have frw27 := qw27.2
      replace hT := hT.then sw27
      replace hS := hS.then sw27
      replace hfr := hfr.stp sw27 (fun x hx => frw27 x (hfr.lt x hx).2 (d_hfr_h3 x hx))
      replace he := he.stp sw27 (frw27 ye he.lt ne_he_h3)
      replace ho := ho.stp sw27 (fun x hx => frw27 x (ho.lt x hx).2 (d_ho_h3 x hx))
      replace h2 := h2.stp sw27 (frw27 b2 h2.lt ne_h2_h3)
      replace hb := hb.stp sw27
      replace ha := Rep.stp ha sw27
      replace hc := Rep.stp hc sw27
      replace hlow := sw27.low
      replace hB := Nat.le_trans hB sw27.upd.1
      replace h3 : MB B _ w27 b3 _ [.int .u8 (e0 l bad).1, .string (e1 l bad).1, .string (e2 l bad).1, .int .i64 ((e3 l bad).1 : Int), .bool (e4 l bad).1, .int .u8 (e5 l bad).1.op, .string (e5 l bad).1.name, .int .i64 (e5 l bad).1.n, akv, (.slice av6 (ks ++ [(termE k st.1 st.2).1]).length cv6)] := ⟨hw27, h3.inM, h3.ge⟩
      refine a_end (by kernel_rfl) ?_
      refine x_blk (x_seq (c_reg ?_))
      refine l_cons (o_ar rfl rfl rfl (IntWalk.i64_in _ (by omega)) rfl rfl ?_)
      refine l_p 1 tbOk rfl (l_nil ?_)
      exact x_round6 (i + 1) ((.slice av6 (ks ++ [(termE k st.1 st.2).1]).length cv6)) (Mw26) (bvw24) (ks ++ [(termE k st.1 st.2).1]) (((termE k st.1 st.2).2.1, (termE k st.1 st.2).2.2)) (s5 rfl rfl rfl rfl (get_num rfl (by omega))) ⟨by omega, by rw [hinv, show (e6 l bad).1 - i = ((e6 l bad).1 - (i + 1)) + 1 by omega, kidsE_step (k := (e6 l bad).1 - (i + 1)) hbf, hbf]; simp, by simp [hks], by have := termE_less k st.1 st.2; simp only; omega, fun _ => by have := termE_less k st.1 st.2; have := hsk hbf; simp only; omega, ho, he, hb, h2, h3, hT, hfr, hlow, hB, ha, d_hfr_he, d_hfr_h2, d_hfr_h3, d_ho_he, dd_ho_hfr, d_ho_h2, d_ho_h3⟩ (by omega)
    refine c_exit (x_seqE (x_seqE (x_blkE (x_seq (q0 ?_)))))
    refine l_cons (o_lds tbOk (fun j v hv => h3.cell j v hv) rfl rfl rfl rfl rfl rfl ?_)
    obtain ⟨av, cv, rfl, _⟩ := ho.val
    refine l_cons (o_st tbOk h2.box rfl rfl rfl rfl (by intro u hu; simp [Value.cells] at hu; have := Rep.one ha; simp [Value.cells] at this; rcases hu with rfl | rfl | rfl | rfl | rfl | rfl | rfl | rfl | rfl | rfl <;> first | rfl | exact this.2.2.2) rfl rfl ?_)
    intro w28 hw28 qw28 bew28
    have uw28 : UpdB _ _ _ := ⟨qw28, bew28⟩
    have sw28 := uw28.stp h2.inM hlow h2.ge
    have frw28 := qw28.2
    replace hT := hT.then sw28
    replace hfr := hfr.stp sw28 (fun x hx => frw28 x (hfr.lt x hx).2 (d_hfr_h2 x hx))
    replace he := he.stp sw28 (frw28 ye he.lt ne_he_h2)
    replace ho := ho.stp sw28 (fun x hx => frw28 x (ho.lt x hx).2 (d_ho_h2 x hx))
    replace h3 := h3.stp sw28 (frw28 b3 h3.lt ne_h2_h3.symm)
    replace hb := hb.stp sw28
    replace ha := Rep.stp ha sw28
    replace hlow := sw28.low
    replace hB := Nat.le_trans hB sw28.upd.1
    replace h2 : MB B _ w28 b2 _ [.int .u8 (e0 l bad).1, .string (e1 l bad).1, .string (e2 l bad).1, .int .i64 ((e3 l bad).1 : Int), .bool (e4 l bad).1, .int .u8 (e5 l bad).1.op, .string (e5 l bad).1.name, .int .i64 (e5 l bad).1.n, akv, (.slice av ks.length cv)] := ⟨hw28, h2.inM, h2.ge⟩
    refine q1 (c_ret ?_)
    refine x_ret1s tbOk (fun j v hv => h2.cell j v hv) rfl rfl rfl rfl rfl ?_
    have hsl2 : Sl M w28 (.slice av ks.length cv) ks := ho.slM (by omega) (fun b hb => new_of dd_ho_hfr d_ho_he hlow0 hb) hT.sub
    rw [show (e6 l bad).1 - i = 0 by omega] at hinv
    replace hinv := hinv.trans (by rw [show (kidsE (termE k) 0 st.1 st.2) = ([], st.1, st.2) from rfl, List.append_nil])
    rw [termE, hinv]
    exact ⟨tm_mk (by unfold e0; simp only; omega) (by omega) (by omega) (by unfold I64; omega) (Rep.wk ha (fun b _ h => hT.sub b h)) hsl2, ⟨_, ⟨he.box, he0.inM, he0.ge⟩, Sl.wk hb (fun b _ h => hT.sub b h)⟩, hT.drop hlow0, hfr⟩
end Go.Proofs.Ytohfnpmehgpphaa
namespace Go.Proofs.Ytohfnpmehgpphaa
open Go Rw Go.RowKit
set_option maxRecDepth 100000
def tmF : Tm := .mk 32 ⟨#[102]⟩ ⟨#[]⟩ 0 false tyZ []
def tmN : Tm := .mk 33 ⟨#[]⟩ ⟨#[]⟩ 1 false tyZ []
def tmA : Tm := .mk 37 ⟨#[]⟩ ⟨#[]⟩ 0 false tyZ [tmF, tmN]
theorem tmF_right : rightT tmF false = true := by rw [rightT_eq]; rfl
theorem tmN_right : rightT tmN false = true := by rw [rightT_eq]; rfl
theorem tmA_right : rightT tmA false = true := by
  have hF := tmF_right
  have hN := tmN_right
  rw [rightT_eq, show kidL tmA.kids = [(32, rightT tmF), (33, rightT tmN)] from rfl]
  simp only [kidsT]
  rw [show innerB tmA.op 0 = false from rfl, show innerB tmA.op (0 + 1) = false from rfl, hF, hN]
  rfl
theorem tmF_bytes : termB tmF = [32, 1, 102] := by rw [termB_eq]; rfl
theorem tmN_bytes : termB tmN = [33, 1] := by rw [termB_eq]; rfl
theorem tmA_bytes : termB tmA = [37, 32, 1, 102, 33, 1] := by
  have hF := tmF_bytes
  have hN := tmN_bytes
  rw [termB_eq, show tmA.kids = [tmF, tmN] from rfl, List.flatMap_cons, List.flatMap_cons, List.flatMap_nil, hF, hN]
  rfl
theorem tyZ_psz : psz tyZ = 1 := by rw [psz_eq]; rfl
theorem tmA_ann : AnnS tmA := by
  have hF : nodesL tmF = [tmF] := by rw [nodesL_eq]; rfl
  have hN : nodesL tmN = [tmN] := by rw [nodesL_eq]; rfl
  intro x hx
  rw [nodesL_eq, show tmA.kids = [tmF, tmN] from rfl, List.flatMap_cons, List.flatMap_cons, List.flatMap_nil, hF, hN] at hx
  have hz := tyZ_psz
  simp at hx
  rcases hx with rfl | rfl | rfl
  · show psz tyZ ≤ _; omega
  · show psz tyZ ≤ _; omega
  · show psz tyZ ≤ _; omega
/-- alive: true. -/
theorem alive27_spec (M : Nat → Prop) (w : World) (hlow : Low M w) :
    Calls Try.prog 27 #[] w (Ret fun r w' => r = .bool true ∧ Ext w w') := by
  have hE : Below w.heap.size w w := Below.refl _ _
  have hB : w.heap.size ≤ w.heap.size := Nat.le_refl _
  refine c_enter (n := 19) Try.func27 rfl rfl rfl ?_
  refine q0 (l_p 1 tbOk rfl (q1 (q0 ?_)))
  refine l_cons (o_build (cells := [.int .u8 32, .string ⟨#[102]⟩, .string ⟨#[]⟩, .int .i64 0, .bool false, .int .u8 0, .string ⟨#[]⟩, .int .i64 0, .slice none 0 0, .slice none 0 0]) (css := [[.int .u8 32], [.string ⟨#[102]⟩]]) bd84 rfl rfl rfl rfl rfl ?_)
  have hn0 : Rep.R M w (.agg #[.int .u8 32, .string ⟨#[102]⟩, .string ⟨#[]⟩, .int .i64 0, .bool false, .int .u8 0, .string ⟨#[]⟩, .int .i64 0, .slice none 0 0, .slice none 0 0]) tmF := tm_mk (ann := tyZ) (by decide) (by decide) (by decide) ⟨by decide, by decide⟩ (ty_mk (by decide) (by decide) ⟨by decide, by decide⟩ sl_nil) sl_nil
  refine l_cons (o_build (cells := [.int .u8 33, .string ⟨#[]⟩, .string ⟨#[]⟩, .int .i64 1, .bool false, .int .u8 0, .string ⟨#[]⟩, .int .i64 0, .slice none 0 0, .slice none 0 0]) (css := [[.int .u8 33], [.int .i64 1]]) bd84 rfl rfl rfl rfl rfl ?_)
  have hn1 : Rep.R M w (.agg #[.int .u8 33, .string ⟨#[]⟩, .string ⟨#[]⟩, .int .i64 1, .bool false, .int .u8 0, .string ⟨#[]⟩, .int .i64 0, .slice none 0 0, .slice none 0 0]) tmN := tm_mk (ann := tyZ) (by decide) (by decide) (by decide) ⟨by decide, by decide⟩ (ty_mk (by decide) (by decide) ⟨by decide, by decide⟩ sl_nil) sl_nil
  refine l_cons (o_bs tbOk rfl rfl rfl rfl rfl rfl rfl (by intro v hv; simp at hv; rcases hv with rfl | rfl <;> rfl) rfl rfl rfl ?_)
  intro bl0 w1 qbl0 ew1 hbl0
  have nbl0 := nM_of hlow qbl0
  replace hE := hE.trans (Below.mono ew1 hB)
  replace hn0 := Rep.ext hn0 ew1
  replace hn1 := Rep.ext hn1 ew1
  replace hlow := hlow.ext ew1
  replace hB := Nat.le_trans hB ew1.size
  have hsl0 : Sl M w1 (.slice (some ⟨bl0, 0, none⟩) 2 2) [tmF, tmN] := lit_sl hbl0 nbl0 (show Rs _ _ [_, _] [tmF, tmN] from ⟨hn0, hn1, trivial⟩) (by decide)
  refine l_cons (o_build (cells := [.int .u8 37, .string ⟨#[]⟩, .string ⟨#[]⟩, .int .i64 0, .bool false, .int .u8 0, .string ⟨#[]⟩, .int .i64 0, .slice none 0 0, .slice (some ⟨bl0, 0, none⟩) 2 2]) (css := [[.int .u8 37], [.slice (some ⟨bl0, 0, none⟩) 2 2]]) bd84 rfl rfl rfl rfl rfl ?_)
  have hn2 : Rep.R M w1 (.agg #[.int .u8 37, .string ⟨#[]⟩, .string ⟨#[]⟩, .int .i64 0, .bool false, .int .u8 0, .string ⟨#[]⟩, .int .i64 0, .slice none 0 0, .slice (some ⟨bl0, 0, none⟩) 2 2]) tmA := tm_mk (ann := tyZ) (by decide) (by decide) (by decide) ⟨by decide, by decide⟩ (ty_mk (by decide) (by decide) ⟨by decide, by decide⟩ sl_nil) hsl0
  have hpt := putTerm_spec tmA _ _ _ hn2 hlow tmA_ann (by rw [tmA_bytes]; decide)
  rw [tmA_right, tmA_bytes] at hpt
  refine l_cons (o_call fo41 rfl rfl rfl (hpt) ?_)
  rintro _ w2 ⟨⟨x, rfl, hx⟩, ew2⟩
  replace hx : Sl M w2 x ([37, 32, 1, 102, 33, 1] : List UInt8) := hx
  replace hE := hE.trans (Below.mono ew2 hB)
  replace hn0 := Rep.ext hn0 ew2
  replace hn1 := Rep.ext hn1 ew2
  replace hsl0 := hsl0.ext ew2
  replace hn2 := Rep.ext hn2 ew2
  replace hlow := hlow.ext ew2
  replace hB := Nat.le_trans hB ew2.size
  refine l_p 5 tbOk rfl (q1 (q0 (l_p 1 tbOk rfl ?_)))
  refine l_cons (o_conv (y := 0) tbOk rfl rfl rfl rfl rfl rfl rfl rfl ?_)
  refine l_p 3 tbOk rfl ?_
  refine l_cons (o_bs tbOk rfl rfl rfl rfl rfl rfl rfl (by intro v hv; simp at hv; rcases hv with rfl | rfl | rfl | rfl | rfl | rfl <;> rfl) rfl rfl rfl ?_)
  intro bl1 w3 qbl1 ew3 hbl1
  have nbl1 := nM_of hlow qbl1
  replace hE := hE.trans (Below.mono ew3 hB)
  replace hn0 := Rep.ext hn0 ew3
  replace hn1 := Rep.ext hn1 ew3
  replace hsl0 := hsl0.ext ew3
  replace hn2 := Rep.ext hn2 ew3
  replace hx := hx.ext ew3
  replace hlow := hlow.ext ew3
  replace hB := Nat.le_trans hB ew3.size
  have hsl1 : Sl M w3 (.slice (some ⟨bl1, 0, none⟩) 6 6) ([37, 32, 1, 102, 33, 1] : List UInt8) := lit_sl hbl1 nbl1 (show Rs _ _ [_, _, _, _, _, _] ([37, 32, 1, 102, 33, 1] : List UInt8) from ⟨rfl, rfl, rfl, rfl, rfl, rfl, trivial⟩) (by decide)
  refine l_cons (o_call fo29 rfl rfl rfl (sameB_spec _ _ M _ _ _ hx hsl1) ?_)
  rintro _ w4 ⟨rfl, ew4⟩
  replace hE := hE.trans (Below.mono ew4 hB)
  replace hn0 := Rep.ext hn0 ew4
  replace hn1 := Rep.ext hn1 ew4
  replace hsl0 := hsl0.ext ew4
  replace hn2 := Rep.ext hn2 ew4
  replace hx := hx.ext ew4
  replace hsl1 := hsl1.ext ew4
  replace hlow := hlow.ext ew4
  replace hB := Nat.le_trans hB ew4.size
  refine l_p 2 tbOk rfl (q1 (c_ret (x_ret1 rfl rfl ?_)))
  exact ⟨rfl, hE⟩
end Go.Proofs.Ytohfnpmehgpphaa
namespace Go.Proofs.Ytohfnpmehgpphaa
open Go Rw Go.RowKit
set_option maxRecDepth 100000
/-- GetType of bytes. -/
theorem getType_spec (l : List UInt8) (hl : l.length ≤ 65536) (M : Nat → Prop) (w : World) (v : Value) (hs : Sl M w v l) (hlow0 : Low M w) :
    Calls Try.prog 34 #[v] w (Ret fun r w' => (∃ x, r = .tuple #[x, .int .u8 (bif okGY l then 0 else 15)] ∧ Rep.R M w' x (bif okGY l then getY l else tyZ)) ∧ Ext w w') := by
  have hlow := hlow0
  have hB : w.heap.size ≤ w.heap.size := Nat.le_refl _
  have hE : Below w.heap.size w w := Below.refl _ _
  have hsub : ∀ b, M b → M b := fun _ h => h
  refine c_enter (n := 33) Try.func34 rfl rfl rfl ?_
  refine q0 ?_
  refine l_cons (o_new tbOk rfl rfl rfl ?_)
  intro b2 w1 qb2 ew1 hb2
  have sw1 := Stp.add ew1 hlow hB (Nat.le_of_eq qb2.symm) hb2.lt
  have h2 : MB w.heap.size (Rw.Add M b2) w1 b2 40 [.int .u8 0, .string ⟨#[]⟩, .int .i64 0, .slice none 0 0] := MB.mk' hb2 qb2 hB
  replace hE := hE.trans sw1.below
  replace hs := hs.stp sw1
  replace hsub := fun b h => sw1.sub b (hsub b h)
  replace hlow := sw1.low
  replace hB := Nat.le_trans hB sw1.upd.1
  obtain ⟨ab, cb, rfl, _⟩ := id hs
  have hb := hs
  refine l_p 1 tbOk rfl (q1 (c_seq (q0 (l_p 1 tbOk rfl ?_))))
  refine l_cons (o_len tbOk hs rfl rfl rfl rfl rfl ?_)
  refine l_p 1 tbOk rfl (q1 ?_)
  refine c_ifP _ rfl (fun c1 => ?_) (fun c1 => ?_)
  · exact absurd c1 (by omega)
  refine c_skip (x_seq (q0 (l_p 1 tbOk rfl ?_)))
  refine l_cons (o_build (cells := [.slice ab l.length cb, .bool false]) bd130 rfl rfl rfl rfl rfl ?_)
  refine l_cons (o_new tbOk rfl rfl rfl ?_)
  intro ye w2 qye ew2 hye
  have ne_h2_he : b2 ≠ ye := by have := h2.lt; omega
  have sw2 := Stp.add ew2 hlow hB (Nat.le_of_eq qye.symm) hye.lt
  have he : MB w.heap.size (Rw.Add (Rw.Add M b2) ye) w2 ye 130 [.slice none 0 0, .bool false] := MB.mk' hye qye hB
  replace h2 := h2.stp sw2 (ew2.block b2 h2.lt)
  replace hE := hE.trans sw2.below
  replace hs := hs.stp sw2
  replace hb := hb.stp sw2
  replace hsub := fun b h => sw2.sub b (hsub b h)
  replace hlow := sw2.low
  replace hB := Nat.le_trans hB sw2.upd.1
  refine l_cons (o_st tbOk he.box rfl rfl rfl rfl (by intro u hu; simp [Value.cells] at hu; rcases hu with rfl | rfl <;> rfl) rfl rfl ?_)
  intro w3 hw3 qw3 bew3
  have uw3 : UpdB _ _ _ := ⟨qw3, bew3⟩
  have sw3 := uw3.stp he.inM hlow he.ge
  have frw3 := qw3.2
  replace h2 := h2.stp sw3 (frw3 b2 h2.lt ne_h2_he)
  replace hE := hE.trans sw3.below
  replace hs := hs.stp sw3
  replace hb := hb.stp sw3
  replace hsub := fun b h => sw3.sub b (hsub b h)
  replace hlow := sw3.low
  replace hB := Nat.le_trans hB sw3.upd.1
  replace he : MB w.heap.size _ w3 ye _ [.slice ab l.length cb, .bool false] := ⟨hw3, he.inM, he.ge⟩
  refine q1 (q0 ?_)
  refine l_cons (o_call fo77 rfl rfl rfl (eyeKind_spec (l.length + 1) l false _ _ w.heap.size ye _ he hb hlow hB (by omega) (by omega)) ?_)
  rintro vc w4 ⟨hc, ⟨bv, he2, hb2⟩, sw4, kw4⟩
  have frw4 : ∀ x, x < w3.heap.size → x ≠ ye → w4.heap[x]? = w3.heap[x]? := fun x hx hn => kw4.blk x ⟨hx, hn⟩
  replace h2 := h2.stp sw4 (frw4 b2 h2.lt ne_h2_he)
  replace hE := hE.trans sw4.below
  replace hs := hs.stp sw4
  replace hsub := fun b h => sw4.sub b (hsub b h)
  replace hlow := sw4.low
  replace hB := Nat.le_trans hB sw4.upd.1
  replace he := he2
  replace hb := hb2
  replace hc : Rep.R _ _ _ (getY l) := hc
  obtain ⟨kvc, rfl, opc, nmc, n64c, hkc⟩ := ty_open hc
  refine l_cons (o_new tbOk rfl rfl rfl ?_)
  intro b5 w5 qb5 ew5 hb5
  have nb5 := nM_of hlow qb5
  refine l_cons (o_st tbOk hb5 rfl rfl rfl rfl (Rep.one hc) rfl rfl ?_)
  intro w6 h5 uw6 bew6
  have ew6 : Ext w4 w6 := ew5.trans (bew6 _ (Nat.le_of_eq qb5.symm))
  replace h2 := h2.ext hlow hB ew6
  replace he := he.ext hlow hB ew6
  replace hE := hE.trans (Below.mono ew6 hB)
  replace hs := hs.ext ew6
  replace hb := hb.ext ew6
  replace hc := Rep.ext hc ew6
  replace hkc := hkc.ext ew6
  replace hlow := hlow.ext ew6
  replace hB := Nat.le_trans hB ew6.size
  replace h5 : Box w6 b5 40 [.int .u8 (getY l).op, .string (getY l).name, .int .i64 (getY l).n, kvc] := h5
  replace h5 := h5.at nb5
  refine q1 (c_seq (q0 (l_p 1 tbOk rfl ?_)))
  refine l_cons (o_ld tbOk (he.cell 1 _ rfl) rfl rfl rfl rfl rfl ?_)
  refine l_p 1 tbOk rfl ?_
  refine l_split 15 _ rfl (fun c2 => ?_) (fun c2 => ?_)
  · refine l_p 15 tbOk rfl (q1 (c_ifT rfl (q0 ?_)))
    refine l_cons (o_build (cells := [.int .u8 0, .string ⟨#[]⟩, .int .i64 0, .slice none 0 0]) (css := []) bd40 rfl rfl rfl rfl rfl ?_)
    refine l_cons (o_st tbOk h2.box rfl rfl rfl rfl (by intro u hu; simp [Value.cells] at hu; rcases hu with rfl | rfl | rfl | rfl <;> rfl) rfl rfl ?_)
    intro w7 hw7 qw7 bew7
    have uw7 : UpdB _ _ _ := ⟨qw7, bew7⟩
    have sw7 := uw7.stp h2.inM hlow h2.ge
    have frw7 := qw7.2
    replace he := he.stp sw7 (frw7 ye he.lt ne_h2_he.symm)
    replace hE := hE.trans sw7.below
    replace hs := hs.stp sw7
    replace hb := hb.stp sw7
    replace hc := Rep.stp hc sw7
    replace hkc := hkc.stp sw7
    replace h5 := h5.stp sw7
    replace hsub := fun b h => sw7.sub b (hsub b h)
    replace hlow := sw7.low
    replace hB := Nat.le_trans hB sw7.upd.1
    replace h2 : MB w.heap.size _ w7 b2 _ [.int .u8 0, .string ⟨#[]⟩, .int .i64 0, .slice none 0 0] := ⟨hw7, h2.inM, h2.ge⟩
    refine l_p 1 tbOk rfl (q1 (c_ret (x_seqR ?_)))
    refine x_ret2st tbOk (fun j v hv => h2.cell j v hv) rfl rfl rfl rfl rfl rfl ?_
    have hok : okGY l = false := by
      cases hq : okGY l with
      | false => rfl
      | true =>
        unfold okGY at hq
        simp only [Bool.and_eq_true, Bool.not_eq_true', List.isEmpty_iff] at hq
        have hz : (kindE (l.length + 1) l false).2.1.length = 0 := by rw [hq.2.1]; rfl
        exfalso
        first | omega | simp_all
    rw [hok]
    exact ⟨⟨_, rfl, ty_mk (by decide) (by decide) ⟨by decide, by decide⟩ sl_nil⟩, hE⟩
  refine l_p 1 tbOk rfl ?_
  refine l_cons (o_ld tbOk (he.cell 0 _ rfl) rfl rfl rfl rfl rfl ?_)
  refine l_cons (o_len tbOk hb rfl rfl rfl rfl rfl ?_)
  refine l_p 3 tbOk rfl ?_
  refine l_splitP 21 _ rfl (fun c3 => ?_) (fun c3 => ?_)
  · refine l_p 9 tbOk rfl (q1 (c_ifT rfl (q0 ?_)))
    refine l_cons (o_build (cells := [.int .u8 0, .string ⟨#[]⟩, .int .i64 0, .slice none 0 0]) (css := []) bd40 rfl rfl rfl rfl rfl ?_)
    refine l_cons (o_st tbOk h2.box rfl rfl rfl rfl (by intro u hu; simp [Value.cells] at hu; rcases hu with rfl | rfl | rfl | rfl <;> rfl) rfl rfl ?_)
    intro w8 hw8 qw8 bew8
    have uw8 : UpdB _ _ _ := ⟨qw8, bew8⟩
    have sw8 := uw8.stp h2.inM hlow h2.ge
    have frw8 := qw8.2
    replace he := he.stp sw8 (frw8 ye he.lt ne_h2_he.symm)
    replace hE := hE.trans sw8.below
    replace hs := hs.stp sw8
    replace hb := hb.stp sw8
    replace hc := Rep.stp hc sw8
    replace hkc := hkc.stp sw8
    replace h5 := h5.stp sw8
    replace hsub := fun b h => sw8.sub b (hsub b h)
    replace hlow := sw8.low
    replace hB := Nat.le_trans hB sw8.upd.1
    replace h2 : MB w.heap.size _ w8 b2 _ [.int .u8 0, .string ⟨#[]⟩, .int .i64 0, .slice none 0 0] := ⟨hw8, h2.inM, h2.ge⟩
    refine l_p 1 tbOk rfl (q1 (c_ret (x_seqR ?_)))
    refine x_ret2st tbOk (fun j v hv => h2.cell j v hv) rfl rfl rfl rfl rfl rfl ?_
    have hok : okGY l = false := by
      cases hq : okGY l with
      | false => rfl
      | true =>
        unfold okGY at hq
        simp only [Bool.and_eq_true, Bool.not_eq_true', List.isEmpty_iff] at hq
        have hz : (kindE (l.length + 1) l false).2.1.length = 0 := by rw [hq.2.1]; rfl
        exfalso
        first | omega | simp_all
    rw [hok]
    exact ⟨⟨_, rfl, ty_mk (by decide) (by decide) ⟨by decide, by decide⟩ sl_nil⟩, hE⟩
  refine l_cons (o_lds tbOk (fun j v hv => h5.cell j v hv) rfl rfl rfl rfl rfl rfl ?_)
  refine l_cons (o_call fo78 rfl rfl rfl (kRight_specB _ _ _ _ hc hlow) ?_)
  rintro _ w9 ⟨rfl, ew9⟩
  replace h2 := h2.ext hlow hB ew9
  replace he := he.ext hlow hB ew9
  replace hE := hE.trans (Below.mono ew9 hB)
  replace hs := hs.ext ew9
  replace hb := hb.ext ew9
  replace hc := Rep.ext hc ew9
  replace hkc := hkc.ext ew9
  replace h5 := h5.ext ew9
  replace hlow := hlow.ext ew9
  replace hB := Nat.le_trans hB ew9.size
  refine l_p 2 tbOk rfl ?_
  refine l_splitB 25 _ rfl (fun c4 => ?_) (fun c4 => ?_)
  · refine l_cons (o_lds tbOk (fun j v hv => h5.cell j v hv) rfl rfl rfl rfl rfl rfl ?_)
    refine l_cons (o_call fo55 rfl rfl rfl (kRow_specB _ _ _ _ hc hlow) ?_)
    rintro _ w10 ⟨rfl, ew10⟩
    replace h2 := h2.ext hlow hB ew10
    replace he := he.ext hlow hB ew10
    replace hE := hE.trans (Below.mono ew10 hB)
    replace hs := hs.ext ew10
    replace hb := hb.ext ew10
    replace hc := Rep.ext hc ew10
    replace hkc := hkc.ext ew10
    replace h5 := h5.ext ew10
    replace hlow := hlow.ext ew10
    replace hB := Nat.le_trans hB ew10.size
    refine l_p 3 tbOk rfl (q1 ?_)
    refine c_ifB _ rfl (fun c5 => ?_) (fun c5 => ?_)
    · refine q0 ?_
      refine l_cons (o_build (cells := [.int .u8 0, .string ⟨#[]⟩, .int .i64 0, .slice none 0 0]) (css := []) bd40 rfl rfl rfl rfl rfl ?_)
      refine l_cons (o_st tbOk h2.box rfl rfl rfl rfl (by intro u hu; simp [Value.cells] at hu; rcases hu with rfl | rfl | rfl | rfl <;> rfl) rfl rfl ?_)
      intro w11 hw11 qw11 bew11
      have uw11 : UpdB _ _ _ := ⟨qw11, bew11⟩
      have sw11 := uw11.stp h2.inM hlow h2.ge
      have frw11 := qw11.2
      replace he := he.stp sw11 (frw11 ye he.lt ne_h2_he.symm)
      replace hE := hE.trans sw11.below
      replace hs := hs.stp sw11
      replace hb := hb.stp sw11
      replace hc := Rep.stp hc sw11
      replace hkc := hkc.stp sw11
      replace h5 := h5.stp sw11
      replace hsub := fun b h => sw11.sub b (hsub b h)
      replace hlow := sw11.low
      replace hB := Nat.le_trans hB sw11.upd.1
      replace h2 : MB w.heap.size _ w11 b2 _ [.int .u8 0, .string ⟨#[]⟩, .int .i64 0, .slice none 0 0] := ⟨hw11, h2.inM, h2.ge⟩
      refine l_p 1 tbOk rfl (q1 (c_ret (x_seqR ?_)))
      refine x_ret2st tbOk (fun j v hv => h2.cell j v hv) rfl rfl rfl rfl rfl rfl ?_
      have hok : okGY l = false := by
        cases hq : okGY l with
        | false => rfl
        | true =>
          unfold okGY at hq
          simp only [Bool.and_eq_true, Bool.not_eq_true', List.isEmpty_iff] at hq
          have hz : (kindE (l.length + 1) l false).2.1.length = 0 := by rw [hq.2.1]; rfl
          exfalso
          first | omega | simp_all
      rw [hok]
      exact ⟨⟨_, rfl, ty_mk (by decide) (by decide) ⟨by decide, by decide⟩ sl_nil⟩, hE⟩
    refine c_skip (x_seq (q0 ?_))
    refine l_cons (o_lds tbOk (fun j v hv => h5.cell j v hv) rfl rfl rfl rfl rfl rfl ?_)
    refine l_cons (o_st tbOk h2.box rfl rfl rfl rfl (Rep.one hc) rfl rfl ?_)
    intro w12 hw12 qw12 bew12
    have uw12 : UpdB _ _ _ := ⟨qw12, bew12⟩
    have sw12 := uw12.stp h2.inM hlow h2.ge
    have frw12 := qw12.2
    replace he := he.stp sw12 (frw12 ye he.lt ne_h2_he.symm)
    replace hE := hE.trans sw12.below
    replace hs := hs.stp sw12
    replace hb := hb.stp sw12
    replace hc := Rep.stp hc sw12
    replace hkc := hkc.stp sw12
    replace h5 := h5.stp sw12
    replace hsub := fun b h => sw12.sub b (hsub b h)
    replace hlow := sw12.low
    replace hB := Nat.le_trans hB sw12.upd.1
    replace h2 : MB w.heap.size _ w12 b2 _ [.int .u8 (getY l).op, .string (getY l).name, .int .i64 (getY l).n, kvc] := ⟨hw12, h2.inM, h2.ge⟩
    refine l_p 1 tbOk rfl (q1 (c_ret ?_))
    refine x_ret2st tbOk (fun j v hv => h2.cell j v hv) rfl rfl rfl rfl rfl rfl ?_
    have hok : okGY l = true := by
      have hem : (kindE (l.length + 1) l false).2.1.isEmpty = true := by rw [List.isEmpty_iff]; exact List.eq_nil_of_length_eq_zero (by omega)
      unfold okGY; rw [hem]; simp_all
    rw [hok]
    exact ⟨⟨_, rfl, Rep.wk hc (fun b _ h => hsub b h)⟩, hE⟩
  refine l_p 5 tbOk rfl (q1 (c_ifF rfl (c_skip (x_seq (q0 ?_)))))
  refine l_cons (o_lds tbOk (fun j v hv => h5.cell j v hv) rfl rfl rfl rfl rfl rfl ?_)
  refine l_cons (o_st tbOk h2.box rfl rfl rfl rfl (Rep.one hc) rfl rfl ?_)
  intro w13 hw13 qw13 bew13
  have uw13 : UpdB _ _ _ := ⟨qw13, bew13⟩
  have sw13 := uw13.stp h2.inM hlow h2.ge
  have frw13 := qw13.2
  replace he := he.stp sw13 (frw13 ye he.lt ne_h2_he.symm)
  replace hE := hE.trans sw13.below
  replace hs := hs.stp sw13
  replace hb := hb.stp sw13
  replace hc := Rep.stp hc sw13
  replace hkc := hkc.stp sw13
  replace h5 := h5.stp sw13
  replace hsub := fun b h => sw13.sub b (hsub b h)
  replace hlow := sw13.low
  replace hB := Nat.le_trans hB sw13.upd.1
  replace h2 : MB w.heap.size _ w13 b2 _ [.int .u8 (getY l).op, .string (getY l).name, .int .i64 (getY l).n, kvc] := ⟨hw13, h2.inM, h2.ge⟩
  refine l_p 1 tbOk rfl (q1 (c_ret ?_))
  refine x_ret2st tbOk (fun j v hv => h2.cell j v hv) rfl rfl rfl rfl rfl rfl ?_
  have hok : okGY l = true := by
    have hem : (kindE (l.length + 1) l false).2.1.isEmpty = true := by rw [List.isEmpty_iff]; exact List.eq_nil_of_length_eq_zero (by omega)
    unfold okGY; rw [hem]; simp_all
  rw [hok]
  exact ⟨⟨_, rfl, Rep.wk hc (fun b _ h => hsub b h)⟩, hE⟩
/-- GetTerm of bytes. -/
theorem getTerm_spec (l : List UInt8) (hl : l.length ≤ 65536) (M : Nat → Prop) (w : World) (v : Value) (hs : Sl M w v l) (hlow0 : Low M w) :
    Calls Try.prog 33 #[v] w (Ret fun r w' => (∃ x, r = .tuple #[x, .int .u8 (bif okGT l then 0 else 15)] ∧ Rep.R M w' x (bif okGT l then getT l else tmZ)) ∧ Ext w w') := by
  have hlow := hlow0
  have hB : w.heap.size ≤ w.heap.size := Nat.le_refl _
  have hE : Below w.heap.size w w := Below.refl _ _
  have hsub : ∀ b, M b → M b := fun _ h => h
  refine c_enter (n := 28) Try.func33 rfl rfl rfl ?_
  refine q0 ?_
  refine l_cons (o_new tbOk rfl rfl rfl ?_)
  intro b2 w1 qb2 ew1 hb2
  have sw1 := Stp.add ew1 hlow hB (Nat.le_of_eq qb2.symm) hb2.lt
  have h2 : MB w.heap.size (Rw.Add M b2) w1 b2 84 [.int .u8 0, .string ⟨#[]⟩, .string ⟨#[]⟩, .int .i64 0, .bool false, .int .u8 0, .string ⟨#[]⟩, .int .i64 0, .slice none 0 0, .slice none 0 0] := MB.mk' hb2 qb2 hB
  replace hE := hE.trans sw1.below
  replace hs := hs.stp sw1
  replace hsub := fun b h => sw1.sub b (hsub b h)
  replace hlow := sw1.low
  replace hB := Nat.le_trans hB sw1.upd.1
  obtain ⟨ab, cb, rfl, _⟩ := id hs
  have hb := hs
  refine l_p 1 tbOk rfl (q1 (c_seq (q0 (l_p 1 tbOk rfl ?_))))
  refine l_cons (o_len tbOk hs rfl rfl rfl rfl rfl ?_)
  refine l_p 1 tbOk rfl (q1 ?_)
  refine c_ifP _ rfl (fun c1 => ?_) (fun c1 => ?_)
  · exact absurd c1 (by omega)
  refine c_skip (x_seq (q0 (l_p 1 tbOk rfl ?_)))
  refine l_cons (o_build (cells := [.slice ab l.length cb, .bool false]) bd130 rfl rfl rfl rfl rfl ?_)
  refine l_cons (o_new tbOk rfl rfl rfl ?_)
  intro ye w2 qye ew2 hye
  have ne_h2_he : b2 ≠ ye := by have := h2.lt; omega
  have sw2 := Stp.add ew2 hlow hB (Nat.le_of_eq qye.symm) hye.lt
  have he : MB w.heap.size (Rw.Add (Rw.Add M b2) ye) w2 ye 130 [.slice none 0 0, .bool false] := MB.mk' hye qye hB
  replace h2 := h2.stp sw2 (ew2.block b2 h2.lt)
  replace hE := hE.trans sw2.below
  replace hs := hs.stp sw2
  replace hb := hb.stp sw2
  replace hsub := fun b h => sw2.sub b (hsub b h)
  replace hlow := sw2.low
  replace hB := Nat.le_trans hB sw2.upd.1
  refine l_cons (o_st tbOk he.box rfl rfl rfl rfl (by intro u hu; simp [Value.cells] at hu; rcases hu with rfl | rfl <;> rfl) rfl rfl ?_)
  intro w3 hw3 qw3 bew3
  have uw3 : UpdB _ _ _ := ⟨qw3, bew3⟩
  have sw3 := uw3.stp he.inM hlow he.ge
  have frw3 := qw3.2
  replace h2 := h2.stp sw3 (frw3 b2 h2.lt ne_h2_he)
  replace hE := hE.trans sw3.below
  replace hs := hs.stp sw3
  replace hb := hb.stp sw3
  replace hsub := fun b h => sw3.sub b (hsub b h)
  replace hlow := sw3.low
  replace hB := Nat.le_trans hB sw3.upd.1
  replace he : MB w.heap.size _ w3 ye _ [.slice ab l.length cb, .bool false] := ⟨hw3, he.inM, he.ge⟩
  refine q1 (q0 ?_)
  refine l_cons (o_call fo75 rfl rfl rfl (eyeTerm_spec (l.length + 1) l false _ _ w.heap.size ye _ he hb hlow hB (by omega) (by omega)) ?_)
  rintro vc w4 ⟨hc, ⟨bv, he2, hb2⟩, sw4, kw4⟩
  have frw4 : ∀ x, x < w3.heap.size → x ≠ ye → w4.heap[x]? = w3.heap[x]? := fun x hx hn => kw4.blk x ⟨hx, hn⟩
  replace h2 := h2.stp sw4 (frw4 b2 h2.lt ne_h2_he)
  replace hE := hE.trans sw4.below
  replace hs := hs.stp sw4
  replace hsub := fun b h => sw4.sub b (hsub b h)
  replace hlow := sw4.low
  replace hB := Nat.le_trans hB sw4.upd.1
  replace he := he2
  replace hb := hb2
  replace hc : Rep.R _ _ _ (getT l) := hc
  obtain ⟨akvc, kvc, rfl, opc, nmc, agc, n64c, hac, hkc⟩ := tm_open hc
  refine l_cons (o_new tbOk rfl rfl rfl ?_)
  intro b5 w5 qb5 ew5 hb5
  have nb5 := nM_of hlow qb5
  refine l_cons (o_st tbOk hb5 rfl rfl rfl rfl (Rep.one hc) rfl rfl ?_)
  intro w6 h5 uw6 bew6
  have ew6 : Ext w4 w6 := ew5.trans (bew6 _ (Nat.le_of_eq qb5.symm))
  replace h2 := h2.ext hlow hB ew6
  replace he := he.ext hlow hB ew6
  replace hE := hE.trans (Below.mono ew6 hB)
  replace hs := hs.ext ew6
  replace hb := hb.ext ew6
  replace hc := Rep.ext hc ew6
  replace hac := Rep.ext hac ew6
  replace hkc := hkc.ext ew6
  replace hlow := hlow.ext ew6
  replace hB := Nat.le_trans hB ew6.size
  replace h5 : Box w6 b5 84 [.int .u8 (getT l).op, .string (getT l).name, .string (getT l).arg, .int .i64 (getT l).n, .bool (getT l).has, .int .u8 (getT l).ann.op, .string (getT l).ann.name, .int .i64 (getT l).ann.n, akvc, kvc] := h5
  replace h5 := h5.at nb5
  refine q1 (c_seq (q0 (l_p 1 tbOk rfl ?_)))
  refine l_cons (o_ld tbOk (he.cell 1 _ rfl) rfl rfl rfl rfl rfl ?_)
  refine l_p 1 tbOk rfl ?_
  refine l_split 15 _ rfl (fun c2 => ?_) (fun c2 => ?_)
  · refine l_p 10 tbOk rfl (q1 (c_ifT rfl (q0 ?_)))
    refine l_cons (o_build (cells := [.int .u8 0, .string ⟨#[]⟩, .string ⟨#[]⟩, .int .i64 0, .bool false, .int .u8 0, .string ⟨#[]⟩, .int .i64 0, .slice none 0 0, .slice none 0 0]) (css := []) bd84 rfl rfl rfl rfl rfl ?_)
    refine l_cons (o_st tbOk h2.box rfl rfl rfl rfl (by intro u hu; simp [Value.cells] at hu; rcases hu with rfl | rfl | rfl | rfl | rfl | rfl | rfl | rfl | rfl | rfl <;> rfl) rfl rfl ?_)
    intro w7 hw7 qw7 bew7
    have uw7 : UpdB _ _ _ := ⟨qw7, bew7⟩
    have sw7 := uw7.stp h2.inM hlow h2.ge
    have frw7 := qw7.2
    replace he := he.stp sw7 (frw7 ye he.lt ne_h2_he.symm)
    replace hE := hE.trans sw7.below
    replace hs := hs.stp sw7
    replace hb := hb.stp sw7
    replace hc := Rep.stp hc sw7
    replace hac := Rep.stp hac sw7
    replace hkc := hkc.stp sw7
    replace h5 := h5.stp sw7
    replace hsub := fun b h => sw7.sub b (hsub b h)
    replace hlow := sw7.low
    replace hB := Nat.le_trans hB sw7.upd.1
    replace h2 : MB w.heap.size _ w7 b2 _ [.int .u8 0, .string ⟨#[]⟩, .string ⟨#[]⟩, .int .i64 0, .bool false, .int .u8 0, .string ⟨#[]⟩, .int .i64 0, .slice none 0 0, .slice none 0 0] := ⟨hw7, h2.inM, h2.ge⟩
    refine l_p 1 tbOk rfl (q1 (c_ret (x_seqR ?_)))
    refine x_ret2st tbOk (fun j v hv => h2.cell j v hv) rfl rfl rfl rfl rfl rfl ?_
    have hok : okGT l = false := by
      cases hq : okGT l with
      | false => rfl
      | true =>
        unfold okGT at hq
        simp only [Bool.and_eq_true, Bool.not_eq_true', List.isEmpty_iff] at hq
        have hz : (termE (l.length + 1) l false).2.1.length = 0 := by rw [hq.2.1]; rfl
        exfalso
        first | omega | simp_all
    rw [hok]
    exact ⟨⟨_, rfl, tm_mk (ann := .mk 0 ⟨#[]⟩ 0 []) (by decide) (by decide) (by decide) ⟨by decide, by decide⟩ (ty_mk (by decide) (by decide) ⟨by decide, by decide⟩ sl_nil) sl_nil⟩, hE⟩
  refine l_p 1 tbOk rfl ?_
  refine l_cons (o_ld tbOk (he.cell 0 _ rfl) rfl rfl rfl rfl rfl ?_)
  refine l_cons (o_len tbOk hb rfl rfl rfl rfl rfl ?_)
  refine l_p 3 tbOk rfl ?_
  refine l_splitP 21 _ rfl (fun c3 => ?_) (fun c3 => ?_)
  · refine l_p 4 tbOk rfl (q1 (c_ifT rfl (q0 ?_)))
    refine l_cons (o_build (cells := [.int .u8 0, .string ⟨#[]⟩, .string ⟨#[]⟩, .int .i64 0, .bool false, .int .u8 0, .string ⟨#[]⟩, .int .i64 0, .slice none 0 0, .slice none 0 0]) (css := []) bd84 rfl rfl rfl rfl rfl ?_)
    refine l_cons (o_st tbOk h2.box rfl rfl rfl rfl (by intro u hu; simp [Value.cells] at hu; rcases hu with rfl | rfl | rfl | rfl | rfl | rfl | rfl | rfl | rfl | rfl <;> rfl) rfl rfl ?_)
    intro w8 hw8 qw8 bew8
    have uw8 : UpdB _ _ _ := ⟨qw8, bew8⟩
    have sw8 := uw8.stp h2.inM hlow h2.ge
    have frw8 := qw8.2
    replace he := he.stp sw8 (frw8 ye he.lt ne_h2_he.symm)
    replace hE := hE.trans sw8.below
    replace hs := hs.stp sw8
    replace hb := hb.stp sw8
    replace hc := Rep.stp hc sw8
    replace hac := Rep.stp hac sw8
    replace hkc := hkc.stp sw8
    replace h5 := h5.stp sw8
    replace hsub := fun b h => sw8.sub b (hsub b h)
    replace hlow := sw8.low
    replace hB := Nat.le_trans hB sw8.upd.1
    replace h2 : MB w.heap.size _ w8 b2 _ [.int .u8 0, .string ⟨#[]⟩, .string ⟨#[]⟩, .int .i64 0, .bool false, .int .u8 0, .string ⟨#[]⟩, .int .i64 0, .slice none 0 0, .slice none 0 0] := ⟨hw8, h2.inM, h2.ge⟩
    refine l_p 1 tbOk rfl (q1 (c_ret (x_seqR ?_)))
    refine x_ret2st tbOk (fun j v hv => h2.cell j v hv) rfl rfl rfl rfl rfl rfl ?_
    have hok : okGT l = false := by
      cases hq : okGT l with
      | false => rfl
      | true =>
        unfold okGT at hq
        simp only [Bool.and_eq_true, Bool.not_eq_true', List.isEmpty_iff] at hq
        have hz : (termE (l.length + 1) l false).2.1.length = 0 := by rw [hq.2.1]; rfl
        exfalso
        first | omega | simp_all
    rw [hok]
    exact ⟨⟨_, rfl, tm_mk (ann := .mk 0 ⟨#[]⟩ 0 []) (by decide) (by decide) (by decide) ⟨by decide, by decide⟩ (ty_mk (by decide) (by decide) ⟨by decide, by decide⟩ sl_nil) sl_nil⟩, hE⟩
  refine l_cons (o_lds tbOk (fun j v hv => h5.cell j v hv) rfl rfl rfl rfl rfl rfl ?_)
  refine l_cons (o_call fo76 rfl rfl rfl (tRight_spec _ _ _ _ hc hlow (getT_ann (by omega))) ?_)
  rintro _ w9 ⟨rfl, ew9⟩
  replace h2 := h2.ext hlow hB ew9
  replace he := he.ext hlow hB ew9
  replace hE := hE.trans (Below.mono ew9 hB)
  replace hs := hs.ext ew9
  replace hb := hb.ext ew9
  replace hc := Rep.ext hc ew9
  replace hac := Rep.ext hac ew9
  replace hkc := hkc.ext ew9
  replace h5 := h5.ext ew9
  replace hlow := hlow.ext ew9
  replace hB := Nat.le_trans hB ew9.size
  refine l_p 2 tbOk rfl (q1 ?_)
  refine c_ifB _ rfl (fun c4 => ?_) (fun c4 => ?_)
  · refine q0 ?_
    refine l_cons (o_build (cells := [.int .u8 0, .string ⟨#[]⟩, .string ⟨#[]⟩, .int .i64 0, .bool false, .int .u8 0, .string ⟨#[]⟩, .int .i64 0, .slice none 0 0, .slice none 0 0]) (css := []) bd84 rfl rfl rfl rfl rfl ?_)
    refine l_cons (o_st tbOk h2.box rfl rfl rfl rfl (by intro u hu; simp [Value.cells] at hu; rcases hu with rfl | rfl | rfl | rfl | rfl | rfl | rfl | rfl | rfl | rfl <;> rfl) rfl rfl ?_)
    intro w10 hw10 qw10 bew10
    have uw10 : UpdB _ _ _ := ⟨qw10, bew10⟩
    have sw10 := uw10.stp h2.inM hlow h2.ge
    have frw10 := qw10.2
    replace he := he.stp sw10 (frw10 ye he.lt ne_h2_he.symm)
    replace hE := hE.trans sw10.below
    replace hs := hs.stp sw10
    replace hb := hb.stp sw10
    replace hc := Rep.stp hc sw10
    replace hac := Rep.stp hac sw10
    replace hkc := hkc.stp sw10
    replace h5 := h5.stp sw10
    replace hsub := fun b h => sw10.sub b (hsub b h)
    replace hlow := sw10.low
    replace hB := Nat.le_trans hB sw10.upd.1
    replace h2 : MB w.heap.size _ w10 b2 _ [.int .u8 0, .string ⟨#[]⟩, .string ⟨#[]⟩, .int .i64 0, .bool false, .int .u8 0, .string ⟨#[]⟩, .int .i64 0, .slice none 0 0, .slice none 0 0] := ⟨hw10, h2.inM, h2.ge⟩
    refine l_p 1 tbOk rfl (q1 (c_ret (x_seqR ?_)))
    refine x_ret2st tbOk (fun j v hv => h2.cell j v hv) rfl rfl rfl rfl rfl rfl ?_
    have hok : okGT l = false := by
      cases hq : okGT l with
      | false => rfl
      | true =>
        unfold okGT at hq
        simp only [Bool.and_eq_true, Bool.not_eq_true', List.isEmpty_iff] at hq
        have hz : (termE (l.length + 1) l false).2.1.length = 0 := by rw [hq.2.1]; rfl
        exfalso
        first | omega | simp_all
    rw [hok]
    exact ⟨⟨_, rfl, tm_mk (ann := .mk 0 ⟨#[]⟩ 0 []) (by decide) (by decide) (by decide) ⟨by decide, by decide⟩ (ty_mk (by decide) (by decide) ⟨by decide, by decide⟩ sl_nil) sl_nil⟩, hE⟩
  refine c_skip (x_seq (q0 ?_))
  refine l_cons (o_lds tbOk (fun j v hv => h5.cell j v hv) rfl rfl rfl rfl rfl rfl ?_)
  refine l_cons (o_st tbOk h2.box rfl rfl rfl rfl (Rep.one hc) rfl rfl ?_)
  intro w11 hw11 qw11 bew11
  have uw11 : UpdB _ _ _ := ⟨qw11, bew11⟩
  have sw11 := uw11.stp h2.inM hlow h2.ge
  have frw11 := qw11.2
  replace he := he.stp sw11 (frw11 ye he.lt ne_h2_he.symm)
  replace hE := hE.trans sw11.below
  replace hs := hs.stp sw11
  replace hb := hb.stp sw11
  replace hc := Rep.stp hc sw11
  replace hac := Rep.stp hac sw11
  replace hkc := hkc.stp sw11
  replace h5 := h5.stp sw11
  replace hsub := fun b h => sw11.sub b (hsub b h)
  replace hlow := sw11.low
  replace hB := Nat.le_trans hB sw11.upd.1
  replace h2 : MB w.heap.size _ w11 b2 _ [.int .u8 (getT l).op, .string (getT l).name, .string (getT l).arg, .int .i64 (getT l).n, .bool (getT l).has, .int .u8 (getT l).ann.op, .string (getT l).ann.name, .int .i64 (getT l).ann.n, akvc, kvc] := ⟨hw11, h2.inM, h2.ge⟩
  refine l_p 1 tbOk rfl (q1 (c_ret ?_))
  refine x_ret2st tbOk (fun j v hv => h2.cell j v hv) rfl rfl rfl rfl rfl rfl ?_
  have hok : okGT l = true := by
    have hem : (termE (l.length + 1) l false).2.1.isEmpty = true := by rw [List.isEmpty_iff]; exact List.eq_nil_of_length_eq_zero (by omega)
    unfold okGT; rw [hem]; simp_all
  rw [hok]
  exact ⟨⟨_, rfl, Rep.wk hc (fun b _ h => hsub b h)⟩, hE⟩
/-- CodecOnce: true. -/
theorem codecOnce_spec (l : List UInt8) (M : Nat → Prop) (w : World) (v : Value) (hs : Sl M w v l) (hlow : Low M w) :
    Calls Try.prog 10 #[v] w (Ret fun r w' => r = .bool true ∧ Ext w w') := by
  have hE : Below w.heap.size w w := Below.refl _ _
  have hB : w.heap.size ≤ w.heap.size := Nat.le_refl _
  refine c_enter (n := 59) Try.func10 rfl rfl rfl ?_
  refine q0 (l_p 1 tbOk rfl (q1 (c_seq (q0 ?_))))
  refine l_cons (o_call fo27 rfl rfl rfl (alive27_spec _ _ hlow) ?_)
  rintro _ w1 ⟨rfl, ew1⟩
  replace hE := hE.trans (Below.mono ew1 hB)
  replace hs := hs.ext ew1
  replace hlow := hlow.ext ew1
  replace hB := Nat.le_trans hB ew1.size
  refine l_p 1 tbOk rfl (q1 ?_)
  refine c_ifB _ rfl (fun c1 => ?_) (fun c1 => ?_)
  · exact absurd c1 (by simp)
  refine c_skip (x_seq (c_seq (q0 (l_p 1 tbOk rfl ?_))))
  refine l_cons (o_len tbOk hs rfl rfl rfl rfl rfl ?_)
  refine l_p 1 tbOk rfl (q1 ?_)
  refine c_ifP _ rfl (fun c2 => ?_) (fun c2 => ?_)
  · refine q0 (l_p 1 tbOk rfl (q1 (c_ret (x_seqR (x_ret1 rfl rfl ?_)))))
    exact ⟨rfl, hE⟩
  refine c_skip (x_seq (c_seq (q0 (l_p 1 tbOk rfl ?_))))
  have hgt := getTerm_spec l (by omega) _ _ _ hs hlow
  cases hght : okGT l with
  | false =>
    rw [hght] at hgt
    refine l_cons (o_call fo33 rfl rfl rfl (hgt) ?_)
    rintro _ w2 ⟨⟨xht, rfl, ht⟩, ew2⟩
    replace ht : Rep.R M w2 xht tmZ := ht
    replace hE := hE.trans (Below.mono ew2 hB)
    replace hs := hs.ext ew2
    replace hlow := hlow.ext ew2
    replace hB := Nat.le_trans hB ew2.size
    obtain ⟨akvht, kvht, rfl, opht, nmht, aght, n64ht, haht, hkht⟩ := tm_open ht
    refine l_p 3 tbOk rfl ?_
    refine l_cons (o_new tbOk rfl rfl rfl ?_)
    intro b3 w3 qb3 ew3 hb3
    have nb3 := nM_of hlow qb3
    refine l_cons (o_st tbOk hb3 rfl rfl rfl rfl (Rep.one ht) rfl rfl ?_)
    intro w4 h3 uw4 bew4
    have ew4 : Ext w2 w4 := ew3.trans (bew4 _ (Nat.le_of_eq qb3.symm))
    replace hE := hE.trans (Below.mono ew4 hB)
    replace hs := hs.ext ew4
    replace ht := Rep.ext ht ew4
    replace haht := Rep.ext haht ew4
    replace hkht := hkht.ext ew4
    replace hlow := hlow.ext ew4
    replace hB := Nat.le_trans hB ew4.size
    replace h3 : Box w4 b3 84 [.int .u8 tmZ.op, .string tmZ.name, .string tmZ.arg, .int .i64 tmZ.n, .bool tmZ.has, .int .u8 tmZ.ann.op, .string tmZ.ann.name, .int .i64 tmZ.ann.n, akvht, kvht] := h3
    replace h3 := h3.at nb3
    refine l_p 1 tbOk rfl (q1 (q0 (l_p 1 tbOk rfl ?_)))
    refine l_cons (o_conv (y := 15) tbOk rfl rfl rfl rfl rfl rfl rfl rfl ?_)
    refine l_p 1 tbOk rfl (q1 (c_ifF rfl (c_skip (x_seq (q0 (l_p 1 tbOk rfl ?_))))))
    have hgk := getType_spec l (by omega) _ _ _ hs hlow
    cases hghu : okGY l with
    | false =>
      rw [hghu] at hgk
      refine l_cons (o_call fo34 rfl rfl rfl (hgk) ?_)
      rintro _ w5 ⟨⟨xhu, rfl, hu⟩, ew5⟩
      replace hu : Rep.R M w5 xhu tyZ := hu
      replace hE := hE.trans (Below.mono ew5 hB)
      replace hs := hs.ext ew5
      replace ht := Rep.ext ht ew5
      replace haht := Rep.ext haht ew5
      replace hkht := hkht.ext ew5
      replace h3 := h3.ext ew5
      replace hlow := hlow.ext ew5
      replace hB := Nat.le_trans hB ew5.size
      obtain ⟨kvhu, rfl, ophu, nmhu, n64hu, hkhu⟩ := ty_open hu
      refine l_p 3 tbOk rfl ?_
      refine l_cons (o_new tbOk rfl rfl rfl ?_)
      intro b7 w6 qb7 ew6 hb7
      have nb7 := nM_of hlow qb7
      refine l_cons (o_st tbOk hb7 rfl rfl rfl rfl (Rep.one hu) rfl rfl ?_)
      intro w7 h7 uw7 bew7
      have ew7 : Ext w5 w7 := ew6.trans (bew7 _ (Nat.le_of_eq qb7.symm))
      replace hE := hE.trans (Below.mono ew7 hB)
      replace hs := hs.ext ew7
      replace ht := Rep.ext ht ew7
      replace haht := Rep.ext haht ew7
      replace hkht := hkht.ext ew7
      replace h3 := h3.ext ew7
      replace hu := Rep.ext hu ew7
      replace hkhu := hkhu.ext ew7
      replace hlow := hlow.ext ew7
      replace hB := Nat.le_trans hB ew7.size
      replace h7 : Box w7 b7 40 [.int .u8 tyZ.op, .string tyZ.name, .int .i64 tyZ.n, kvhu] := h7
      replace h7 := h7.at nb7
      refine l_p 1 tbOk rfl (q1 (c_seq (q0 (l_p 1 tbOk rfl ?_))))
      refine l_cons (o_conv (y := 15) tbOk rfl rfl rfl rfl rfl rfl rfl rfl ?_)
      refine l_p 1 tbOk rfl (q1 (c_ifT rfl (q0 (l_p 1 tbOk rfl (q1 (c_ret (x_seqR (x_ret1 rfl rfl ?_))))))))
      exact ⟨rfl, hE⟩
    | true =>
      rw [hghu] at hgk
      refine l_cons (o_call fo34 rfl rfl rfl (hgk) ?_)
      rintro _ w8 ⟨⟨xhu, rfl, hu⟩, ew8⟩
      replace hu : Rep.R M w8 xhu (getY l) := hu
      replace hE := hE.trans (Below.mono ew8 hB)
      replace hs := hs.ext ew8
      replace ht := Rep.ext ht ew8
      replace haht := Rep.ext haht ew8
      replace hkht := hkht.ext ew8
      replace h3 := h3.ext ew8
      replace hlow := hlow.ext ew8
      replace hB := Nat.le_trans hB ew8.size
      obtain ⟨kvhu, rfl, ophu, nmhu, n64hu, hkhu⟩ := ty_open hu
      refine l_p 3 tbOk rfl ?_
      refine l_cons (o_new tbOk rfl rfl rfl ?_)
      intro b7 w9 qb7 ew9 hb7
      have nb7 := nM_of hlow qb7
      refine l_cons (o_st tbOk hb7 rfl rfl rfl rfl (Rep.one hu) rfl rfl ?_)
      intro w10 h7 uw10 bew10
      have ew10 : Ext w8 w10 := ew9.trans (bew10 _ (Nat.le_of_eq qb7.symm))
      replace hE := hE.trans (Below.mono ew10 hB)
      replace hs := hs.ext ew10
      replace ht := Rep.ext ht ew10
      replace haht := Rep.ext haht ew10
      replace hkht := hkht.ext ew10
      replace h3 := h3.ext ew10
      replace hu := Rep.ext hu ew10
      replace hkhu := hkhu.ext ew10
      replace hlow := hlow.ext ew10
      replace hB := Nat.le_trans hB ew10.size
      replace h7 : Box w10 b7 40 [.int .u8 (getY l).op, .string (getY l).name, .int .i64 (getY l).n, kvhu] := h7
      replace h7 := h7.at nb7
      refine l_p 1 tbOk rfl (q1 (c_seq (q0 (l_p 1 tbOk rfl ?_))))
      refine l_cons (o_conv (y := 0) tbOk rfl rfl rfl rfl rfl rfl rfl rfl ?_)
      refine l_p 1 tbOk rfl (q1 (c_ifF rfl (c_skip (x_seq (q0 ?_)))))
      refine l_cons (o_lds tbOk (fun j v hv => h7.cell j v hv) rfl rfl rfl rfl rfl rfl ?_)
      obtain ⟨hr2, hb2⟩ := okGY_back hghu
      have hpu := putType_spec (getY l) _ _ _ hu hlow (by rw [hb2]; omega)
      rw [hr2, hb2] at hpu
      refine l_cons (o_call fo42 rfl rfl rfl (hpu) ?_)
      rintro _ w11 ⟨⟨yhpu, rfl, hpux⟩, ew11⟩
      replace hpux : Sl M w11 yhpu l := hpux
      replace hE := hE.trans (Below.mono ew11 hB)
      replace hs := hs.ext ew11
      replace ht := Rep.ext ht ew11
      replace haht := Rep.ext haht ew11
      replace hkht := hkht.ext ew11
      replace h3 := h3.ext ew11
      replace hu := Rep.ext hu ew11
      replace hkhu := hkhu.ext ew11
      replace h7 := h7.ext ew11
      replace hlow := hlow.ext ew11
      replace hB := Nat.le_trans hB ew11.size
      refine l_p 5 tbOk rfl (q1 (q0 (l_p 1 tbOk rfl ?_)))
      refine l_cons (o_conv (y := 0) tbOk rfl rfl rfl rfl rfl rfl rfl rfl ?_)
      refine l_p 4 tbOk rfl ?_
      refine l_cons (o_call fo29 rfl rfl rfl (sameB_spec _ _ M _ _ _ hs hpux) ?_)
      rintro _ w12 ⟨rfl, ew12⟩
      replace hE := hE.trans (Below.mono ew12 hB)
      replace hs := hs.ext ew12
      replace ht := Rep.ext ht ew12
      replace haht := Rep.ext haht ew12
      replace hkht := hkht.ext ew12
      replace h3 := h3.ext ew12
      replace hu := Rep.ext hu ew12
      replace hkhu := hkhu.ext ew12
      replace h7 := h7.ext ew12
      replace hpux := hpux.ext ew12
      replace hlow := hlow.ext ew12
      replace hB := Nat.le_trans hB ew12.size
      refine l_p 2 tbOk rfl (q1 (c_ret (x_ret1 rfl rfl ?_)))
      exact ⟨by simp_all, hE⟩
  | true =>
    rw [hght] at hgt
    refine l_cons (o_call fo33 rfl rfl rfl (hgt) ?_)
    rintro _ w13 ⟨⟨xht, rfl, ht⟩, ew13⟩
    replace ht : Rep.R M w13 xht (getT l) := ht
    replace hE := hE.trans (Below.mono ew13 hB)
    replace hs := hs.ext ew13
    replace hlow := hlow.ext ew13
    replace hB := Nat.le_trans hB ew13.size
    obtain ⟨akvht, kvht, rfl, opht, nmht, aght, n64ht, haht, hkht⟩ := tm_open ht
    refine l_p 3 tbOk rfl ?_
    refine l_cons (o_new tbOk rfl rfl rfl ?_)
    intro b3 w14 qb3 ew14 hb3
    have nb3 := nM_of hlow qb3
    refine l_cons (o_st tbOk hb3 rfl rfl rfl rfl (Rep.one ht) rfl rfl ?_)
    intro w15 h3 uw15 bew15
    have ew15 : Ext w13 w15 := ew14.trans (bew15 _ (Nat.le_of_eq qb3.symm))
    replace hE := hE.trans (Below.mono ew15 hB)
    replace hs := hs.ext ew15
    replace ht := Rep.ext ht ew15
    replace haht := Rep.ext haht ew15
    replace hkht := hkht.ext ew15
    replace hlow := hlow.ext ew15
    replace hB := Nat.le_trans hB ew15.size
    replace h3 : Box w15 b3 84 [.int .u8 (getT l).op, .string (getT l).name, .string (getT l).arg, .int .i64 (getT l).n, .bool (getT l).has, .int .u8 (getT l).ann.op, .string (getT l).ann.name, .int .i64 (getT l).ann.n, akvht, kvht] := h3
    replace h3 := h3.at nb3
    refine l_p 1 tbOk rfl (q1 (q0 (l_p 1 tbOk rfl ?_)))
    refine l_cons (o_conv (y := 0) tbOk rfl rfl rfl rfl rfl rfl rfl rfl ?_)
    refine l_p 1 tbOk rfl (q1 (c_ifT rfl (q0 ?_)))
    refine l_cons (o_lds tbOk (fun j v hv => h3.cell j v hv) rfl rfl rfl rfl rfl rfl ?_)
    obtain ⟨hr1, hb1⟩ := okGT_back hght
    have hpt := putTerm_spec (getT l) _ _ _ ht hlow (getT_ann (by omega)) (by rw [hb1]; omega)
    rw [hr1, hb1] at hpt
    refine l_cons (o_call fo41 rfl rfl rfl (hpt) ?_)
    rintro _ w16 ⟨⟨yhpt, rfl, hptx⟩, ew16⟩
    replace hptx : Sl M w16 yhpt l := hptx
    replace hE := hE.trans (Below.mono ew16 hB)
    replace hs := hs.ext ew16
    replace ht := Rep.ext ht ew16
    replace haht := Rep.ext haht ew16
    replace hkht := hkht.ext ew16
    replace h3 := h3.ext ew16
    replace hlow := hlow.ext ew16
    replace hB := Nat.le_trans hB ew16.size
    refine l_p 5 tbOk rfl (q1 (q0 (l_p 1 tbOk rfl ?_)))
    refine l_cons (o_conv (y := 0) tbOk rfl rfl rfl rfl rfl rfl rfl rfl ?_)
    refine l_p 4 tbOk rfl ?_
    refine l_cons (o_call fo29 rfl rfl rfl (sameB_spec _ _ M _ _ _ hs hptx) ?_)
    rintro _ w17 ⟨rfl, ew17⟩
    replace hE := hE.trans (Below.mono ew17 hB)
    replace hs := hs.ext ew17
    replace ht := Rep.ext ht ew17
    replace haht := Rep.ext haht ew17
    replace hkht := hkht.ext ew17
    replace h3 := h3.ext ew17
    replace hptx := hptx.ext ew17
    replace hlow := hlow.ext ew17
    replace hB := Nat.le_trans hB ew17.size
    refine l_p 2 tbOk rfl (q1 ?_)
    refine c_ifB _ rfl (fun c3 => ?_) (fun c3 => ?_)
    · refine q0 (l_p 1 tbOk rfl (q1 (c_ret (x_seqR (x_ret1 rfl rfl ?_)))))
      exact ⟨by simp_all, hE⟩
    refine c_skip (x_seq (q0 (l_p 1 tbOk rfl ?_)))
    have hgk := getType_spec l (by omega) _ _ _ hs hlow
    cases hghu : okGY l with
    | false =>
      rw [hghu] at hgk
      refine l_cons (o_call fo34 rfl rfl rfl (hgk) ?_)
      rintro _ w18 ⟨⟨xhu, rfl, hu⟩, ew18⟩
      replace hu : Rep.R M w18 xhu tyZ := hu
      replace hE := hE.trans (Below.mono ew18 hB)
      replace hs := hs.ext ew18
      replace ht := Rep.ext ht ew18
      replace haht := Rep.ext haht ew18
      replace hkht := hkht.ext ew18
      replace h3 := h3.ext ew18
      replace hptx := hptx.ext ew18
      replace hlow := hlow.ext ew18
      replace hB := Nat.le_trans hB ew18.size
      obtain ⟨kvhu, rfl, ophu, nmhu, n64hu, hkhu⟩ := ty_open hu
      refine l_p 3 tbOk rfl ?_
      refine l_cons (o_new tbOk rfl rfl rfl ?_)
      intro b7 w19 qb7 ew19 hb7
      have nb7 := nM_of hlow qb7
      refine l_cons (o_st tbOk hb7 rfl rfl rfl rfl (Rep.one hu) rfl rfl ?_)
      intro w20 h7 uw20 bew20
      have ew20 : Ext w18 w20 := ew19.trans (bew20 _ (Nat.le_of_eq qb7.symm))
      replace hE := hE.trans (Below.mono ew20 hB)
      replace hs := hs.ext ew20
      replace ht := Rep.ext ht ew20
      replace haht := Rep.ext haht ew20
      replace hkht := hkht.ext ew20
      replace h3 := h3.ext ew20
      replace hptx := hptx.ext ew20
      replace hu := Rep.ext hu ew20
      replace hkhu := hkhu.ext ew20
      replace hlow := hlow.ext ew20
      replace hB := Nat.le_trans hB ew20.size
      replace h7 : Box w20 b7 40 [.int .u8 tyZ.op, .string tyZ.name, .int .i64 tyZ.n, kvhu] := h7
      replace h7 := h7.at nb7
      refine l_p 1 tbOk rfl (q1 (c_seq (q0 (l_p 1 tbOk rfl ?_))))
      refine l_cons (o_conv (y := 15) tbOk rfl rfl rfl rfl rfl rfl rfl rfl ?_)
      refine l_p 1 tbOk rfl (q1 (c_ifT rfl (q0 (l_p 1 tbOk rfl (q1 (c_ret (x_seqR (x_ret1 rfl rfl ?_))))))))
      exact ⟨rfl, hE⟩
    | true =>
      rw [hghu] at hgk
      refine l_cons (o_call fo34 rfl rfl rfl (hgk) ?_)
      rintro _ w21 ⟨⟨xhu, rfl, hu⟩, ew21⟩
      replace hu : Rep.R M w21 xhu (getY l) := hu
      replace hE := hE.trans (Below.mono ew21 hB)
      replace hs := hs.ext ew21
      replace ht := Rep.ext ht ew21
      replace haht := Rep.ext haht ew21
      replace hkht := hkht.ext ew21
      replace h3 := h3.ext ew21
      replace hptx := hptx.ext ew21
      replace hlow := hlow.ext ew21
      replace hB := Nat.le_trans hB ew21.size
      obtain ⟨kvhu, rfl, ophu, nmhu, n64hu, hkhu⟩ := ty_open hu
      refine l_p 3 tbOk rfl ?_
      refine l_cons (o_new tbOk rfl rfl rfl ?_)
      intro b7 w22 qb7 ew22 hb7
      have nb7 := nM_of hlow qb7
      refine l_cons (o_st tbOk hb7 rfl rfl rfl rfl (Rep.one hu) rfl rfl ?_)
      intro w23 h7 uw23 bew23
      have ew23 : Ext w21 w23 := ew22.trans (bew23 _ (Nat.le_of_eq qb7.symm))
      replace hE := hE.trans (Below.mono ew23 hB)
      replace hs := hs.ext ew23
      replace ht := Rep.ext ht ew23
      replace haht := Rep.ext haht ew23
      replace hkht := hkht.ext ew23
      replace h3 := h3.ext ew23
      replace hptx := hptx.ext ew23
      replace hu := Rep.ext hu ew23
      replace hkhu := hkhu.ext ew23
      replace hlow := hlow.ext ew23
      replace hB := Nat.le_trans hB ew23.size
      replace h7 : Box w23 b7 40 [.int .u8 (getY l).op, .string (getY l).name, .int .i64 (getY l).n, kvhu] := h7
      replace h7 := h7.at nb7
      refine l_p 1 tbOk rfl (q1 (c_seq (q0 (l_p 1 tbOk rfl ?_))))
      refine l_cons (o_conv (y := 0) tbOk rfl rfl rfl rfl rfl rfl rfl rfl ?_)
      refine l_p 1 tbOk rfl (q1 (c_ifF rfl (c_skip (x_seq (q0 ?_)))))
      refine l_cons (o_lds tbOk (fun j v hv => h7.cell j v hv) rfl rfl rfl rfl rfl rfl ?_)
      obtain ⟨hr2, hb2⟩ := okGY_back hghu
      have hpu := putType_spec (getY l) _ _ _ hu hlow (by rw [hb2]; omega)
      rw [hr2, hb2] at hpu
      refine l_cons (o_call fo42 rfl rfl rfl (hpu) ?_)
      rintro _ w24 ⟨⟨yhpu, rfl, hpux⟩, ew24⟩
      replace hpux : Sl M w24 yhpu l := hpux
      replace hE := hE.trans (Below.mono ew24 hB)
      replace hs := hs.ext ew24
      replace ht := Rep.ext ht ew24
      replace haht := Rep.ext haht ew24
      replace hkht := hkht.ext ew24
      replace h3 := h3.ext ew24
      replace hptx := hptx.ext ew24
      replace hu := Rep.ext hu ew24
      replace hkhu := hkhu.ext ew24
      replace h7 := h7.ext ew24
      replace hlow := hlow.ext ew24
      replace hB := Nat.le_trans hB ew24.size
      refine l_p 5 tbOk rfl (q1 (q0 (l_p 1 tbOk rfl ?_)))
      refine l_cons (o_conv (y := 0) tbOk rfl rfl rfl rfl rfl rfl rfl rfl ?_)
      refine l_p 4 tbOk rfl ?_
      refine l_cons (o_call fo29 rfl rfl rfl (sameB_spec _ _ M _ _ _ hs hpux) ?_)
      rintro _ w25 ⟨rfl, ew25⟩
      replace hE := hE.trans (Below.mono ew25 hB)
      replace hs := hs.ext ew25
      replace ht := Rep.ext ht ew25
      replace haht := Rep.ext haht ew25
      replace hkht := hkht.ext ew25
      replace h3 := h3.ext ew25
      replace hptx := hptx.ext ew25
      replace hu := Rep.ext hu ew25
      replace hkhu := hkhu.ext ew25
      replace h7 := h7.ext ew25
      replace hpux := hpux.ext ew25
      replace hlow := hlow.ext ew25
      replace hB := Nat.le_trans hB ew25.size
      refine l_p 2 tbOk rfl (q1 (c_ret (x_ret1 rfl rfl ?_)))
      exact ⟨by simp_all, hE⟩
end Go.Proofs.Ytohfnpmehgpphaa
namespace Rw
open Go Go.RowKit
theorem Ret.out {R : Value → World → Prop} {e : Ending} {w : World} (h : Ret R e w) : ∃ v, e = .returned v ∧ R v w := by
  cases e with
  | returned v => exact ⟨v, rfl, h⟩
  | _ => exact h.elim
/-- A type's readings (those that Q bears) are things of α. -/
structure Opens {H : Type} {α : Type} [Rep α] (P : Program) (Q : TypeId → DataW H → Prop) (t : TypeId) (α' : α → Prop) : Prop where
  cells : P.cellsOf t = Rep.sz α
  read : ∀ (enc : TypeId × Value → H) (w : World) (fuel : Nat) (cs : List Value) (d : DataW H) (ps : List MemPlace), DataW.trod enc P w 0 (fun _ => true) true fuel t cs = some (d, ps) → Q t d →
    ∃ (v : Value) (x : α), v.cells.toList = cs ∧ Rep.R NoM w v x ∧ α' x
section
variable {H : Type} {P : Program} {Q : TypeId → DataW H → Prop}
theorem opens_slice {α : Type} [Rep α] {p : α → Prop} {t e : TypeId} (ht : P.underlying t = some (.slice e)) (hc : P.cellsOf t = 1) (he : Opens P Q e p)
    (hq : ∀ el sp, Q t (.slice el sp) → el.length < 140737488355328 ∧ ∀ d ∈ el, Q e d) : Opens (α := List α) P Q t (fun l => ∀ x ∈ l, p x) := by
  refine ⟨hc, fun enc w fuel cs d ps h hQ => ?_⟩
  rcases Go.Deep.open_slice ht h with ⟨rfl, _⟩ | ⟨a, len, cap, m, n, D, Pl, rfl, _, hl, _, hm, hx, hel⟩
  · exact ⟨.slice none 0 0, [], rfl, sl_nil, fun x hx => by cases hx⟩
  · have hm' : m = cap := by simpa using hm
    subst hm'
    have hd : d = .slice ((List.range len).map D) ((List.range (m - len)).map fun j => D (len + j)) := congrArg Prod.fst hx
    subst hd
    obtain ⟨hlen, hall⟩ := hq _ _ hQ
    have hlen' : len < 140737488355328 := by simpa using hlen
    rw [he.cells] at hel
    have each : ∀ i : Fin len, ∃ y : Value × α, w.cells? 0 (a.add (i.1 * Rep.sz α)) (Rep.sz α) = some y.1.cells.toList ∧ Rep.R NoM w y.1 y.2 ∧ p y.2 := by
      intro i
      obtain ⟨cs', h1, h2⟩ := hel i.1 (Nat.lt_of_lt_of_le i.2 hl)
      obtain ⟨v, x, hv, hR, hp⟩ := he.read enc w n cs' _ _ h2 (hall _ (List.mem_map.2 ⟨i.1, List.mem_range.2 i.2, rfl⟩))
      exact ⟨(v, x), by rw [hv]; exact h1, hR, hp⟩
    obtain ⟨f, hf⟩ := Classical.axiomOfChoice each
    refine ⟨.slice (some a) len m, List.ofFn fun i => (f i).2, rfl, ⟨some a, m, by simp, by simpa using hlen', by simpa using hl, ?_⟩, fun x hx => ?_⟩
    · by_cases h0 : len = 0
      · subst h0; left; simp
      · right
        have hpos : 0 < Rep.sz α := Rep.pos
        obtain ⟨_, _, hc0⟩ := World.cells?_some (hf ⟨0, by omega⟩).1
        have hc00 := hc0 0 hpos
        have hlen0 := Rep.size (hf ⟨0, by omega⟩).2.1
        obtain ⟨b, off, spot⟩ := a
        have hsome : ∃ v, w.cell? ⟨b, off, spot⟩ = some v := by
          have e1 : (Addr.add ⟨b, off, spot⟩ (0 * Rep.sz α)).add 0 = ⟨b, off, spot⟩ := by simp [Addr.add]
          rw [e1] at hc00
          refine ⟨_, hc00.trans (List.getElem?_eq_getElem (by simpa [hlen0] using hpos))⟩
        obtain ⟨v0, hv0⟩ := hsome
        have hsp : spot = none := by
          cases spot with
          | none => rfl
          | some s => simp [World.cell?] at hv0; split at hv0 <;> simp at hv0
        subst hsp
        have hb : b < w.heap.size := by
          rcases Nat.lt_or_ge b w.heap.size with h | h
          · exact h
          · simp [World.cell?, Array.getElem?_eq_none h] at hv0
        refine ⟨b, off, rfl, fun i x hi => ?_⟩
        have hi' : i < len := by
          have := (List.getElem?_eq_some_iff.1 hi).1
          simpa using this
        have hxe : x = (f ⟨i, hi'⟩).2 := by
          rw [List.getElem?_ofFn, dif_pos hi'] at hi
          simpa using hi.symm
        subst hxe
        refine ⟨(f ⟨i, hi'⟩).1, (hf ⟨i, hi'⟩).2.1, hb, fun h => h.elim, fun j c hj => ?_⟩
        obtain ⟨_, hl2, hc2⟩ := World.cells?_some (hf ⟨i, hi'⟩).1
        have hj' : j < Rep.sz α := by rw [← hl2]; exact (List.getElem?_eq_some_iff.1 hj).1
        have := hc2 j hj'
        rw [addr_add, addr_add, hj] at this
        exact this
    · obtain ⟨i, rfl⟩ := (List.mem_ofFn).1 hx
      exact (hf i).2.2
end
/-! ## What the form's reach pays -/
/-- Every weight of the reading is within the reach. -/
def Wq {H : Type} (P : Program) (t : TypeId) (d : DataW H) : Prop := ∀ n ∈ d.weights P t, n ≤ reachBytes
theorem weights_all {H : Type} {P : Program} {e : TypeId} {d : DataW H} : ∀ {l : List (DataW H)}, d ∈ l → ∀ n ∈ d.weights P e, n ∈ DataW.weightsAll P e l
  | x :: r, h, n, hn => by
    simp only [DataW.weightsAll, List.mem_append]
    rcases List.mem_cons.1 h with rfl | h
    · exact .inl hn
    · exact .inr (weights_all h n hn)
theorem wq_slice {H : Type} {P : Program} {t e : TypeId} (ht : P.underlying t = some (.slice e)) (hb : 0 < P.bytesOf e) (el sp : List (DataW H)) (h : Wq P t (.slice el sp)) :
    el.length < 140737488355328 ∧ ∀ d ∈ el, Wq P e d := by
  have hw : (DataW.slice el sp).weights P t = (el.length + sp.length) * P.bytesOf e :: (DataW.weightsAll P e el ++ DataW.weightsAll P e sp) := by simp [DataW.weights, ht]
  constructor
  · have h1 := h _ (by rw [hw]; exact List.mem_cons_self)
    have h2 : reachBytes < 140737488355328 := by decide
    have h3 : el.length ≤ (el.length + sp.length) * P.bytesOf e := Nat.le_trans (Nat.le_add_right _ _) (Nat.le_mul_of_pos_right _ hb)
    omega
  · intro d hd n hn
    exact h n (by rw [hw]; exact List.mem_cons_of_mem _ (List.mem_append_left _ (weights_all hd n hn)))
theorem wq_each {H : Type} {P : Program} {ts : List TypeId} {ds : List (DataW H)} (h : (DataW.weightsEach P ts ds).all (· ≤ reachBytes) = true) {j : Nat} {t : TypeId} {d : DataW H} (ht : ts[j]? = some t) (hd : ds[j]? = some d) : Wq P t d := by
  intro n hn
  simpa using List.all_eq_true.1 h n (DataW.weights_mem_each ht hd n hn)
/-- A slice that came in. -/
theorem opens_arg {H : Type} {P : Program} {Q : TypeId → DataW H → Prop} {α : Type} [Rep α] {t e : TypeId} {p : List α → Prop} (_ht : P.underlying t = some (.slice e)) (ho : Opens P Q t p) {enc : TypeId × Value → H} {w : World} {a : Option Addr} {len cap : Nat} {d : DataW H} {ps : List MemPlace}
    (h : DataW.Trod enc P w 0 (fun _ => true) true t (.slice a len cap) d ps) (hQ : Q t d) : ∃ l : List α, Sl NoM w (.slice a len cap) l ∧ p l := by
  obtain ⟨fuel, hf⟩ := h
  obtain ⟨v, l, hv, hR, hp⟩ := ho.read enc w fuel _ _ _ hf hQ
  refine ⟨l, ?_, hp⟩
  have hR' : Sl NoM w v l := hR
  obtain ⟨a', c', rfl, _⟩ := id hR'
  simp [Value.cells] at hv
  obtain ⟨h1, h2, h3⟩ := hv
  subst h1; subst h2; subst h3
  exact hR'
end Rw
namespace Rw
open Go Go.RowKit
variable {H : Type} {P : Program}
theorem opens_byte {Q : TypeId → DataW H → Prop} {t : TypeId} (ht : P.underlying t = some (.int .u8)) (hc : P.cellsOf t = 1) : Opens (α := UInt8) P Q t (fun _ => True) := by
  refine ⟨hc, fun enc w fuel cs d ps h _ => ?_⟩
  obtain ⟨n, rfl, _, hw⟩ := DataW.trod_int ht h
  have : 0 ≤ n ∧ n ≤ 255 := by simpa [Lit.wf, IntKind.min, IntKind.max, IntKind.signed, IntKind.bits] using hw
  refine ⟨.int .u8 n, UInt8.ofNat n.toNat, rfl, ?_, trivial⟩
  show Value.int .u8 n = Value.int .u8 ((UInt8.ofNat n.toNat).toNat : Int)
  congr 1
  rw [UInt8.toNat_ofNat']
  omega
end Rw
