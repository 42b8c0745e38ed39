/- Walks: codec's pen. Printed by wip/walks/codec1.py. -/
import Derived.Test.YtohfnpmehgpphaaTa
import Derived.Test.YtohfnpmehgpphaaPlainCo
namespace Go.Proofs.Ytohfnpmehgpphaa
open Go Rw Go.RowKit
set_option maxRecDepth 100000

/-- num: a number is put. -/
theorem penNum_spec (n : Nat) (hn : n < 18446744073709551616) (b : List UInt8) (M : Nat → Prop) (w : World) (B bp : Nat) (bv : Value) (hp : MB B M w bp 125 [bv]) (ho : OwnSl 5 B M w bv b) (hne : ∀ x, (bv : Value).ownBlock = some x → x ≠ bp) (hlow : Low M w) (hB : B ≤ w.heap.size) (hl : b.length ≤ 1000000000000) :
    Calls Try.prog 100 #[.pointer (some ⟨bp, 0, none⟩), .int .u64 (n : Int)] w (Ret fun r w' => r = .tuple #[] ∧ ∃ M' bv', MB B M' w' bp 125 [bv'] ∧ OwnSl 5 B M' w' bv' (b ++ numY n) ∧ (∀ x, (bv' : Value).ownBlock = some x → x ≠ bp) ∧ Stp B M M' w w') := by
  have hT : Stp B M M w w := Stp.refl hlow
  have d_ho_hp := hne
  have hbn := numY_len n
  refine c_enter (n := 31) Try.func100 rfl rfl rfl ?_
  refine c_seq (c_blk ?_)
  refine c_loop4 (X := Nat) (Y := Value) (Z := Nat → Prop) (U := List UInt8) (fun z bv M1 l => [(0, .pointer (some ⟨bp, 0, none⟩)), (1, .int .u64 (z : Nat))]) (fun z bv M1 l w' => l ++ numY z = b ++ numY n ∧ z < 18446744073709551616 ∧ MB B M1 w' bp 125 [bv] ∧ OwnSl 5 B M1 w' bv l ∧ (∀ x, (bv : Value).ownBlock = some x → x ≠ bp) ∧ Stp B M M1 w w' ∧ Low M1 w' ∧ B ≤ w'.heap.size) (fun z bv M1 l => z) (n) (bv) (M) (b) (s2 rfl rfl) ?_ ?_
  · exact ⟨rfl, hn, hp, ho, d_ho_hp, hT, hlow, hB⟩
  clear hp ho hne d_ho_hp hT hlow hB
  rintro z bv M1 l w1 ⟨hinv, hz, hp, ho, d_ho_hp, hT, hlow, hB⟩
  have hll : l.length ≤ b.length + 10 := by
    have := congrArg List.length hinv
    simp only [List.length_append] at this
    omega
  refine c_seq (q0 (l_p 2 tbOk rfl (q1 ?_)))
  refine c_ifP _ rfl (fun c1 => ?_) (fun c1 => ?_)
  · refine c_skip (x_seq (c_seq (c_blk (c_reg (l_p 4 tbOk rfl ?_)))))
    refine l_cons (o_ld tbOk (hp.cell 0 _ rfl) rfl rfl rfl rfl rfl ?_)
    refine l_p 1 tbOk rfl ?_
    refine l_cons (o_conv (y := ((z % 256 : Nat) : Int)) tbOk rfl rfl rfl rfl rfl (wrap_u8 z) rfl rfl ?_)
    refine l_cons (o_or (r := ((UInt8.ofNat (128 + z % 128)).toNat : Int)) rfl rfl (by rw [show z % 128 = z % 256 % 128 by omega]; exact or_128 (show z % 256 < 256 by omega)) rfl rfl ?_)
    refine l_cons (o_bs tbOk rfl rfl rfl rfl rfl rfl rfl (sz1 rfl) rfl rfl rfl ?_)
    intro bw2 w2 qbw2 ew2 hbw2
    have nbw2 := nM_of hlow qbw2
    replace hT := hT.then (Stp.ext ew2 hlow hB)
    replace hp := hp.ext hlow hB ew2
    replace ho := ho.ext hlow hB ew2
    replace hlow := hlow.ext ew2
    replace hB := Nat.le_trans hB ew2.size
    refine l_cons (o_app1 tbOk ho hbw2 nbw2 (show Rep.R _ _ _ (UInt8.ofNat (128 + z % 128)) from rfl) hlow hB rfl rfl rfl rfl rfl rfl rfl (by omega) (by show (_ + _) * 1 ≤ _; omega) rfl rfl ?_)
    intro vw3 w3 Mw3 hw3 sw3 frw3 blw3
    have zd_ho_hp := d_ho_hp
    replace d_ho_hp : ∀ x, (vw3 : Value).ownBlock = some x → x ≠ bp := fun x hx => (blw3 x hx).elim (d_ho_hp x) (fun h e => by have := hp.lt; omega)
    replace hT := hT.then sw3
    replace hp := hp.stp sw3 (frw3 bp hp.lt (fun e => zd_ho_hp _ e.symm rfl))
    replace hlow := sw3.low
    replace hB := Nat.le_trans hB sw3.upd.1
    replace ho := hw3
    clear hw3
    refine l_p 2 tbOk rfl ?_
    obtain ⟨a2, ca2, rfl, _⟩ := ho.val
    refine l_cons (o_st tbOk hp.box rfl rfl rfl rfl (by intro u hu; simp [Value.cells] at hu; subst hu; rfl) rfl rfl ?_)
    intro w4 hw4 qw4 bew4
    have uw4 : UpdB _ _ _ := ⟨qw4, bew4⟩
    have sw4 := uw4.stp hp.inM hlow hp.ge
    have frw4 := qw4.2
    replace hT := hT.then sw4
    replace ho := ho.stp sw4 (fun x hx => frw4 x (ho.lt x hx).2 (d_ho_hp x hx))
    replace hlow := sw4.low
    replace hB := Nat.le_trans hB sw4.upd.1
    replace hp : MB B _ w4 bp _ [(.slice a2 (l ++ [UInt8.ofNat (128 + z % 128)]).length ca2)] := ⟨hw4, hp.inM, hp.ge⟩
    refine q2 (x_seq (c_reg (l_p 1 tbOk rfl ?_)))
    refine l_cons (o_shr7 rfl rfl rfl rfl ?_)
    refine l_p 1 tbOk rfl (l_nil ?_)
    exact x_round4 (z / 128) ((.slice a2 (l ++ [UInt8.ofNat (128 + z % 128)]).length ca2)) (Mw3) (l ++ [UInt8.ofNat (128 + z % 128)]) (s2 rfl rfl) ⟨by rw [← hinv, numY_step (show ¬ z < 128 by omega) hz, List.append_assoc]; rfl, by omega, hp, ho, d_ho_hp, hT, hlow, hB⟩ (by omega)
  refine c_exit (x_seqE (x_seqE (x_blkE (x_seq (c_reg (l_p 4 tbOk rfl ?_))))))
  refine l_cons (o_ld tbOk (hp.cell 0 _ rfl) rfl rfl rfl rfl rfl ?_)
  refine l_p 1 tbOk rfl ?_
  refine l_cons (o_conv (y := ((z % 256 : Nat) : Int)) tbOk rfl rfl rfl rfl rfl (wrap_u8 z) rfl rfl ?_)
  refine l_cons (o_bs tbOk rfl rfl rfl rfl rfl rfl rfl (sz1 rfl) rfl rfl rfl ?_)
  intro bw5 w5 qbw5 ew5 hbw5
  have nbw5 := nM_of hlow qbw5
  replace hT := hT.then (Stp.ext ew5 hlow hB)
  replace hp := hp.ext hlow hB ew5
  replace ho := ho.ext hlow hB ew5
  replace hlow := hlow.ext ew5
  replace hB := Nat.le_trans hB ew5.size
  refine l_cons (o_app1 tbOk ho hbw5 nbw5 (show Rep.R _ _ _ (UInt8.ofNat z) from (congrArg (fun m : Nat => Value.int .u8 (m : Int)) (UInt8.toNat_ofNat' (n := z)).symm)) hlow hB rfl rfl rfl rfl rfl rfl rfl (by omega) (by show (_ + _) * 1 ≤ _; omega) rfl rfl ?_)
  intro vw6 w6 Mw6 hw6 sw6 frw6 blw6
  have zd_ho_hp := d_ho_hp
  replace d_ho_hp : ∀ x, (vw6 : Value).ownBlock = some x → x ≠ bp := fun x hx => (blw6 x hx).elim (d_ho_hp x) (fun h e => by have := hp.lt; omega)
  replace hT := hT.then sw6
  replace hp := hp.stp sw6 (frw6 bp hp.lt (fun e => zd_ho_hp _ e.symm rfl))
  replace hlow := sw6.low
  replace hB := Nat.le_trans hB sw6.upd.1
  replace ho := hw6
  clear hw6
  refine l_p 2 tbOk rfl ?_
  obtain ⟨a3, ca3, rfl, _⟩ := ho.val
  refine l_cons (o_st tbOk hp.box rfl rfl rfl rfl (by intro u hu; simp [Value.cells] at hu; subst hu; rfl) rfl rfl ?_)
  intro w7 hw7 qw7 bew7
  have uw7 : UpdB _ _ _ := ⟨qw7, bew7⟩
  have sw7 := uw7.stp hp.inM hlow hp.ge
  have frw7 := qw7.2
  replace hT := hT.then sw7
  replace ho := ho.stp sw7 (fun x hx => frw7 x (ho.lt x hx).2 (d_ho_hp x hx))
  replace hlow := sw7.low
  replace hB := Nat.le_trans hB sw7.upd.1
  replace hp : MB B _ w7 bp _ [(.slice a3 (l ++ [UInt8.ofNat z]).length ca3)] := ⟨hw7, hp.inM, hp.ge⟩
  refine l_nil ?_
  refine x_ret0n rfl ?_
  rw [numY_small (show z < 128 by omega)] at hinv
  refine ⟨rfl, _, _, hp, ?_, d_ho_hp, hT⟩
  rw [← hinv]; exact ho

/-- text: its length, and it, are put. -/
theorem penText_spec (s : ByteArray) (hs : s.size < 140737488355328) (b : List UInt8) (M : Nat → Prop) (w : World) (B bp : Nat) (bv : Value) (hp : MB B M w bp 125 [bv]) (ho : OwnSl 5 B M w bv b) (hne : ∀ x, (bv : Value).ownBlock = some x → x ≠ bp) (hlow : Low M w) (hB : B ≤ w.heap.size) (hl : b.length + s.size ≤ 999999999900) :
    Calls Try.prog 71 #[.pointer (some ⟨bp, 0, none⟩), .string s] w (Ret fun r w' => r = .tuple #[] ∧ ∃ M' bv', MB B M' w' bp 125 [bv'] ∧ OwnSl 5 B M' w' bv' (b ++ textB s) ∧ (∀ x, (bv' : Value).ownBlock = some x → x ≠ bp) ∧ Stp B M M' w w') := by
  have hT : Stp B M M w w := Stp.refl hlow
  have d_ho_hp := hne
  have hbn := numY_len s.size
  refine c_enter (n := 18) Try.func71 rfl rfl rfl ?_
  refine q0 (l_p 3 tbOk rfl ?_)
  refine l_cons (o_conv (y := ((s.size : Nat) : Int)) tbOk rfl rfl rfl rfl rfl ((wrap_u64 _).trans (by rw [u64_nat (by omega)])) rfl rfl ?_)
  refine l_cons (o_call fo100 rfl rfl rfl (penNum_spec s.size (by omega) b _ _ B bp _ hp ho d_ho_hp hlow hB (by omega)) ?_)
  rintro _ w1 ⟨rfl, Mw1, vw1, hpw1, how1, new1, sw1⟩
  replace hT := hT.then sw1
  replace hlow := sw1.low
  replace hB := Nat.le_trans hB sw1.upd.1
  replace hp := hpw1
  replace ho := how1
  replace d_ho_hp := new1
  clear hpw1 how1 new1
  refine q1 (c_reg (l_p 4 tbOk rfl ?_))
  refine l_cons (o_ld tbOk (hp.cell 0 _ rfl) rfl rfl rfl rfl rfl ?_)
  refine l_p 1 tbOk rfl ?_
  refine l_cons (o_appS tbOk ho hlow hB rfl rfl rfl rfl rfl rfl rfl rfl rfl (by simp; omega) (by show (_ + _) * 1 ≤ _; simp; omega) rfl rfl ?_)
  intro vw2 w2 Mw2 hw2 sw2 frw2 blw2
  have zd_ho_hp := d_ho_hp
  replace d_ho_hp : ∀ x, (vw2 : Value).ownBlock = some x → x ≠ bp := fun x hx => (blw2 x hx).elim (d_ho_hp x) (fun h e => by have := hp.lt; omega)
  replace hT := hT.then sw2
  replace hp := hp.stp sw2 (frw2 bp hp.lt (fun e => zd_ho_hp _ e.symm rfl))
  replace hlow := sw2.low
  replace hB := Nat.le_trans hB sw2.upd.1
  replace ho := hw2
  clear hw2
  refine l_p 2 tbOk rfl ?_
  obtain ⟨a1, ca1, rfl, _⟩ := ho.val
  refine l_cons (o_st tbOk hp.box rfl rfl rfl rfl (by intro u hu; simp [Value.cells] at hu; subst hu; rfl) rfl rfl ?_)
  intro w3 hw3 qw3 bew3
  have uw3 : UpdB _ _ _ := ⟨qw3, bew3⟩
  have sw3 := uw3.stp hp.inM hlow hp.ge
  have frw3 := qw3.2
  replace hT := hT.then sw3
  replace ho := ho.stp sw3 (fun x hx => frw3 x (ho.lt x hx).2 (d_ho_hp x hx))
  replace hlow := sw3.low
  replace hB := Nat.le_trans hB sw3.upd.1
  replace hp : MB B _ w3 bp _ [(.slice a1 (b ++ numY s.size ++ s.data.toList).length ca1)] := ⟨hw3, hp.inM, hp.ge⟩
  refine l_nil ?_
  refine x_ret0n rfl ?_
  refine ⟨rfl, _, _, hp, ?_, d_ho_hp, hT⟩
  rw [textB, ← List.append_assoc]; exact ho

/-- kind: a type is put. -/
theorem penKind_spec : ∀ (t : Ty) (b : List UInt8) (M : Nat → Prop) (w : World) (B bp : Nat) (bv : Value), MB B M w bp 125 [bv] → OwnSl 5 B M w bv b → (∀ x, (bv : Value).ownBlock = some x → x ≠ bp) → Low M w → B ≤ w.heap.size → ∀ (v : Value), Rep.R M w v t → b.length + (typeB t).length ≤ 999999999000 → Calls Try.prog 83 #[.pointer (some ⟨bp, 0, none⟩), v] w (Ret fun r w' => r = .tuple #[] ∧ ∃ M' bv', MB B M' w' bp 125 [bv'] ∧ OwnSl 5 B M' w' bv' (b ++ typeB t) ∧ (∀ x, (bv' : Value).ownBlock = some x → x ≠ bp) ∧ Stp B M M' w w') := by
  refine Ty.ind fun t ih => ?_
  intro b M w B bp bv hp ho hne hlow hB v ht hl
  have hT : Stp B M M w w := Stp.refl hlow
  have d_ho_hp := hne
  obtain ⟨kv, rfl, op, nm, n64, hk⟩ := ty_open ht
  have hlt := hk.lt
  have hle := congrArg List.length (typeB_eq t)
  rw [List.length_append] at hle
  refine c_enter (n := 44) Try.func83 rfl rfl rfl ?_
  refine q0 ?_
  refine l_cons (o_box rfl rfl rfl ?_)
  intro b3 w1 hb_b3 ew1 h3
  replace h3 : Box _ b3 40 [.int .u8 t.op, .string t.name, .int .i64 t.n, kv] := h3
  replace h3 := h3.at (nM_of hlow hb_b3)
  replace hT := hT.then (Stp.ext ew1 hlow hB)
  replace hp := hp.ext hlow hB ew1
  replace ho := ho.ext hlow hB ew1
  replace ht := Rep.ext ht ew1
  replace hk := hk.ext ew1
  replace hlow := hlow.ext ew1
  replace hB := Nat.le_trans hB ew1.size
  refine q1 (c_seq ?_)
  refine a_beg (Sof2 B M bp) rfl ?_
  intro w2 ew2
  replace hT := hT.then (Stp.ext ew2 hlow hB)
  replace hp := hp.ext hlow hB ew2
  replace ho := ho.ext hlow hB ew2
  replace ht := Rep.ext ht ew2
  replace hk := hk.ext ew2
  replace h3 := h3.ext ew2
  replace hlow := hlow.ext ew2
  replace hB := Nat.le_trans hB ew2.size
  have hS : Stp B M M w2 w2 := Stp.refl hlow
  have D_hp := hp.box
  have D_hk := hk
  have D_h3 := h3
  refine a_p 0 tbOk rfl rfl rfl rfl (by kernel_rfl) (fun _ _ _ h => h) ⟨⟨_, hS⟩, hp.box.heap.trans D_hp.heap.symm⟩ ?_
  refine a_p 1 tbOk rfl rfl rfl rfl (by kernel_rfl) (fun _ _ _ h => h) ⟨⟨_, hS⟩, hp.box.heap.trans D_hp.heap.symm⟩ ?_
  refine a_p 2 tbOk rfl rfl rfl rfl (by kernel_rfl) (fun _ _ _ h => h) ⟨⟨_, hS⟩, hp.box.heap.trans D_hp.heap.symm⟩ ?_
  refine a_p 3 tbOk rfl rfl rfl rfl (by kernel_rfl) (fun _ _ _ h => h) ⟨⟨_, hS⟩, hp.box.heap.trans D_hp.heap.symm⟩ ?_
  refine a_ld 4 tbOk (fun _ hs => (D_hp.so2 hs).cell 0 _ rfl) rfl rfl rfl rfl rfl rfl (by kernel_rfl) (fun _ _ _ h => h) ⟨⟨_, hS⟩, hp.box.heap.trans D_hp.heap.symm⟩ ?_
  refine a_p 5 tbOk rfl rfl rfl rfl (by kernel_rfl) (fun _ _ _ h => h) ⟨⟨_, hS⟩, hp.box.heap.trans D_hp.heap.symm⟩ ?_
  refine a_ld 6 tbOk (fun _ hs => (D_h3.so2 hs).cell 0 _ rfl) rfl rfl rfl rfl rfl rfl (by kernel_rfl) (fun _ _ _ h => h) ⟨⟨_, hS⟩, hp.box.heap.trans D_hp.heap.symm⟩ ?_
  refine a_one 7 rfl (by kernel_rfl) (o_bs tbOk rfl rfl rfl rfl rfl rfl rfl (sz1 rfl) rfl rfl rfl ?_)
  intro bw3 w3 qbw3 ew3 hbw3
  have nbw3 := nM_of hlow qbw3
  replace hT := hT.then (Stp.ext ew3 hlow hB)
  replace hS := hS.then (Stp.ext ew3 hlow hB)
  replace hp := hp.ext hlow hB ew3
  replace ho := ho.ext hlow hB ew3
  replace ht := Rep.ext ht ew3
  replace hk := hk.ext ew3
  replace h3 := h3.ext ew3
  replace hlow := hlow.ext ew3
  replace hB := Nat.le_trans hB ew3.size
  refine ⟨⟨⟨_, hS⟩, hp.box.heap.trans D_hp.heap.symm⟩, ?_⟩
  refine a_one 8 rfl (by kernel_rfl) (o_app1 tbOk ho hbw3 nbw3 (show Rep.R _ _ _ (UInt8.ofNat t.op.toNat) from op_byte op) hlow hB rfl rfl rfl rfl rfl rfl rfl (by omega) (by show (_ + _) * 1 ≤ _; omega) rfl rfl ?_)
  intro vw4 w4 Mw4 hw4 sw4 frw4 blw4
  have zd_ho_hp := d_ho_hp
  replace d_ho_hp : ∀ x, (vw4 : Value).ownBlock = some x → x ≠ bp := fun x hx => (blw4 x hx).elim (d_ho_hp x) (fun h e => by have := hp.lt; omega)
  replace hT := hT.then sw4
  replace hS := hS.then sw4
  replace hp := hp.stp sw4 (frw4 bp hp.lt (fun e => zd_ho_hp _ e.symm rfl))
  replace ht := Rep.stp ht sw4
  replace hk := hk.stp sw4
  replace h3 := h3.stp sw4
  replace hlow := sw4.low
  replace hB := Nat.le_trans hB sw4.upd.1
  refine ⟨⟨⟨_, hS⟩, hp.box.heap.trans D_hp.heap.symm⟩, ?_⟩
  replace ho := hw4
  clear hw4
  refine a_p 9 tbOk rfl rfl rfl rfl (by kernel_rfl) (fun _ _ _ h => h) ⟨⟨_, hS⟩, hp.box.heap.trans D_hp.heap.symm⟩ ?_
  refine a_p 10 tbOk rfl rfl rfl rfl (by kernel_rfl) (fun _ _ _ h => h) ⟨⟨_, hS⟩, hp.box.heap.trans D_hp.heap.symm⟩ ?_
  obtain ⟨a1, ca1, rfl, _⟩ := ho.val
  refine a_bar 11 rfl (by kernel_rfl) (by kernel_rfl) (o_st tbOk hp.box rfl rfl rfl rfl (by intro u hu; simp [Value.cells] at hu; subst hu; rfl) rfl rfl ?_)
  intro w5 hw5 qw5 bew5
  have uw5 : UpdB _ _ _ := ⟨qw5, bew5⟩
  have sw5 := uw5.stp hp.inM hlow hp.ge
  have frw5 := qw5.2
  replace hT := hT.then sw5
  replace hS := hS.then sw5
  replace ho := ho.stp sw5 (fun x hx => frw5 x (ho.lt x hx).2 (d_ho_hp x hx))
  replace ht := Rep.stp ht sw5
  replace hk := hk.stp sw5
  replace h3 := h3.stp sw5
  replace hlow := sw5.low
  replace hB := Nat.le_trans hB sw5.upd.1
  replace hp : MB B _ w5 bp _ [(.slice a1 (b ++ [UInt8.ofNat t.op.toNat]).length ca1)] := ⟨hw5, hp.inM, hp.ge⟩
  refine a_end (by kernel_rfl) ?_
  refine x_seq ?_
  refine c_cut2 (X := Value) (Y := Nat → Prop) (fun bv M1 => [(0, .pointer (some ⟨bp, 0, none⟩)), (3, .pointer (some ⟨b3, 0, none⟩))]) (fun bv M1 w' => MB B M1 w' bp 125 [bv] ∧ OwnSl 5 B M1 w' bv (b ++ headY t.op t.name t.n) ∧ (∀ x, (bv : Value).ownBlock = some x → x ≠ bp) ∧ Stp B M M1 w w' ∧ Low M1 w' ∧ B ≤ w'.heap.size ∧ At M1 w' b3 0 [.int .u8 t.op, .string t.name, .int .i64 t.n, kv] ∧ Sl M1 w' kv t.kids) ?_ ?_
  · refine q0 (l_p 1 tbOk rfl ?_)
    refine l_cons (o_ld tbOk (h3.cell 0 _ rfl) rfl rfl rfl rfl rfl ?_)
    refine q1 (c_blk (c_seq (q0 (l_p 2 tbOk rfl (q1 ?_)))))
    refine c_splitP 19 _ rfl (fun c2 => c_ifT rfl ?_) (fun c2 => c_ifF rfl ?_)
    · refine c_skip (x_seq (c_ifT rfl (c_reg (l_p 2 tbOk rfl ?_))))
      refine l_cons (o_ld tbOk (h3.cell 2 _ rfl) rfl rfl rfl rfl rfl ?_)
      refine l_cons (o_conv tbOk rfl rfl rfl rfl rfl (wrap_u64 _) rfl rfl ?_)
      refine l_cons (o_call fo100 rfl rfl rfl (penNum_spec (u64 t.n) (u64_lt _) _ _ _ B bp _ hp ho d_ho_hp hlow hB (by simp only [List.length_append, List.length_cons, List.length_nil]; omega)) ?_)
      rintro _ w6 ⟨rfl, Mw6, vw6, hpw6, how6, new6, sw6⟩
      replace hT := hT.then sw6
      replace ht := Rep.stp ht sw6
      replace hk := hk.stp sw6
      replace h3 := h3.stp sw6
      replace hlow := sw6.low
      replace hB := Nat.le_trans hB sw6.upd.1
      replace hp := hpw6
      replace ho := how6
      replace d_ho_hp := new6
      clear hpw6 how6 new6
      refine q2 ?_
      exact x_cut2 (vw6) (Mw6) (s2 rfl rfl) ⟨hp, by rw [headY_num (by omega)]; exact ho, d_ho_hp, hT, hlow, hB, h3, hk⟩
    refine c_reg (l_p 2 tbOk rfl (q1 ?_))
    refine c_splitP 19 _ rfl (fun c3 => c_ifT rfl ?_) (fun c3 => c_ifF rfl ?_)
    · refine c_reg (l_p 2 tbOk rfl ?_)
      refine l_cons (o_ld tbOk (h3.cell 2 _ rfl) rfl rfl rfl rfl rfl ?_)
      refine l_cons (o_conv tbOk rfl rfl rfl rfl rfl (wrap_u64 _) rfl rfl ?_)
      refine l_cons (o_call fo100 rfl rfl rfl (penNum_spec (u64 t.n) (u64_lt _) _ _ _ B bp _ hp ho d_ho_hp hlow hB (by simp only [List.length_append, List.length_cons, List.length_nil]; omega)) ?_)
      rintro _ w7 ⟨rfl, Mw7, vw7, hpw7, how7, new7, sw7⟩
      replace hT := hT.then sw7
      replace ht := Rep.stp ht sw7
      replace hk := hk.stp sw7
      replace h3 := h3.stp sw7
      replace hlow := sw7.low
      replace hB := Nat.le_trans hB sw7.upd.1
      replace hp := hpw7
      replace ho := how7
      replace d_ho_hp := new7
      clear hpw7 how7 new7
      refine q2 ?_
      exact x_cut2 (vw7) (Mw7) (s2 rfl rfl) ⟨hp, by rw [headY_num (by omega)]; exact ho, d_ho_hp, hT, hlow, hB, h3, hk⟩
    refine q0 (l_p 2 tbOk rfl (q1 ?_))
    refine c_ifP _ rfl (fun c4 => ?_) (fun c4 => ?_)
    · refine c_reg (l_p 2 tbOk rfl ?_)
      refine l_cons (o_ld tbOk (h3.cell 1 _ rfl) rfl rfl rfl rfl rfl ?_)
      have htx : (headY t.op t.name t.n).length = (textB t.name).length + 1 := by rw [headY, if_neg (by omega), if_pos (by omega)]; rfl
      have htz : (textB t.name).length = (numY t.name.size).length + t.name.size := by simp [textB]
      refine l_cons (o_call fo71 rfl rfl rfl (penText_spec t.name nm _ _ _ B bp _ hp ho d_ho_hp hlow hB (by simp only [List.length_append, List.length_cons, List.length_nil]; omega)) ?_)
      rintro _ w8 ⟨rfl, Mw8, vw8, hpw8, how8, new8, sw8⟩
      replace hT := hT.then sw8
      replace ht := Rep.stp ht sw8
      replace hk := hk.stp sw8
      replace h3 := h3.stp sw8
      replace hlow := sw8.low
      replace hB := Nat.le_trans hB sw8.upd.1
      replace hp := hpw8
      replace ho := how8
      replace d_ho_hp := new8
      clear hpw8 how8 new8
      refine q2 ?_
      exact x_cut2 (vw8) (Mw8) (s2 rfl rfl) ⟨hp, by rw [headY_text (by omega)]; exact ho, d_ho_hp, hT, hlow, hB, h3, hk⟩
    refine c_skip (x_blk ?_)
    exact x_cut2 ((.slice a1 (b ++ [UInt8.ofNat t.op.toNat]).length ca1)) (Mw4) (s2 rfl rfl) ⟨hp, by rw [headY_none (by omega)]; exact ho, d_ho_hp, hT, hlow, hB, h3, hk⟩
  clear hp ho hne d_ho_hp hT hlow hB h3 hk ht
  rintro bv M1 w80 ⟨hp, ho, d_ho_hp, hT, hlow, hB, h3, hk⟩
  refine q0 (l_p 1 tbOk rfl ?_)
  refine l_cons (o_ld tbOk (h3.cell 3 _ rfl) rfl rfl rfl rfl rfl ?_)
  refine l_cons (o_len tbOk hk rfl rfl rfl rfl rfl ?_)
  refine l_p 1 tbOk rfl (q1 (c_blk ?_))
  refine c_loop3 (X := Nat) (Y := Value) (Z := Nat → Prop) (fun i bv M1 => [(0, .pointer (some ⟨bp, 0, none⟩)), (34, kv), (35, .int .i64 (t.kids.length : Int)), (36, .int .i64 (i : Nat))]) (fun i bv M1 w' => i ≤ t.kids.length ∧ MB B M1 w' bp 125 [bv] ∧ OwnSl 5 B M1 w' bv ((b ++ headY t.op t.name t.n) ++ (t.kids.take i).flatMap typeB) ∧ (∀ x, (bv : Value).ownBlock = some x → x ≠ bp) ∧ Stp B M M1 w w' ∧ Low M1 w' ∧ B ≤ w'.heap.size ∧ Sl M1 w' kv t.kids) (fun i bv M1 => t.kids.length - i) (0) (bv) (M1) (s4 rfl rfl rfl rfl) ?_ ?_
  · exact ⟨Nat.zero_le _, hp, by simpa using ho, d_ho_hp, hT, hlow, hB, hk⟩
  clear hp ho d_ho_hp hT hlow hB hk
  rintro i bv M1 w9 ⟨hi, hp, ho, d_ho_hp, hT, hlow, hB, hk⟩
  have hft := flat_take_len (f := typeB) (l := t.kids) i
  refine q0 (l_p 1 tbOk rfl (q1 (c_seq ?_)))
  refine c_ifP _ rfl (fun c5 => ?_) (fun c5 => ?_)
  · refine c_skip (x_seq (c_seq (c_blk (q0 ?_))))
    have hik : i < t.kids.length := by omega
    have hf1 := flat_take_len (f := typeB) (l := t.kids) (i + 1)
    rw [flat_step hik, List.length_append] at hf1
    refine l_cons (o_ixS tbOk hk (List.getElem?_eq_getElem hik) rfl rfl rfl rfl rfl rfl rfl rfl rfl ?_)
    intro ebx eox eux hyx hatx
    obtain ⟨kvx, rfl, opx, nmx, n64x, hkx⟩ := ty_open hyx
    replace hatx : At M1 w9 ebx eox [.int .u8 t.kids[i].op, .string t.kids[i].name, .int .i64 t.kids[i].n, kvx] := hatx
    refine l_cons (o_lds tbOk (fun j v hv => hatx.cell j v hv) rfl rfl rfl rfl rfl rfl ?_)
    refine l_cons (o_new tbOk rfl rfl rfl ?_)
    intro b5 w10 qb5 ew10 hb5
    have nb5 := nM_of hlow qb5
    refine l_cons (o_st tbOk hb5 rfl rfl rfl rfl (Rep.one hyx) rfl rfl ?_)
    intro w11 h5 uw11 bew11
    have ew11 : Ext w9 w11 := ew10.trans (bew11 _ (Nat.le_of_eq qb5.symm))
    replace hT := hT.then (Stp.ext ew11 hlow hB)
    replace hp := hp.ext hlow hB ew11
    replace ho := ho.ext hlow hB ew11
    replace hk := hk.ext ew11
    replace hyx := Rep.ext hyx ew11
    replace hkx := hkx.ext ew11
    replace hatx := hatx.ext ew11
    replace hlow := hlow.ext ew11
    replace hB := Nat.le_trans hB ew11.size
    replace h5 : Box w11 b5 40 [.int .u8 t.kids[i].op, .string t.kids[i].name, .int .i64 t.kids[i].n, kvx] := h5
    replace h5 := h5.at nb5
    refine q1 (c_reg (l_p 1 tbOk rfl ?_))
    refine l_cons (o_lds tbOk (fun j v hv => h5.cell j v hv) rfl rfl rfl rfl rfl rfl ?_)
    refine l_cons (o_call fo83 rfl rfl rfl (ih _ (List.getElem_mem hik) _ _ _ B bp _ hp ho d_ho_hp hlow hB _ hyx (by simp only [List.length_append] at hle ⊢; omega)) ?_)
    rintro _ w12 ⟨rfl, Mw12, vw12, hpw12, how12, new12, sw12⟩
    replace hT := hT.then sw12
    replace hk := hk.stp sw12
    replace hyx := Rep.stp hyx sw12
    replace hkx := hkx.stp sw12
    replace hatx := hatx.stp sw12
    replace h5 := h5.stp sw12
    replace hlow := sw12.low
    replace hB := Nat.le_trans hB sw12.upd.1
    replace hp := hpw12
    replace ho := how12
    replace d_ho_hp := new12
    clear hpw12 how12 new12
    refine q2 (x_seq (c_reg ?_))
    refine l_cons (o_ar rfl rfl rfl (IntWalk.i64_in _ (by omega)) rfl rfl ?_)
    refine l_p 1 tbOk rfl (l_nil ?_)
    exact x_round3 (i + 1) (vw12) (Mw12) (s4 rfl rfl rfl (get_num rfl (by omega))) ⟨by omega, hp, by rw [flat_step hik, ← List.append_assoc]; exact ho, d_ho_hp, hT, hlow, hB, hk⟩ (by omega)
  refine c_exit (x_seqE (x_seqE (x_blkE ?_)))
  refine x_ret0n rfl ?_
  obtain rfl : i = t.kids.length := by omega
  rw [List.take_of_length_le (Nat.le_refl _), List.append_assoc, ← typeB_eq] at ho
  exact ⟨rfl, _, _, hp, ho, d_ho_hp, hT⟩

/-- parts of an op. -/
theorem prt_spec (op : Int) (w : World) :
    Calls Try.prog 104 #[.int .u8 op] w (Ret fun r w' => r = .tuple #[.bool (prt op).1, .bool (prt op).2.1, .bool (prt op).2.2.1, .int .i64 (prt op).2.2.2] ∧ w = w') := by
  refine c_enter (n := 30) Try.func104 rfl rfl rfl ?_
  refine q0 (l_p 4 tbOk rfl (q1 (c_seq (q0 (l_p 1 tbOk rfl (q1 (c_blk (c_seq (q0 (l_p 2 tbOk rfl (q1 ?_)))))))))))
  refine c_splitP 7 _ rfl (fun c1 => c_ifT rfl ?_) (fun c1 => c_ifF rfl ?_)
  · refine c_skip (x_seq (c_ifT rfl (q0 (l_p 4 tbOk rfl (q1 (c_ret (x_blkR (x_seqR ?_))))))))
    refine x_ret4 rfl rfl rfl rfl rfl ?_
    subst c1
    exact ⟨rfl, rfl⟩
  refine q0 (l_p 2 tbOk rfl (q1 ?_))
  refine c_splitP 7 _ rfl (fun c2 => c_ifT rfl ?_) (fun c2 => c_ifF rfl ?_)
  · refine c_skip (x_seq (c_ifT rfl (q0 (l_p 4 tbOk rfl (q1 (c_ret (x_blkR (x_seqR ?_))))))))
    refine x_ret4 rfl rfl rfl rfl rfl ?_
    subst c2
    exact ⟨rfl, rfl⟩
  refine q0 (l_p 2 tbOk rfl (q1 ?_))
  refine c_splitP 7 _ rfl (fun c3 => c_ifT rfl ?_) (fun c3 => c_ifF rfl ?_)
  · refine c_skip (x_seq (c_ifT rfl (q0 (l_p 4 tbOk rfl (q1 (c_ret (x_blkR (x_seqR ?_))))))))
    refine x_ret4 rfl rfl rfl rfl rfl ?_
    subst c3
    exact ⟨rfl, rfl⟩
  refine q0 (l_p 2 tbOk rfl (q1 ?_))
  refine c_splitP 7 _ rfl (fun c4 => c_ifT rfl ?_) (fun c4 => c_ifF rfl ?_)
  · refine c_skip (x_seq (c_ifT rfl (q0 (l_p 4 tbOk rfl (q1 (c_ret (x_blkR (x_seqR ?_))))))))
    refine x_ret4 rfl rfl rfl rfl rfl ?_
    subst c4
    exact ⟨rfl, rfl⟩
  refine q0 (l_p 2 tbOk rfl (q1 ?_))
  refine c_splitP 7 _ rfl (fun c5 => c_ifT rfl ?_) (fun c5 => c_ifF rfl ?_)
  · refine c_skip (x_seq (c_ifT rfl (q0 (l_p 4 tbOk rfl (q1 (c_ret (x_blkR (x_seqR ?_))))))))
    refine x_ret4 rfl rfl rfl rfl rfl ?_
    subst c5
    exact ⟨rfl, rfl⟩
  refine q0 (l_p 2 tbOk rfl (q1 ?_))
  refine c_splitP 7 _ rfl (fun c6 => c_ifT rfl ?_) (fun c6 => c_ifF rfl ?_)
  · refine c_skip (x_seq (c_ifT rfl (q0 (l_p 4 tbOk rfl (q1 (c_ret (x_blkR (x_seqR ?_))))))))
    refine x_ret4 rfl rfl rfl rfl rfl ?_
    subst c6
    exact ⟨rfl, rfl⟩
  refine q0 (l_p 2 tbOk rfl (q1 ?_))
  refine c_splitP 7 _ rfl (fun c7 => c_ifT rfl ?_) (fun c7 => c_ifF rfl ?_)
  · refine c_skip (x_seq (c_ifT rfl (q0 (l_p 4 tbOk rfl (q1 (c_ret (x_blkR (x_seqR ?_))))))))
    refine x_ret4 rfl rfl rfl rfl rfl ?_
    subst c7
    exact ⟨rfl, rfl⟩
  refine q0 (l_p 2 tbOk rfl (q1 ?_))
  refine c_splitP 7 _ rfl (fun c8 => c_ifT rfl ?_) (fun c8 => c_ifF rfl ?_)
  · refine c_skip (x_seq (c_ifT rfl (q0 (l_p 4 tbOk rfl (q1 (c_ret (x_blkR (x_seqR ?_))))))))
    refine x_ret4 rfl rfl rfl rfl rfl ?_
    subst c8
    exact ⟨rfl, rfl⟩
  refine c_reg (l_p 2 tbOk rfl (q1 ?_))
  refine c_splitP 7 _ rfl (fun c9 => c_ifT rfl ?_) (fun c9 => c_ifF rfl ?_)
  · refine q0 (l_p 4 tbOk rfl (q1 (c_ret (x_blkR (x_seqR ?_)))))
    refine x_ret4 rfl rfl rfl rfl rfl ?_
    subst c9
    exact ⟨rfl, rfl⟩
  refine c_seq (q0 (l_p 2 tbOk rfl (q1 ?_)))
  refine c_splitP 17 _ rfl (fun c10 => c_ifT rfl ?_) (fun c10 => c_ifF rfl ?_)
  · refine c_skip (x_seq (c_ifT rfl (q0 (l_p 4 tbOk rfl (q1 (c_ret (x_blkR (x_seqR ?_))))))))
    refine x_ret4 rfl rfl rfl rfl rfl ?_
    subst c10
    exact ⟨rfl, rfl⟩
  refine c_reg (l_p 2 tbOk rfl (q1 ?_))
  refine c_splitP 17 _ rfl (fun c11 => c_ifT rfl ?_) (fun c11 => c_ifF rfl ?_)
  · refine q0 (l_p 4 tbOk rfl (q1 (c_ret (x_blkR (x_seqR ?_)))))
    refine x_ret4 rfl rfl rfl rfl rfl ?_
    subst c11
    exact ⟨rfl, rfl⟩
  refine q0 (l_p 2 tbOk rfl (q1 ?_))
  refine c_ifP _ rfl (fun c12 => ?_) (fun c12 => ?_)
  · refine q0 (l_p 4 tbOk rfl (q1 (c_ret (x_blkR (x_seqR ?_)))))
    refine x_ret4 rfl rfl rfl rfl rfl ?_
    subst c12
    exact ⟨rfl, rfl⟩
  refine q0 (l_p 2 tbOk rfl (q1 ?_))
  refine c_ifP _ rfl (fun c13 => ?_) (fun c13 => ?_)
  · refine q0 (l_p 4 tbOk rfl (q1 (c_ret (x_blkR (x_seqR ?_)))))
    refine x_ret4 rfl rfl rfl rfl rfl ?_
    subst c13
    exact ⟨rfl, rfl⟩
  refine q0 (l_p 2 tbOk rfl (q1 ?_))
  refine c_ifP _ rfl (fun c14 => ?_) (fun c14 => ?_)
  · refine q0 (l_p 4 tbOk rfl (q1 (c_ret (x_blkR (x_seqR ?_)))))
    refine x_ret4 rfl rfl rfl rfl rfl ?_
    subst c14
    exact ⟨rfl, rfl⟩
  refine q0 (l_p 2 tbOk rfl (q1 ?_))
  refine c_ifP _ rfl (fun c15 => ?_) (fun c15 => ?_)
  · refine q0 (l_p 4 tbOk rfl (q1 (c_ret (x_blkR (x_seqR ?_)))))
    refine x_ret4 rfl rfl rfl rfl rfl ?_
    subst c15
    exact ⟨rfl, rfl⟩
  refine q0 (l_p 2 tbOk rfl (q1 ?_))
  refine c_ifP _ rfl (fun c16 => ?_) (fun c16 => ?_)
  · refine q0 (l_p 4 tbOk rfl (q1 (c_ret (x_blkR (x_seqR ?_)))))
    refine x_ret4 rfl rfl rfl rfl rfl ?_
    subst c16
    exact ⟨rfl, rfl⟩
  refine c_skip (x_blk (x_seq (q0 (l_p 4 tbOk rfl (q1 (c_ret ?_))))))
  refine x_ret4 rfl rfl rfl rfl rfl ?_
  exact ⟨by unfold prt; simp [*], rfl⟩

/-- count of kids. -/
theorem cnt_spec (op : Int) (w : World) :
    Calls Try.prog 105 #[.int .u8 op] w (Ret fun r w' => r = .int .i64 (cnt op) ∧ w = w') := by
  refine c_enter (n := 19) Try.func105 rfl rfl rfl ?_
  refine q0 (l_p 1 tbOk rfl (q1 (c_seq (q0 (l_p 1 tbOk rfl (q1 (c_blk (c_seq (q0 (l_p 2 tbOk rfl (q1 ?_)))))))))))
  refine c_splitP 4 _ rfl (fun c1 => c_ifT rfl ?_) (fun c1 => c_ifF rfl ?_)
  · refine c_skip (x_seq (c_ifT rfl (q0 (l_p 1 tbOk rfl (q1 (c_ret (x_blkR (x_seqR (x_ret1 rfl rfl ?_)))))))))
    subst c1
    exact ⟨rfl, rfl⟩
  refine q0 (l_p 2 tbOk rfl (q1 ?_))
  refine c_splitP 4 _ rfl (fun c2 => c_ifT rfl ?_) (fun c2 => c_ifF rfl ?_)
  · refine c_skip (x_seq (c_ifT rfl (q0 (l_p 1 tbOk rfl (q1 (c_ret (x_blkR (x_seqR (x_ret1 rfl rfl ?_)))))))))
    subst c2
    exact ⟨rfl, rfl⟩
  refine q0 (l_p 2 tbOk rfl (q1 ?_))
  refine c_splitP 4 _ rfl (fun c3 => c_ifT rfl ?_) (fun c3 => c_ifF rfl ?_)
  · refine c_skip (x_seq (c_ifT rfl (q0 (l_p 1 tbOk rfl (q1 (c_ret (x_blkR (x_seqR (x_ret1 rfl rfl ?_)))))))))
    subst c3
    exact ⟨rfl, rfl⟩
  refine c_reg (l_p 2 tbOk rfl (q1 ?_))
  refine c_splitP 4 _ rfl (fun c4 => c_ifT rfl ?_) (fun c4 => c_ifF rfl ?_)
  · refine q0 (l_p 1 tbOk rfl (q1 (c_ret (x_blkR (x_seqR (x_ret1 rfl rfl ?_))))))
    subst c4
    exact ⟨rfl, rfl⟩
  refine c_seq (q0 (l_p 2 tbOk rfl (q1 ?_)))
  refine c_splitP 9 _ rfl (fun c5 => c_ifT rfl ?_) (fun c5 => c_ifF rfl ?_)
  · refine c_skip (x_seq (c_ifT rfl (q0 (l_p 1 tbOk rfl (q1 (c_ret (x_blkR (x_seqR (x_ret1 rfl rfl ?_)))))))))
    subst c5
    exact ⟨rfl, rfl⟩
  refine q0 (l_p 2 tbOk rfl (q1 ?_))
  refine c_splitP 9 _ rfl (fun c6 => c_ifT rfl ?_) (fun c6 => c_ifF rfl ?_)
  · refine c_skip (x_seq (c_ifT rfl (q0 (l_p 1 tbOk rfl (q1 (c_ret (x_blkR (x_seqR (x_ret1 rfl rfl ?_)))))))))
    subst c6
    exact ⟨rfl, rfl⟩
  refine q0 (l_p 2 tbOk rfl (q1 ?_))
  refine c_splitP 9 _ rfl (fun c7 => c_ifT rfl ?_) (fun c7 => c_ifF rfl ?_)
  · refine c_skip (x_seq (c_ifT rfl (q0 (l_p 1 tbOk rfl (q1 (c_ret (x_blkR (x_seqR (x_ret1 rfl rfl ?_)))))))))
    subst c7
    exact ⟨rfl, rfl⟩
  refine q0 (l_p 2 tbOk rfl (q1 ?_))
  refine c_splitP 9 _ rfl (fun c8 => c_ifT rfl ?_) (fun c8 => c_ifF rfl ?_)
  · refine c_skip (x_seq (c_ifT rfl (q0 (l_p 1 tbOk rfl (q1 (c_ret (x_blkR (x_seqR (x_ret1 rfl rfl ?_)))))))))
    subst c8
    exact ⟨rfl, rfl⟩
  refine c_reg (l_p 2 tbOk rfl (q1 ?_))
  refine c_splitP 9 _ rfl (fun c9 => c_ifT rfl ?_) (fun c9 => c_ifF rfl ?_)
  · refine q0 (l_p 1 tbOk rfl (q1 (c_ret (x_blkR (x_seqR (x_ret1 rfl rfl ?_))))))
    subst c9
    exact ⟨rfl, rfl⟩
  refine q0 (l_p 2 tbOk rfl (q1 ?_))
  refine c_ifP _ rfl (fun c10 => ?_) (fun c10 => ?_)
  · refine q0 (l_p 1 tbOk rfl (q1 (c_ret (x_blkR (x_seqR (x_ret1 rfl rfl ?_))))))
    subst c10
    exact ⟨rfl, rfl⟩
  refine q0 (l_p 2 tbOk rfl (q1 ?_))
  refine c_ifP _ rfl (fun c11 => ?_) (fun c11 => ?_)
  · refine q0 (l_p 1 tbOk rfl (q1 (c_ret (x_blkR (x_seqR (x_ret1 rfl rfl ?_))))))
    subst c11
    exact ⟨rfl, rfl⟩
  refine c_skip (x_blk (x_seq (q0 (l_p 1 tbOk rfl (q1 (c_ret (x_ret1 rfl rfl ?_)))))))
  exact ⟨by unfold cnt; simp [*], rfl⟩

/-- term: an expression is put. -/
theorem penTerm_spec : ∀ (t : Tm) (b : List UInt8) (M : Nat → Prop) (w : World) (B bp : Nat) (bv : Value), MB B M w bp 125 [bv] → OwnSl 5 B M w bv b → (∀ x, (bv : Value).ownBlock = some x → x ≠ bp) → Low M w → B ≤ w.heap.size → ∀ (v : Value), Rep.R M w v t → b.length + (termB t).length ≤ 999999998000 → Calls Try.prog 82 #[.pointer (some ⟨bp, 0, none⟩), v] w (Ret fun r w' => r = .tuple #[] ∧ ∃ M' bv', MB B M' w' bp 125 [bv'] ∧ OwnSl 5 B M' w' bv' (b ++ termB t) ∧ (∀ x, (bv' : Value).ownBlock = some x → x ≠ bp) ∧ Stp B M M' w w') := by
  refine Tm.ind fun t ih => ?_
  intro b M w B bp bv hp ho hne hlow hB v ht hl
  have hT : Stp B M M w w := Stp.refl hlow
  have d_ho_hp := hne
  obtain ⟨akv, kv, rfl, op, nm, ag, n64, ha, hk⟩ := tm_open ht
  have hlt := hk.lt
  have hle := congrArg List.length (termB_eq t)
  rw [List.length_append, headE] at hle
  simp only [List.length_append] at hle
  refine c_enter (n := 96) Try.func82 rfl rfl rfl ?_
  refine q0 ?_
  refine l_cons (o_box rfl rfl rfl ?_)
  intro b3 w1 hb_b3 ew1 h3
  replace h3 : Box _ b3 84 [.int .u8 t.op, .string t.name, .string t.arg, .int .i64 t.n, .bool t.has, .int .u8 t.ann.op, .string t.ann.name, .int .i64 t.ann.n, akv, kv] := h3
  replace h3 := h3.at (nM_of hlow hb_b3)
  replace hT := hT.then (Stp.ext ew1 hlow hB)
  replace hp := hp.ext hlow hB ew1
  replace ho := ho.ext hlow hB ew1
  replace ht := Rep.ext ht ew1
  replace ha := Rep.ext ha ew1
  replace hk := hk.ext ew1
  replace hlow := hlow.ext ew1
  replace hB := Nat.le_trans hB ew1.size
  refine q1 (c_seq ?_)
  refine a_beg (Sof2 B M bp) rfl ?_
  intro w2 ew2
  replace hT := hT.then (Stp.ext ew2 hlow hB)
  replace hp := hp.ext hlow hB ew2
  replace ho := ho.ext hlow hB ew2
  replace ht := Rep.ext ht ew2
  replace ha := Rep.ext ha ew2
  replace hk := hk.ext ew2
  replace h3 := h3.ext ew2
  replace hlow := hlow.ext ew2
  replace hB := Nat.le_trans hB ew2.size
  have hS : Stp B M M w2 w2 := Stp.refl hlow
  have D_hp := hp.box
  have D_hk := hk
  have D_h3 := h3
  refine a_p 0 tbOk rfl rfl rfl rfl (by kernel_rfl) (fun _ _ _ h => h) ⟨⟨_, hS⟩, hp.box.heap.trans D_hp.heap.symm⟩ ?_
  refine a_p 1 tbOk rfl rfl rfl rfl (by kernel_rfl) (fun _ _ _ h => h) ⟨⟨_, hS⟩, hp.box.heap.trans D_hp.heap.symm⟩ ?_
  refine a_p 2 tbOk rfl rfl rfl rfl (by kernel_rfl) (fun _ _ _ h => h) ⟨⟨_, hS⟩, hp.box.heap.trans D_hp.heap.symm⟩ ?_
  refine a_p 3 tbOk rfl rfl rfl rfl (by kernel_rfl) (fun _ _ _ h => h) ⟨⟨_, hS⟩, hp.box.heap.trans D_hp.heap.symm⟩ ?_
  refine a_ld 4 tbOk (fun _ hs => (D_hp.so2 hs).cell 0 _ rfl) rfl rfl rfl rfl rfl rfl (by kernel_rfl) (fun _ _ _ h => h) ⟨⟨_, hS⟩, hp.box.heap.trans D_hp.heap.symm⟩ ?_
  refine a_p 5 tbOk rfl rfl rfl rfl (by kernel_rfl) (fun _ _ _ h => h) ⟨⟨_, hS⟩, hp.box.heap.trans D_hp.heap.symm⟩ ?_
  refine a_ld 6 tbOk (fun _ hs => (D_h3.so2 hs).cell 0 _ rfl) rfl rfl rfl rfl rfl rfl (by kernel_rfl) (fun _ _ _ h => h) ⟨⟨_, hS⟩, hp.box.heap.trans D_hp.heap.symm⟩ ?_
  refine a_one 7 rfl (by kernel_rfl) (o_bs tbOk rfl rfl rfl rfl rfl rfl rfl (sz1 rfl) rfl rfl rfl ?_)
  intro bw3 w3 qbw3 ew3 hbw3
  have nbw3 := nM_of hlow qbw3
  replace hT := hT.then (Stp.ext ew3 hlow hB)
  replace hS := hS.then (Stp.ext ew3 hlow hB)
  replace hp := hp.ext hlow hB ew3
  replace ho := ho.ext hlow hB ew3
  replace ht := Rep.ext ht ew3
  replace ha := Rep.ext ha ew3
  replace hk := hk.ext ew3
  replace h3 := h3.ext ew3
  replace hlow := hlow.ext ew3
  replace hB := Nat.le_trans hB ew3.size
  refine ⟨⟨⟨_, hS⟩, hp.box.heap.trans D_hp.heap.symm⟩, ?_⟩
  refine a_one 8 rfl (by kernel_rfl) (o_app1 tbOk ho hbw3 nbw3 (show Rep.R _ _ _ (UInt8.ofNat t.op.toNat) from op_byte op) hlow hB rfl rfl rfl rfl rfl rfl rfl (by omega) (by show (_ + _) * 1 ≤ _; omega) rfl rfl ?_)
  intro vw4 w4 Mw4 hw4 sw4 frw4 blw4
  have zd_ho_hp := d_ho_hp
  replace d_ho_hp : ∀ x, (vw4 : Value).ownBlock = some x → x ≠ bp := fun x hx => (blw4 x hx).elim (d_ho_hp x) (fun h e => by have := hp.lt; omega)
  replace hT := hT.then sw4
  replace hS := hS.then sw4
  replace hp := hp.stp sw4 (frw4 bp hp.lt (fun e => zd_ho_hp _ e.symm rfl))
  replace ht := Rep.stp ht sw4
  replace ha := Rep.stp ha sw4
  replace hk := hk.stp sw4
  replace h3 := h3.stp sw4
  replace hlow := sw4.low
  replace hB := Nat.le_trans hB sw4.upd.1
  refine ⟨⟨⟨_, hS⟩, hp.box.heap.trans D_hp.heap.symm⟩, ?_⟩
  replace ho := hw4
  clear hw4
  refine a_p 9 tbOk rfl rfl rfl rfl (by kernel_rfl) (fun _ _ _ h => h) ⟨⟨_, hS⟩, hp.box.heap.trans D_hp.heap.symm⟩ ?_
  refine a_p 10 tbOk rfl rfl rfl rfl (by kernel_rfl) (fun _ _ _ h => h) ⟨⟨_, hS⟩, hp.box.heap.trans D_hp.heap.symm⟩ ?_
  obtain ⟨a1, ca1, rfl, _⟩ := ho.val
  refine a_bar 11 rfl (by kernel_rfl) (by kernel_rfl) (o_st tbOk hp.box rfl rfl rfl rfl (by intro u hu; simp [Value.cells] at hu; subst hu; rfl) rfl rfl ?_)
  intro w5 hw5 qw5 bew5
  have uw5 : UpdB _ _ _ := ⟨qw5, bew5⟩
  have sw5 := uw5.stp hp.inM hlow hp.ge
  have frw5 := qw5.2
  replace hT := hT.then sw5
  replace hS := hS.then sw5
  replace ho := ho.stp sw5 (fun x hx => frw5 x (ho.lt x hx).2 (d_ho_hp x hx))
  replace ht := Rep.stp ht sw5
  replace ha := Rep.stp ha sw5
  replace hk := hk.stp sw5
  replace h3 := h3.stp sw5
  replace hlow := sw5.low
  replace hB := Nat.le_trans hB sw5.upd.1
  replace hp : MB B _ w5 bp _ [(.slice a1 (b ++ [UInt8.ofNat t.op.toNat]).length ca1)] := ⟨hw5, hp.inM, hp.ge⟩
  refine a_end (by kernel_rfl) ?_
  refine x_seq (q0 (l_p 1 tbOk rfl ?_))
  refine l_cons (o_ld tbOk (h3.cell 0 _ rfl) rfl rfl rfl rfl rfl ?_)
  refine l_cons (o_call fo104 rfl rfl rfl (prt_spec t.op _) ?_)
  rintro _ _ ⟨rfl, rfl⟩
  refine l_p 9 tbOk rfl (q1 ?_)
  refine c_cut2 (X := Value) (Y := Nat → Prop) (fun bv M1 => [(0, .pointer (some ⟨bp, 0, none⟩)), (3, .pointer (some ⟨b3, 0, none⟩)), (5, .bool (prt t.op).2.1), (6, .bool (prt t.op).2.2.1), (7, .int .i64 (prt t.op).2.2.2)]) (fun bv M1 w' => MB B M1 w' bp 125 [bv] ∧ OwnSl 5 B M1 w' bv (b ++ o1 t.op t.name) ∧ (∀ x, (bv : Value).ownBlock = some x → x ≠ bp) ∧ Stp B M M1 w w' ∧ Low M1 w' ∧ B ≤ w'.heap.size ∧ At M1 w' b3 0 [.int .u8 t.op, .string t.name, .string t.arg, .int .i64 t.n, .bool t.has, .int .u8 t.ann.op, .string t.ann.name, .int .i64 t.ann.n, akv, kv] ∧ Rep.R M1 w' (.agg #[.int .u8 t.ann.op, .string t.ann.name, .int .i64 t.ann.n, akv]) t.ann ∧ Sl M1 w' kv t.kids) ?_ ?_
  · refine q0 (l_p 1 tbOk rfl (q1 ?_))
    refine c_if _ rfl (fun c2 => ?_) (fun c2 => ?_)
    · refine c_reg (l_p 2 tbOk rfl ?_)
      refine l_cons (o_ld tbOk (h3.cell 1 _ rfl) rfl rfl rfl rfl rfl ?_)
      have e1 : (o1 t.op t.name).length = (textB t.name).length + 1 := by rw [o1, c2]; rfl
      have e0 := textB_size t.name
      refine l_cons (o_call fo71 rfl rfl rfl (penText_spec t.name nm _ _ _ B bp _ hp ho d_ho_hp hlow hB (by simp only [List.length_append, List.length_cons, List.length_nil]; omega)) ?_)
      rintro _ w6 ⟨rfl, Mw6, vw6, hpw6, how6, new6, sw6⟩
      replace hT := hT.then sw6
      replace ht := Rep.stp ht sw6
      replace ha := Rep.stp ha sw6
      replace hk := hk.stp sw6
      replace h3 := h3.stp sw6
      replace hlow := sw6.low
      replace hB := Nat.le_trans hB sw6.upd.1
      replace hp := hpw6
      replace ho := how6
      replace d_ho_hp := new6
      clear hpw6 how6 new6
      refine l_nil ?_
      exact x_cut2 (vw6) (Mw6) (s5 rfl rfl rfl rfl rfl) ⟨hp, by rw [o1_yes c2]; exact ho, d_ho_hp, hT, hlow, hB, h3, ha, hk⟩
    refine c_skip ?_
    exact x_cut2 ((.slice a1 (b ++ [UInt8.ofNat t.op.toNat]).length ca1)) (Mw4) (s5 rfl rfl rfl rfl rfl) ⟨hp, by rw [o1_no c2]; exact ho, d_ho_hp, hT, hlow, hB, h3, ha, hk⟩
  clear hp ho d_ho_hp hT hlow hB h3 ha hk ht hne
  rintro bv M1 w81 ⟨hp, ho, d_ho_hp, hT, hlow, hB, h3, ha, hk⟩
  refine c_cut2 (X := Value) (Y := Nat → Prop) (fun bv M1 => [(0, .pointer (some ⟨bp, 0, none⟩)), (3, .pointer (some ⟨b3, 0, none⟩)), (6, .bool (prt t.op).2.2.1), (7, .int .i64 (prt t.op).2.2.2)]) (fun bv M1 w' => MB B M1 w' bp 125 [bv] ∧ OwnSl 5 B M1 w' bv (b ++ o1 t.op t.name ++ o2 t.op t.arg) ∧ (∀ x, (bv : Value).ownBlock = some x → x ≠ bp) ∧ Stp B M M1 w w' ∧ Low M1 w' ∧ B ≤ w'.heap.size ∧ At M1 w' b3 0 [.int .u8 t.op, .string t.name, .string t.arg, .int .i64 t.n, .bool t.has, .int .u8 t.ann.op, .string t.ann.name, .int .i64 t.ann.n, akv, kv] ∧ Rep.R M1 w' (.agg #[.int .u8 t.ann.op, .string t.ann.name, .int .i64 t.ann.n, akv]) t.ann ∧ Sl M1 w' kv t.kids) ?_ ?_
  · refine q0 (l_p 1 tbOk rfl (q1 ?_))
    refine c_if _ rfl (fun c3 => ?_) (fun c3 => ?_)
    · refine c_reg (l_p 2 tbOk rfl ?_)
      refine l_cons (o_ld tbOk (h3.cell 2 _ rfl) rfl rfl rfl rfl rfl ?_)
      have e1 : (o2 t.op t.arg).length = (textB t.arg).length := by rw [o2, c3]; rfl
      have e0 := textB_size t.arg
      refine l_cons (o_call fo71 rfl rfl rfl (penText_spec t.arg ag _ _ _ B bp _ hp ho d_ho_hp hlow hB (by simp only [List.length_append, List.length_cons, List.length_nil]; omega)) ?_)
      rintro _ w7 ⟨rfl, Mw7, vw7, hpw7, how7, new7, sw7⟩
      replace hT := hT.then sw7
      replace h3 := h3.stp sw7
      replace ha := Rep.stp ha sw7
      replace hk := hk.stp sw7
      replace hlow := sw7.low
      replace hB := Nat.le_trans hB sw7.upd.1
      replace hp := hpw7
      replace ho := how7
      replace d_ho_hp := new7
      clear hpw7 how7 new7
      refine l_nil ?_
      exact x_cut2 (vw7) (Mw7) (s4 rfl rfl rfl rfl) ⟨hp, by rw [show o2 t.op t.arg = textB t.arg by rw [o2, c3]; rfl]; exact ho, d_ho_hp, hT, hlow, hB, h3, ha, hk⟩
    refine c_skip ?_
    exact x_cut2 (bv) (M1) (s4 rfl rfl rfl rfl) ⟨hp, by rw [show o2 t.op t.arg = [] by rw [o2, c3]; rfl, List.append_nil]; exact ho, d_ho_hp, hT, hlow, hB, h3, ha, hk⟩
  clear hp ho d_ho_hp hT hlow hB h3 ha hk
  rintro bv M1 w82 ⟨hp, ho, d_ho_hp, hT, hlow, hB, h3, ha, hk⟩
  refine c_cut2 (X := Value) (Y := Nat → Prop) (fun bv M1 => [(0, .pointer (some ⟨bp, 0, none⟩)), (3, .pointer (some ⟨b3, 0, none⟩)), (7, .int .i64 (prt t.op).2.2.2)]) (fun bv M1 w' => MB B M1 w' bp 125 [bv] ∧ OwnSl 5 B M1 w' bv (b ++ o1 t.op t.name ++ o2 t.op t.arg ++ o3 t.op t.n) ∧ (∀ x, (bv : Value).ownBlock = some x → x ≠ bp) ∧ Stp B M M1 w w' ∧ Low M1 w' ∧ B ≤ w'.heap.size ∧ At M1 w' b3 0 [.int .u8 t.op, .string t.name, .string t.arg, .int .i64 t.n, .bool t.has, .int .u8 t.ann.op, .string t.ann.name, .int .i64 t.ann.n, akv, kv] ∧ Rep.R M1 w' (.agg #[.int .u8 t.ann.op, .string t.ann.name, .int .i64 t.ann.n, akv]) t.ann ∧ Sl M1 w' kv t.kids) ?_ ?_
  · refine q0 (l_p 1 tbOk rfl (q1 ?_))
    refine c_if _ rfl (fun c4 => ?_) (fun c4 => ?_)
    · refine c_reg (l_p 2 tbOk rfl ?_)
      refine l_cons (o_ld tbOk (h3.cell 3 _ rfl) rfl rfl rfl rfl rfl ?_)
      refine l_cons (o_conv tbOk rfl rfl rfl rfl rfl (wrap_u64 _) rfl rfl ?_)
      refine l_cons (o_call fo100 rfl rfl rfl (penNum_spec (u64 t.n) (u64_lt _) _ _ _ B bp _ hp ho d_ho_hp hlow hB (by simp only [List.length_append, List.length_cons, List.length_nil]; omega)) ?_)
      rintro _ w8 ⟨rfl, Mw8, vw8, hpw8, how8, new8, sw8⟩
      replace hT := hT.then sw8
      replace h3 := h3.stp sw8
      replace ha := Rep.stp ha sw8
      replace hk := hk.stp sw8
      replace hlow := sw8.low
      replace hB := Nat.le_trans hB sw8.upd.1
      replace hp := hpw8
      replace ho := how8
      replace d_ho_hp := new8
      clear hpw8 how8 new8
      refine l_nil ?_
      exact x_cut2 (vw8) (Mw8) (s3 rfl rfl rfl) ⟨hp, by rw [show o3 t.op t.n = numY (u64 t.n) by rw [o3, c4]; rfl]; exact ho, d_ho_hp, hT, hlow, hB, h3, ha, hk⟩
    refine c_skip ?_
    exact x_cut2 (bv) (M1) (s3 rfl rfl rfl) ⟨hp, by rw [show o3 t.op t.n = [] by rw [o3, c4]; rfl, List.append_nil]; exact ho, d_ho_hp, hT, hlow, hB, h3, ha, hk⟩
  clear hp ho d_ho_hp hT hlow hB h3 ha hk
  rintro bv M1 w83 ⟨hp, ho, d_ho_hp, hT, hlow, hB, h3, ha, hk⟩
  refine c_cut2 (X := Value) (Y := Nat → Prop) (fun bv M1 => [(0, .pointer (some ⟨bp, 0, none⟩)), (3, .pointer (some ⟨b3, 0, none⟩))]) (fun bv M1 w' => MB B M1 w' bp 125 [bv] ∧ OwnSl 5 B M1 w' bv (b ++ o1 t.op t.name ++ o2 t.op t.arg ++ o3 t.op t.n ++ o4 t.op t.has) ∧ (∀ x, (bv : Value).ownBlock = some x → x ≠ bp) ∧ Stp B M M1 w w' ∧ Low M1 w' ∧ B ≤ w'.heap.size ∧ At M1 w' b3 0 [.int .u8 t.op, .string t.name, .string t.arg, .int .i64 t.n, .bool t.has, .int .u8 t.ann.op, .string t.ann.name, .int .i64 t.ann.n, akv, kv] ∧ Rep.R M1 w' (.agg #[.int .u8 t.ann.op, .string t.ann.name, .int .i64 t.ann.n, akv]) t.ann ∧ Sl M1 w' kv t.kids) ?_ ?_
  · refine q0 (l_p 2 tbOk rfl (q1 ?_))
    refine c_ifP _ rfl (fun c5 => ?_) (fun c5 => ?_)
    · refine q0 (l_p 4 tbOk rfl ?_)
      refine l_cons (o_ld tbOk (hp.cell 0 _ rfl) rfl rfl rfl rfl rfl ?_)
      have e4 : (o4 t.op t.has).length = 1 := by rw [o4, decide_eq_true c5]; cases t.has <;> rfl
      refine l_cons (o_bs tbOk rfl rfl rfl rfl rfl rfl rfl (sz1 rfl) rfl rfl rfl ?_)
      intro bw9 w9 qbw9 ew9 hbw9
      have nbw9 := nM_of hlow qbw9
      replace hT := hT.then (Stp.ext ew9 hlow hB)
      replace hp := hp.ext hlow hB ew9
      replace ho := ho.ext hlow hB ew9
      replace h3 := h3.ext ew9
      replace ha := Rep.ext ha ew9
      replace hk := hk.ext ew9
      replace hlow := hlow.ext ew9
      replace hB := Nat.le_trans hB ew9.size
      refine l_cons (o_app1 tbOk ho hbw9 nbw9 (show Rep.R _ _ _ (0 : UInt8) from rfl) hlow hB rfl rfl rfl rfl rfl rfl rfl (by simp only [List.length_append, List.length_cons, List.length_nil]; omega) (by show (_ + _) * 1 ≤ _; simp only [List.length_append, List.length_cons, List.length_nil]; omega) rfl rfl ?_)
      intro vw10 w10 Mw10 hw10 sw10 frw10 blw10
      have zd_ho_hp := d_ho_hp
      replace d_ho_hp : ∀ x, (vw10 : Value).ownBlock = some x → x ≠ bp := fun x hx => (blw10 x hx).elim (d_ho_hp x) (fun h e => by have := hp.lt; omega)
      replace hT := hT.then sw10
      replace hp := hp.stp sw10 (frw10 bp hp.lt (fun e => zd_ho_hp _ e.symm rfl))
      replace h3 := h3.stp sw10
      replace ha := Rep.stp ha sw10
      replace hk := hk.stp sw10
      replace hlow := sw10.low
      replace hB := Nat.le_trans hB sw10.upd.1
      replace ho := hw10
      clear hw10
      refine l_p 2 tbOk rfl ?_
      obtain ⟨a6, ca6, rfl, _⟩ := ho.val
      refine l_cons (o_st tbOk hp.box rfl rfl rfl rfl (by intro u hu; simp [Value.cells] at hu; subst hu; rfl) rfl rfl ?_)
      intro w11 hw11 qw11 bew11
      have uw11 : UpdB _ _ _ := ⟨qw11, bew11⟩
      have sw11 := uw11.stp hp.inM hlow hp.ge
      have frw11 := qw11.2
      replace hT := hT.then sw11
      replace ho := ho.stp sw11 (fun x hx => frw11 x (ho.lt x hx).2 (d_ho_hp x hx))
      replace h3 := h3.stp sw11
      replace ha := Rep.stp ha sw11
      replace hk := hk.stp sw11
      replace hlow := sw11.low
      replace hB := Nat.le_trans hB sw11.upd.1
      replace hp : MB B _ w11 bp _ [(.slice a6 (b ++ o1 t.op t.name ++ o2 t.op t.arg ++ o3 t.op t.n ++ [0]).length ca6)] := ⟨hw11, hp.inM, hp.ge⟩
      refine q1 (q0 (l_p 1 tbOk rfl ?_))
      refine l_cons (o_ld tbOk (h3.cell 4 _ rfl) rfl rfl rfl rfl rfl ?_)
      refine q1 ?_
      refine c_if _ rfl (fun c7 => ?_) (fun c7 => ?_)
      · have hlz : (b ++ o1 t.op t.name ++ o2 t.op t.arg ++ o3 t.op t.n ++ [0]).length = b.length + (o1 t.op t.name).length + (o2 t.op t.arg).length + (o3 t.op t.n).length + 1 := by simp only [List.length_append, List.length_cons, List.length_nil]
        refine a_beg (Sof2 B Mw10 bp) rfl ?_
        intro w12 ew12
        replace hT := hT.then (Stp.ext ew12 hlow hB)
        replace hp := hp.ext hlow hB ew12
        replace ho := ho.ext hlow hB ew12
        replace h3 := h3.ext ew12
        replace ha := Rep.ext ha ew12
        replace hk := hk.ext ew12
        replace hlow := hlow.ext ew12
        replace hB := Nat.le_trans hB ew12.size
        have hS : Stp B Mw10 Mw10 w12 w12 := Stp.refl hlow
        have D_hp := hp.box
        have D_h3 := h3
        have D_hk := hk
        refine a_p 0 tbOk rfl rfl rfl rfl (by kernel_rfl) (fun _ _ _ h => h) ⟨⟨_, hS⟩, hp.box.heap.trans D_hp.heap.symm⟩ ?_
        refine a_p 1 tbOk rfl rfl rfl rfl (by kernel_rfl) (fun _ _ _ h => h) ⟨⟨_, hS⟩, hp.box.heap.trans D_hp.heap.symm⟩ ?_
        refine a_p 2 tbOk rfl rfl rfl rfl (by kernel_rfl) (fun _ _ _ h => h) ⟨⟨_, hS⟩, hp.box.heap.trans D_hp.heap.symm⟩ ?_
        refine a_ld 3 tbOk (fun _ hs => (D_hp.so2 hs).cell 0 _ rfl) rfl rfl rfl rfl rfl rfl (by kernel_rfl) (fun _ _ _ h => h) ⟨⟨_, hS⟩, hp.box.heap.trans D_hp.heap.symm⟩ ?_
        refine a_p 4 tbOk rfl rfl rfl rfl (by kernel_rfl) (fun _ _ _ h => h) ⟨⟨_, hS⟩, hp.box.heap.trans D_hp.heap.symm⟩ ?_
        refine a_p 5 tbOk rfl rfl rfl rfl (by kernel_rfl) (fun _ _ _ h => h) ⟨⟨_, hS⟩, hp.box.heap.trans D_hp.heap.symm⟩ ?_
        refine a_p 6 tbOk rfl rfl rfl rfl (by kernel_rfl) (fun _ _ _ h => h) ⟨⟨_, hS⟩, hp.box.heap.trans D_hp.heap.symm⟩ ?_
        refine a_ld 7 tbOk (fun _ hs => (D_hp.so2 hs).cell 0 _ rfl) rfl rfl rfl rfl rfl rfl (by kernel_rfl) (fun _ _ _ h => h) ⟨⟨_, hS⟩, hp.box.heap.trans D_hp.heap.symm⟩ ?_
        refine a_one 8 rfl (by kernel_rfl) (o_lenO tbOk ho rfl rfl rfl rfl rfl ?_)
        refine ⟨⟨⟨_, hS⟩, hp.box.heap.trans D_hp.heap.symm⟩, ?_⟩
        refine a_ar 9 rfl rfl rfl rfl (IntWalk.i64_in _ (by omega)) rfl rfl (by kernel_rfl) (fun _ _ _ h => h) ⟨⟨_, hS⟩, hp.box.heap.trans D_hp.heap.symm⟩ ?_
        refine a_ixO 10 tbOk ho (get_last _ _) rfl rfl rfl (by simp only [List.length_append, List.length_cons, List.length_nil]; omega) rfl rfl rfl rfl rfl rfl (by kernel_rfl) (fun _ _ _ _ h => h) ⟨⟨_, hS⟩, hp.box.heap.trans D_hp.heap.symm⟩ ?_
        intro ibz iuz hobz hrz hatz
        refine a_bar 11 rfl (by kernel_rfl) (by kernel_rfl) (o_stO tbOk ho hobz (by simp) (show Rep.R _ _ _ (1 : UInt8) from rfl) hlow rfl rfl rfl rfl rfl rfl ?_)
        intro w13 hw13 sw13 frw13
        replace hT := hT.then sw13
        replace hS := hS.then sw13
        replace hp := hp.stp sw13 (frw13 bp hp.lt (fun e => d_ho_hp _ hobz e.symm))
        replace h3 := h3.stp sw13
        replace ha := Rep.stp ha sw13
        replace hk := hk.stp sw13
        replace hlow := sw13.low
        replace hB := Nat.le_trans hB sw13.upd.1
        replace ho := hw13
        clear hw13
        rw [set_last] at ho
        refine a_end (by kernel_rfl) ?_
        exact x_cut2 ((.slice a6 (b ++ o1 t.op t.name ++ o2 t.op t.arg ++ o3 t.op t.n ++ [0]).length ca6)) (Mw10) (s2 rfl rfl) ⟨hp, by rw [o4, decide_eq_true c5, c7]; exact ho, d_ho_hp, hT, hlow, hB, h3, ha, hk⟩
      refine c_skip ?_
      exact x_cut2 ((.slice a6 (b ++ o1 t.op t.name ++ o2 t.op t.arg ++ o3 t.op t.n ++ [0]).length ca6)) (Mw10) (s2 rfl rfl) ⟨hp, by rw [o4, decide_eq_true c5, c7]; exact ho, d_ho_hp, hT, hlow, hB, h3, ha, hk⟩
    refine c_skip ?_
    exact x_cut2 (bv) (M1) (s2 rfl rfl) ⟨hp, by rw [o4, decide_eq_false c5, cond_false, List.append_nil]; exact ho, d_ho_hp, hT, hlow, hB, h3, ha, hk⟩
  clear hp ho d_ho_hp hT hlow hB h3 ha hk
  rintro bv M1 w84 ⟨hp, ho, d_ho_hp, hT, hlow, hB, h3, ha, hk⟩
  refine c_cut2 (X := Value) (Y := Nat → Prop) (fun bv M1 => [(0, .pointer (some ⟨bp, 0, none⟩)), (3, .pointer (some ⟨b3, 0, none⟩))]) (fun bv M1 w' => MB B M1 w' bp 125 [bv] ∧ OwnSl 5 B M1 w' bv (b ++ o1 t.op t.name ++ o2 t.op t.arg ++ o3 t.op t.n ++ o4 t.op t.has ++ o5 t.has t.ann) ∧ (∀ x, (bv : Value).ownBlock = some x → x ≠ bp) ∧ Stp B M M1 w w' ∧ Low M1 w' ∧ B ≤ w'.heap.size ∧ At M1 w' b3 0 [.int .u8 t.op, .string t.name, .string t.arg, .int .i64 t.n, .bool t.has, .int .u8 t.ann.op, .string t.ann.name, .int .i64 t.ann.n, akv, kv] ∧ Rep.R M1 w' (.agg #[.int .u8 t.ann.op, .string t.ann.name, .int .i64 t.ann.n, akv]) t.ann ∧ Sl M1 w' kv t.kids) ?_ ?_
  · refine q0 (l_p 1 tbOk rfl ?_)
    refine l_cons (o_ld tbOk (h3.cell 4 _ rfl) rfl rfl rfl rfl rfl ?_)
    refine q1 ?_
    refine c_if _ rfl (fun c8 => ?_) (fun c8 => ?_)
    · refine c_reg (l_p 2 tbOk rfl ?_)
      refine l_cons (o_lds tbOk (fun j v hv => (h3).mid 5 (sub := [.int .u8 t.ann.op, .string t.ann.name, .int .i64 t.ann.n, akv]) rfl j v hv) rfl rfl rfl rfl rfl rfl ?_)
      have e1 : (o5 t.has t.ann).length = (typeB t.ann).length := by rw [o5, c8]; rfl
      refine l_cons (o_call fo83 rfl rfl rfl (penKind_spec t.ann _ _ _ B bp _ hp ho d_ho_hp hlow hB _ ha (by simp only [List.length_append, List.length_cons, List.length_nil]; omega)) ?_)
      rintro _ w14 ⟨rfl, Mw14, vw14, hpw14, how14, new14, sw14⟩
      replace hT := hT.then sw14
      replace h3 := h3.stp sw14
      replace ha := Rep.stp ha sw14
      replace hk := hk.stp sw14
      replace hlow := sw14.low
      replace hB := Nat.le_trans hB sw14.upd.1
      replace hp := hpw14
      replace ho := how14
      replace d_ho_hp := new14
      clear hpw14 how14 new14
      refine l_nil ?_
      exact x_cut2 (vw14) (Mw14) (s2 rfl rfl) ⟨hp, by rw [show o5 t.has t.ann = typeB t.ann by rw [o5, c8]; rfl]; exact ho, d_ho_hp, hT, hlow, hB, h3, ha, hk⟩
    refine c_skip ?_
    exact x_cut2 (bv) (M1) (s2 rfl rfl) ⟨hp, by rw [show o5 t.has t.ann = [] by rw [o5, c8]; rfl, List.append_nil]; exact ho, d_ho_hp, hT, hlow, hB, h3, ha, hk⟩
  clear hp ho d_ho_hp hT hlow hB h3 ha hk
  rintro bv M1 w85 ⟨hp, ho, d_ho_hp, hT, hlow, hB, h3, ha, hk⟩
  refine c_cut2 (X := Value) (Y := Nat → Prop) (fun bv M1 => [(0, .pointer (some ⟨bp, 0, none⟩)), (3, .pointer (some ⟨b3, 0, none⟩))]) (fun bv M1 w' => MB B M1 w' bp 125 [bv] ∧ OwnSl 5 B M1 w' bv (b ++ o1 t.op t.name ++ o2 t.op t.arg ++ o3 t.op t.n ++ o4 t.op t.has ++ o5 t.has t.ann ++ o6 t.op t.kids.length) ∧ (∀ x, (bv : Value).ownBlock = some x → x ≠ bp) ∧ Stp B M M1 w w' ∧ Low M1 w' ∧ B ≤ w'.heap.size ∧ At M1 w' b3 0 [.int .u8 t.op, .string t.name, .string t.arg, .int .i64 t.n, .bool t.has, .int .u8 t.ann.op, .string t.ann.name, .int .i64 t.ann.n, akv, kv] ∧ Rep.R M1 w' (.agg #[.int .u8 t.ann.op, .string t.ann.name, .int .i64 t.ann.n, akv]) t.ann ∧ Sl M1 w' kv t.kids) ?_ ?_
  · refine q0 (l_p 1 tbOk rfl ?_)
    refine l_cons (o_ld tbOk (h3.cell 0 _ rfl) rfl rfl rfl rfl rfl ?_)
    refine l_cons (o_call fo105 rfl rfl rfl (cnt_spec t.op _) ?_)
    rintro _ _ ⟨rfl, rfl⟩
    refine l_p 1 tbOk rfl (q1 ?_)
    refine c_ifP _ rfl (fun c9 => ?_) (fun c9 => ?_)
    · refine c_reg (l_p 2 tbOk rfl ?_)
      refine l_cons (o_ld tbOk (h3.cell 9 _ rfl) rfl rfl rfl rfl rfl ?_)
      refine l_cons (o_len tbOk hk rfl rfl rfl rfl rfl ?_)
      refine l_cons (o_conv (y := ((t.kids.length : Nat) : Int)) tbOk rfl rfl rfl rfl rfl ((wrap_u64 _).trans (by rw [u64_nat (by omega)])) rfl rfl ?_)
      refine l_cons (o_call fo100 rfl rfl rfl (penNum_spec t.kids.length (by omega) _ _ _ B bp _ hp ho d_ho_hp hlow hB (by simp only [List.length_append, List.length_cons, List.length_nil]; omega)) ?_)
      rintro _ w15 ⟨rfl, Mw15, vw15, hpw15, how15, new15, sw15⟩
      replace hT := hT.then sw15
      replace h3 := h3.stp sw15
      replace ha := Rep.stp ha sw15
      replace hk := hk.stp sw15
      replace hlow := sw15.low
      replace hB := Nat.le_trans hB sw15.upd.1
      replace hp := hpw15
      replace ho := how15
      replace d_ho_hp := new15
      clear hpw15 how15 new15
      refine l_nil ?_
      exact x_cut2 (vw15) (Mw15) (s2 rfl rfl) ⟨hp, by rw [o6, decide_eq_true c9]; exact ho, d_ho_hp, hT, hlow, hB, h3, ha, hk⟩
    refine c_skip ?_
    exact x_cut2 (bv) (M1) (s2 rfl rfl) ⟨hp, by rw [o6, decide_eq_false c9, cond_false, List.append_nil]; exact ho, d_ho_hp, hT, hlow, hB, h3, ha, hk⟩
  clear hp ho d_ho_hp hT hlow hB h3 ha hk
  rintro bv M1 w86 ⟨hp, ho, d_ho_hp, hT, hlow, hB, h3, ha, hk⟩
  refine q0 (l_p 1 tbOk rfl ?_)
  refine l_cons (o_ld tbOk (h3.cell 9 _ rfl) rfl rfl rfl rfl rfl ?_)
  refine l_cons (o_len tbOk hk rfl rfl rfl rfl rfl ?_)
  refine l_p 1 tbOk rfl (q1 (c_blk ?_))
  refine c_loop3 (X := Nat) (Y := Value) (Z := Nat → Prop) (fun i bv M1 => [(0, .pointer (some ⟨bp, 0, none⟩)), (86, kv), (87, .int .i64 (t.kids.length : Int)), (88, .int .i64 (i : Nat))]) (fun i bv M1 w' => i ≤ t.kids.length ∧ MB B M1 w' bp 125 [bv] ∧ OwnSl 5 B M1 w' bv ((b ++ o1 t.op t.name ++ o2 t.op t.arg ++ o3 t.op t.n ++ o4 t.op t.has ++ o5 t.has t.ann ++ o6 t.op t.kids.length) ++ (t.kids.take i).flatMap termB) ∧ (∀ x, (bv : Value).ownBlock = some x → x ≠ bp) ∧ Stp B M M1 w w' ∧ Low M1 w' ∧ B ≤ w'.heap.size ∧ Sl M1 w' kv t.kids) (fun i bv M1 => t.kids.length - i) (0) (bv) (M1) (s4 rfl rfl rfl rfl) ?_ ?_
  · exact ⟨Nat.zero_le _, hp, by simpa using ho, d_ho_hp, hT, hlow, hB, hk⟩
  clear hp ho d_ho_hp hT hlow hB hk
  rintro i bv M1 w16 ⟨hi, hp, ho, d_ho_hp, hT, hlow, hB, hk⟩
  have hft := flat_take_len (f := termB) (l := t.kids) i
  refine q0 (l_p 1 tbOk rfl (q1 (c_seq ?_)))
  refine c_ifP _ rfl (fun c10 => ?_) (fun c10 => ?_)
  · refine c_skip (x_seq (c_seq (c_blk (q0 ?_))))
    have hik : i < t.kids.length := by omega
    have hf1 := flat_take_len (f := termB) (l := t.kids) (i + 1)
    rw [flat_step hik, List.length_append] at hf1
    refine l_cons (o_ixS tbOk hk (List.getElem?_eq_getElem hik) rfl rfl rfl rfl rfl rfl rfl rfl rfl ?_)
    intro ebx eox eux hyx hatx
    obtain ⟨akvx, kvx, rfl, opx, nmx, agx, n64x, hax, hkx⟩ := tm_open hyx
    replace hatx : At M1 w16 ebx eox [.int .u8 t.kids[i].op, .string t.kids[i].name, .string t.kids[i].arg, .int .i64 t.kids[i].n, .bool t.kids[i].has, .int .u8 t.kids[i].ann.op, .string t.kids[i].ann.name, .int .i64 t.kids[i].ann.n, akvx, kvx] := hatx
    refine l_cons (o_lds tbOk (fun j v hv => hatx.cell j v hv) rfl rfl rfl rfl rfl rfl ?_)
    refine l_cons (o_new tbOk rfl rfl rfl ?_)
    intro b9 w17 qb9 ew17 hb9
    have nb9 := nM_of hlow qb9
    refine l_cons (o_st tbOk hb9 rfl rfl rfl rfl (Rep.one hyx) rfl rfl ?_)
    intro w18 h9 uw18 bew18
    have ew18 : Ext w16 w18 := ew17.trans (bew18 _ (Nat.le_of_eq qb9.symm))
    replace hT := hT.then (Stp.ext ew18 hlow hB)
    replace hp := hp.ext hlow hB ew18
    replace ho := ho.ext hlow hB ew18
    replace hk := hk.ext ew18
    replace hyx := Rep.ext hyx ew18
    replace hax := Rep.ext hax ew18
    replace hkx := hkx.ext ew18
    replace hatx := hatx.ext ew18
    replace hlow := hlow.ext ew18
    replace hB := Nat.le_trans hB ew18.size
    replace h9 : Box w18 b9 84 [.int .u8 t.kids[i].op, .string t.kids[i].name, .string t.kids[i].arg, .int .i64 t.kids[i].n, .bool t.kids[i].has, .int .u8 t.kids[i].ann.op, .string t.kids[i].ann.name, .int .i64 t.kids[i].ann.n, akvx, kvx] := h9
    replace h9 := h9.at nb9
    refine q1 (c_reg (l_p 1 tbOk rfl ?_))
    refine l_cons (o_lds tbOk (fun j v hv => h9.cell j v hv) rfl rfl rfl rfl rfl rfl ?_)
    refine l_cons (o_call fo82 rfl rfl rfl (ih _ (List.getElem_mem hik) _ _ _ B bp _ hp ho d_ho_hp hlow hB _ hyx (by simp only [List.length_append] at hle ⊢; omega)) ?_)
    rintro _ w19 ⟨rfl, Mw19, vw19, hpw19, how19, new19, sw19⟩
    replace hT := hT.then sw19
    replace hk := hk.stp sw19
    replace hyx := Rep.stp hyx sw19
    replace hax := Rep.stp hax sw19
    replace hkx := hkx.stp sw19
    replace hatx := hatx.stp sw19
    replace h9 := h9.stp sw19
    replace hlow := sw19.low
    replace hB := Nat.le_trans hB sw19.upd.1
    replace hp := hpw19
    replace ho := how19
    replace d_ho_hp := new19
    clear hpw19 how19 new19
    refine q2 (x_seq (c_reg ?_))
    refine l_cons (o_ar rfl rfl rfl (IntWalk.i64_in _ (by omega)) rfl rfl ?_)
    refine l_p 1 tbOk rfl (l_nil ?_)
    exact x_round3 (i + 1) (vw19) (Mw19) (s4 rfl rfl rfl (get_num rfl (by omega))) ⟨by omega, hp, by rw [flat_step hik, ← List.append_assoc]; exact ho, d_ho_hp, hT, hlow, hB, hk⟩ (by omega)
  refine c_exit (x_seqE (x_seqE (x_blkE ?_)))
  refine x_ret0n rfl ?_
  obtain rfl : i = t.kids.length := by omega
  refine ⟨rfl, _, _, hp, ?_, d_ho_hp, hT⟩
  rw [termB_eq, headE, List.take_of_length_le (Nat.le_refl _)] at *
  simpa only [List.append_assoc] using ho

/-- PutTerm: its bytes. -/
theorem putTerm_spec (t : Tm) (M : Nat → Prop) (w : World) (v : Value) (ht : Rep.R M w v t) (hlow0 : Low M w) (hz : AnnS t) (hl : (termB t).length ≤ 999999997000) :
    Calls Try.prog 41 #[v] w (Ret fun r w' => (∃ x, r = .tuple #[x, .int .u8 (bif rightT t false then 0 else 15)] ∧ Sl M w' x (bif rightT t false then termB t else [])) ∧ Ext w w') := by
  have hlow := hlow0
  have hB : w.heap.size ≤ w.heap.size := Nat.le_refl _
  have hE : Below w.heap.size w w := Below.refl _ _
  have hsub : ∀ b, M b → M b := fun _ h => h
  obtain ⟨akv, kv, rfl, op, nm, ag, n64, ha, hk⟩ := tm_open ht
  refine c_enter (n := 12) Try.func41 rfl rfl rfl ?_
  refine q0 ?_
  refine l_cons (o_box rfl rfl rfl ?_)
  intro b1 w1 hb_b1 ew1 h1
  replace h1 : Box _ b1 84 [.int .u8 t.op, .string t.name, .string t.arg, .int .i64 t.n, .bool t.has, .int .u8 t.ann.op, .string t.ann.name, .int .i64 t.ann.n, akv, kv] := h1
  replace h1 := h1.at (nM_of hlow hb_b1)
  replace hE := hE.trans (Below.mono ew1 hB)
  replace ht := Rep.ext ht ew1
  replace ha := Rep.ext ha ew1
  replace hk := hk.ext ew1
  replace hlow := hlow.ext ew1
  replace hB := Nat.le_trans hB ew1.size
  refine l_p 2 tbOk rfl (q1 (c_seq (q0 ?_)))
  refine l_cons (o_lds tbOk (fun j v hv => h1.cell j v hv) rfl rfl rfl rfl rfl rfl ?_)
  refine l_cons (o_call fo76 rfl rfl rfl (tRight_spec _ _ _ _ ht hlow hz) ?_)
  rintro _ w2 ⟨rfl, ew2⟩
  replace hE := hE.trans (Below.mono ew2 hB)
  replace ht := Rep.ext ht ew2
  replace ha := Rep.ext ha ew2
  replace hk := hk.ext ew2
  replace h1 := h1.ext ew2
  replace hlow := hlow.ext ew2
  replace hB := Nat.le_trans hB ew2.size
  refine l_p 1 tbOk rfl (q1 ?_)
  refine c_ifB _ rfl (fun c1 => ?_) (fun c1 => ?_)
  · refine q0 (l_p 2 tbOk rfl (q1 (c_ret (x_seqR (x_ret2 rfl rfl rfl ?_)))))
    have hr : rightT t false = false := by simp_all
    rw [hr]
    exact ⟨⟨_, rfl, sl_nil⟩, hE⟩
  refine c_skip (x_seq (q0 ?_))
  refine l_cons (o_new tbOk rfl rfl rfl ?_)
  intro bp w3 qbp ew3 hbp
  have sw3 := Stp.add ew3 hlow hB (Nat.le_of_eq qbp.symm) hbp.lt
  have hp : MB w.heap.size (Rw.Add M bp) w3 bp 125 [.slice none 0 0] := MB.mk' hbp qbp hB
  replace hE := hE.trans sw3.below
  replace ht := Rep.stp ht sw3
  replace ha := Rep.stp ha sw3
  replace hk := hk.stp sw3
  replace h1 := h1.stp sw3
  replace hsub := fun b h => sw3.sub b (hsub b h)
  replace hlow := sw3.low
  replace hB := Nat.le_trans hB sw3.upd.1
  have d_ho_hp : ∀ x, (.slice none 0 0 : Value).ownBlock = some x → x ≠ bp := fun x hx => by simp [Value.ownBlock] at hx
  refine q1 (q0 ?_)
  refine l_cons (o_lds tbOk (fun j v hv => h1.cell j v hv) rfl rfl rfl rfl rfl rfl ?_)
  refine l_cons (o_call fo82 rfl rfl rfl (penTerm_spec t [] _ _ w.heap.size bp _ hp own_nil d_ho_hp hlow hB _ ht (by simp; omega)) ?_)
  rintro _ w4 ⟨rfl, Mw4, vw4, hpw4, ho, new4, sw4⟩
  replace hE := hE.trans sw4.below
  replace ht := Rep.stp ht sw4
  replace ha := Rep.stp ha sw4
  replace hk := hk.stp sw4
  replace h1 := h1.stp sw4
  replace hsub := fun b h => sw4.sub b (hsub b h)
  replace hlow := sw4.low
  replace hB := Nat.le_trans hB sw4.upd.1
  replace hp := hpw4
  replace d_ho_hp := new4
  clear hpw4 new4
  refine q1 (q0 (l_p 1 tbOk rfl ?_))
  refine l_cons (o_ld tbOk (hp.cell 0 _ rfl) rfl rfl rfl rfl rfl ?_)
  refine l_p 2 tbOk rfl (q1 (c_ret (x_ret2 rfl rfl rfl ?_)))
  have hr : rightT t false = true := by simp_all
  rw [hr]
  exact ⟨⟨_, rfl, ho.sl (by simp; omega) hlow0 hsub⟩, hE⟩

/-- PutType: its bytes. -/
theorem putType_spec (t : Ty) (M : Nat → Prop) (w : World) (v : Value) (ht : Rep.R M w v t) (hlow0 : Low M w) (hl : (typeB t).length ≤ 999999997000) :
    Calls Try.prog 42 #[v] w (Ret fun r w' => (∃ x, r = .tuple #[x, .int .u8 (bif (rightB t || rowB t) then 0 else 15)] ∧ Sl M w' x (bif (rightB t || rowB t) then typeB t else [])) ∧ Ext w w') := by
  have hlow := hlow0
  have hB : w.heap.size ≤ w.heap.size := Nat.le_refl _
  have hE : Below w.heap.size w w := Below.refl _ _
  have hsub : ∀ b, M b → M b := fun _ h => h
  obtain ⟨kv, rfl, op, nm, n64, hk⟩ := ty_open ht
  refine c_enter (n := 17) Try.func42 rfl rfl rfl ?_
  refine q0 ?_
  refine l_cons (o_box rfl rfl rfl ?_)
  intro b1 w1 hb_b1 ew1 h1
  replace h1 : Box _ b1 40 [.int .u8 t.op, .string t.name, .int .i64 t.n, kv] := h1
  replace h1 := h1.at (nM_of hlow hb_b1)
  replace hE := hE.trans (Below.mono ew1 hB)
  replace ht := Rep.ext ht ew1
  replace hk := hk.ext ew1
  replace hlow := hlow.ext ew1
  replace hB := Nat.le_trans hB ew1.size
  refine l_p 2 tbOk rfl (q1 (c_seq (q0 ?_)))
  refine l_cons (o_lds tbOk (fun j v hv => h1.cell j v hv) rfl rfl rfl rfl rfl rfl ?_)
  refine l_cons (o_call fo78 rfl rfl rfl (kRight_specB _ _ _ _ ht hlow) ?_)
  rintro _ w2 ⟨rfl, ew2⟩
  replace hE := hE.trans (Below.mono ew2 hB)
  replace ht := Rep.ext ht ew2
  replace hk := hk.ext ew2
  replace h1 := h1.ext ew2
  replace hlow := hlow.ext ew2
  replace hB := Nat.le_trans hB ew2.size
  refine l_p 2 tbOk rfl ?_
  refine l_splitB 8 _ rfl (fun c1 => ?_) (fun c1 => ?_)
  · refine l_cons (o_lds tbOk (fun j v hv => h1.cell j v hv) rfl rfl rfl rfl rfl rfl ?_)
    refine l_cons (o_call fo55 rfl rfl rfl (kRow_specB _ _ _ _ ht hlow) ?_)
    rintro _ w3 ⟨rfl, ew3⟩
    replace hE := hE.trans (Below.mono ew3 hB)
    replace ht := Rep.ext ht ew3
    replace hk := hk.ext ew3
    replace h1 := h1.ext ew3
    replace hlow := hlow.ext ew3
    replace hB := Nat.le_trans hB ew3.size
    refine l_p 2 tbOk rfl (q1 ?_)
    refine c_ifB _ rfl (fun c2 => ?_) (fun c2 => ?_)
    · refine q0 (l_p 2 tbOk rfl (q1 (c_ret (x_seqR (x_ret2 rfl rfl rfl ?_)))))
      have hr : (rightB t || rowB t) = false := by simp_all
      rw [hr]
      exact ⟨⟨_, rfl, sl_nil⟩, hE⟩
    refine c_skip (x_seq (q0 ?_))
    refine l_cons (o_new tbOk rfl rfl rfl ?_)
    intro bp w4 qbp ew4 hbp
    have sw4 := Stp.add ew4 hlow hB (Nat.le_of_eq qbp.symm) hbp.lt
    have hp : MB w.heap.size (Rw.Add M bp) w4 bp 125 [.slice none 0 0] := MB.mk' hbp qbp hB
    replace hE := hE.trans sw4.below
    replace ht := Rep.stp ht sw4
    replace hk := hk.stp sw4
    replace h1 := h1.stp sw4
    replace hsub := fun b h => sw4.sub b (hsub b h)
    replace hlow := sw4.low
    replace hB := Nat.le_trans hB sw4.upd.1
    have d_ho_hp : ∀ x, (.slice none 0 0 : Value).ownBlock = some x → x ≠ bp := fun x hx => by simp [Value.ownBlock] at hx
    refine q1 (q0 ?_)
    refine l_cons (o_lds tbOk (fun j v hv => h1.cell j v hv) rfl rfl rfl rfl rfl rfl ?_)
    refine l_cons (o_call fo83 rfl rfl rfl (penKind_spec t [] _ _ w.heap.size bp _ hp own_nil d_ho_hp hlow hB _ ht (by simp; omega)) ?_)
    rintro _ w5 ⟨rfl, Mw5, vw5, hpw5, ho, new5, sw5⟩
    replace hE := hE.trans sw5.below
    replace ht := Rep.stp ht sw5
    replace hk := hk.stp sw5
    replace h1 := h1.stp sw5
    replace hsub := fun b h => sw5.sub b (hsub b h)
    replace hlow := sw5.low
    replace hB := Nat.le_trans hB sw5.upd.1
    replace hp := hpw5
    replace d_ho_hp := new5
    clear hpw5 new5
    refine q1 (q0 (l_p 1 tbOk rfl ?_))
    refine l_cons (o_ld tbOk (hp.cell 0 _ rfl) rfl rfl rfl rfl rfl ?_)
    refine l_p 2 tbOk rfl (q1 (c_ret (x_ret2 rfl rfl rfl ?_)))
    have hr : (rightB t || rowB t) = true := by simp_all
    rw [hr]
    exact ⟨⟨_, rfl, ho.sl (by simp; omega) hlow0 hsub⟩, hE⟩
  refine l_p 4 tbOk rfl (q1 (c_ifF rfl (c_skip (x_seq (q0 ?_)))))
  refine l_cons (o_new tbOk rfl rfl rfl ?_)
  intro bp w6 qbp ew6 hbp
  have sw6 := Stp.add ew6 hlow hB (Nat.le_of_eq qbp.symm) hbp.lt
  have hp : MB w.heap.size (Rw.Add M bp) w6 bp 125 [.slice none 0 0] := MB.mk' hbp qbp hB
  replace hE := hE.trans sw6.below
  replace ht := Rep.stp ht sw6
  replace hk := hk.stp sw6
  replace h1 := h1.stp sw6
  replace hsub := fun b h => sw6.sub b (hsub b h)
  replace hlow := sw6.low
  replace hB := Nat.le_trans hB sw6.upd.1
  have d_ho_hp : ∀ x, (.slice none 0 0 : Value).ownBlock = some x → x ≠ bp := fun x hx => by simp [Value.ownBlock] at hx
  refine q1 (q0 ?_)
  refine l_cons (o_lds tbOk (fun j v hv => h1.cell j v hv) rfl rfl rfl rfl rfl rfl ?_)
  refine l_cons (o_call fo83 rfl rfl rfl (penKind_spec t [] _ _ w.heap.size bp _ hp own_nil d_ho_hp hlow hB _ ht (by simp; omega)) ?_)
  rintro _ w7 ⟨rfl, Mw7, vw7, hpw7, ho, new7, sw7⟩
  replace hE := hE.trans sw7.below
  replace ht := Rep.stp ht sw7
  replace hk := hk.stp sw7
  replace h1 := h1.stp sw7
  replace hsub := fun b h => sw7.sub b (hsub b h)
  replace hlow := sw7.low
  replace hB := Nat.le_trans hB sw7.upd.1
  replace hp := hpw7
  replace d_ho_hp := new7
  clear hpw7 new7
  refine q1 (q0 (l_p 1 tbOk rfl ?_))
  refine l_cons (o_ld tbOk (hp.cell 0 _ rfl) rfl rfl rfl rfl rfl ?_)
  refine l_p 2 tbOk rfl (q1 (c_ret (x_ret2 rfl rfl rfl ?_)))
  have hr : (rightB t || rowB t) = true := by simp_all
  rw [hr]
  exact ⟨⟨_, rfl, ho.sl (by simp; omega) hlow0 hsub⟩, hE⟩

/-- Clone: the same, in new memory. -/
theorem cloneB_spec (l : List UInt8) (B : Nat) (M : Nat → Prop) (w : World) (v : Value) (hs : Sl M w v l) (hlow : Low M w) (hB : B ≤ w.heap.size) (hsm : l.length ≤ 1000000000000) :
    Calls Try.prog 70 #[v] w (Ret fun r w' => ∃ M', OwnSl 5 B M' w' r l ∧ Stp B M M' w w') := by
  have hT : Stp B M M w w := Stp.refl hlow
  obtain ⟨a, c, rfl, _⟩ := id hs
  refine c_enter (n := 8) Try.func70 rfl rfl rfl ?_
  refine q0 (l_p 1 tbOk rfl (q1 (c_seq (q0 (l_p 1 tbOk rfl ?_)))))
  refine l_cons (o_sniB tbOk rfl rfl rfl rfl rfl rfl ?_)
  refine q1 ?_
  refine c_if _ rfl (fun hn => ?_) (fun hn => ?_)
  · refine q0 (l_p 1 tbOk rfl (q1 (c_ret (x_seqR (x_ret1 rfl rfl ?_)))))
    obtain rfl := sl_isNoneB hs hn
    exact ⟨_, own_nil, hT⟩
  refine c_skip (x_seq (q0 ?_))
  refine l_cons (o_bs tbOk rfl rfl rfl rfl rfl rfl rfl (fun v h => by cases h) rfl rfl rfl ?_)
  intro bw1 w1 qbw1 ew1 hbw1
  have sw1 := Stp.add ew1 hlow hB (Nat.le_of_eq qbw1.symm) hbw1.lt
  have le_bw1 := hB
  replace hT := hT.then sw1
  replace hs := hs.stp sw1
  replace hlow := sw1.low
  replace hB := Nat.le_trans hB sw1.upd.1
  have ho := own_litS sw1 hbw1 (show Rs _ _ [] ([] : List UInt8) from trivial) qbw1 le_bw1 (by simp [maxLen])
  refine l_p 1 tbOk rfl ?_
  refine l_cons (o_app tbOk ho hs hlow hB rfl rfl rfl rfl rfl rfl rfl (by simp; omega) (by show (_ + _) * 1 ≤ _; simp; omega) rfl rfl ?_)
  intro vw2 w2 Mw2 hw2 sw2 frw2 blw2
  replace hT := hT.then sw2
  replace hs := hs.stp sw2
  replace hlow := sw2.low
  replace hB := Nat.le_trans hB sw2.upd.1
  replace ho := hw2
  clear hw2
  refine l_p 1 tbOk rfl (q1 (c_ret (x_ret1 rfl rfl ?_)))
  rw [List.nil_append] at ho
  exact ⟨_, ho, hT⟩

/-- PutText: behind bytes. -/
theorem putText_spec (l : List UInt8) (s : ByteArray) (M : Nat → Prop) (w : World) (v : Value) (hs : Sl M w v l) (hlow0 : Low M w) (hss : s.size < 140737488355328) (hl : l.length + s.size ≤ 999999999000) :
    Calls Try.prog 28 #[v, .string s] w (Ret fun r w' => Sl M w' r (l ++ textB s) ∧ Ext w w') := by
  have hlow := hlow0
  have hB : w.heap.size ≤ w.heap.size := Nat.le_refl _
  have hE : Below w.heap.size w w := Below.refl _ _
  have hsub : ∀ b, M b → M b := fun _ h => h
  refine c_enter (n := 13) Try.func28 rfl rfl rfl ?_
  refine q0 (l_p 1 tbOk rfl (q1 (q0 (l_p 1 tbOk rfl ?_))))
  refine l_cons (o_call fo70 rfl rfl rfl (cloneB_spec l w.heap.size _ _ _ hs hlow hB (by omega)) ?_)
  rintro wv w1 ⟨M0, ho, sw1⟩
  obtain ⟨a0, c0, rfl, _⟩ := ho.val
  replace hE := hE.trans sw1.below
  replace hs := hs.stp sw1
  replace hsub := fun b h => sw1.sub b (hsub b h)
  replace hlow := sw1.low
  replace hB := Nat.le_trans hB sw1.upd.1
  refine l_cons (o_build (cells := [.slice a0 l.length c0]) bd125 rfl rfl rfl rfl rfl ?_)
  refine l_cons (o_new tbOk rfl rfl rfl ?_)
  intro bp w2 qbp ew2 hbp
  have d_ho_hp : ∀ x, ((.slice a0 l.length c0) : Value).ownBlock = some x → x ≠ bp := fun x hx => by have := (ho.lt x hx).2; omega
  have sw2 := Stp.add ew2 hlow hB (Nat.le_of_eq qbp.symm) hbp.lt
  have hp : MB w.heap.size (Rw.Add M0 bp) w2 bp 125 [.slice none 0 0] := MB.mk' hbp qbp hB
  replace ho := ho.stp sw2 (fun x hx => ew2.block x (ho.lt x hx).2)
  replace hE := hE.trans sw2.below
  replace hs := hs.stp sw2
  replace hsub := fun b h => sw2.sub b (hsub b h)
  replace hlow := sw2.low
  replace hB := Nat.le_trans hB sw2.upd.1
  refine l_cons (o_st tbOk hp.box rfl rfl rfl rfl (by intro u hu; simp [Value.cells] at hu; subst hu; rfl) rfl rfl ?_)
  intro w3 hw3 qw3 bew3
  have uw3 : UpdB _ _ _ := ⟨qw3, bew3⟩
  have sw3 := uw3.stp hp.inM hlow hp.ge
  have frw3 := qw3.2
  replace ho := ho.stp sw3 (fun x hx => frw3 x (ho.lt x hx).2 (d_ho_hp x hx))
  replace hE := hE.trans sw3.below
  replace hs := hs.stp sw3
  replace hsub := fun b h => sw3.sub b (hsub b h)
  replace hlow := sw3.low
  replace hB := Nat.le_trans hB sw3.upd.1
  replace hp : MB w.heap.size _ w3 bp _ [.slice a0 l.length c0] := ⟨hw3, hp.inM, hp.ge⟩
  refine q1 (q0 (l_p 1 tbOk rfl ?_))
  refine l_cons (o_call fo71 rfl rfl rfl (penText_spec s hss l _ _ w.heap.size bp _ hp ho d_ho_hp hlow hB (by omega)) ?_)
  rintro _ w4 ⟨rfl, Mw4, vw4, hpw4, how4, new4, sw4⟩
  replace hE := hE.trans sw4.below
  replace hs := hs.stp sw4
  replace hsub := fun b h => sw4.sub b (hsub b h)
  replace hlow := sw4.low
  replace hB := Nat.le_trans hB sw4.upd.1
  replace hp := hpw4
  replace ho := how4
  replace d_ho_hp := new4
  clear hpw4 how4 new4
  refine q1 (q0 (l_p 1 tbOk rfl ?_))
  refine l_cons (o_ld tbOk (hp.cell 0 _ rfl) rfl rfl rfl rfl rfl ?_)
  refine l_p 1 tbOk rfl (q1 (c_ret (x_ret1 rfl rfl ?_)))
  have := textB_len s
  exact ⟨ho.sl (by simp only [List.length_append]; omega) hlow0 hsub, hE⟩

end Go.Proofs.Ytohfnpmehgpphaa
