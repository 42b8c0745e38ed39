/- Part 5 of the proof: rules, plain laws and walks, merged out of smaller texts. -/
import Derived.Test.YtohfnpmehgpphaaV4
namespace Go.Proofs.Ytohfnpmehgpphaa
open Go Rw Go.RowKit
set_option maxRecDepth 100000
theorem penNum_spec (n : Nat) (hn : n < 18446744073709551616) (b : List UInt8) (M : Nat → Prop) (w : World) (B bp : Nat) (bv : Value) (hp : MB B M w bp 125 [bv]) (ho : OwnSl 5 B M w bv b) (hne : ∀ x, (bv : Value).ownBlock = some x → x ≠ bp) (hlow : Low M w) (hB : B ≤ w.heap.size) (hl : b.length ≤ 1000000000000) :
  Calls Try.prog 100 #[.pointer (some ⟨bp, 0, none⟩), .int .u64 (n : Int)] w (Ret fun r w' => r = .tuple #[] ∧ ∃ M' bv', MB B M' w' bp 125 [bv'] ∧ OwnSl 5 B M' w' bv' (b ++ numY n) ∧ (∀ x, (bv' : Value).ownBlock = some x → x ≠ bp) ∧ Stp B M M' w w') := by
 have hT : Stp B M M w w := Stp.refl hlow
 have d_ho_hp := hne
 have hbn := numY_len n
 refine c_enter (n := 31) Try.func100 rfl rfl rfl ?_
 refine c_seq (c_blk ?_)
 refine c_loop4 (X := Nat) (Y := Value) (Z := Nat → Prop) (U := List UInt8) (fun z bv M1 l => [(0, .pointer (some ⟨bp, 0, none⟩)), (1, .int .u64 (z : Nat))]) (fun z bv M1 l w' => l ++ numY z = b ++ numY n ∧ z < 18446744073709551616 ∧ MB B M1 w' bp 125 [bv] ∧ OwnSl 5 B M1 w' bv l ∧ (∀ x, (bv : Value).ownBlock = some x → x ≠ bp) ∧ Stp B M M1 w w' ∧ Low M1 w' ∧ B ≤ w'.heap.size) (fun z bv M1 l => z) (n) (bv) (M) (b) (s2 rfl rfl) ?_ ?_
 ·exact ⟨rfl, hn, hp, ho, d_ho_hp, hT, hlow, hB⟩
 clear hp ho hne d_ho_hp hT hlow hB
 rintro z bv M1 l w1 ⟨hinv, hz, hp, ho, d_ho_hp, hT, hlow, hB⟩
 have hll : l.length ≤ b.length + 10 := by
  have := congrArg List.length hinv
  simp only [List.length_append] at this
  omega
 refine c_seq (q0 (l_p 2 tK rfl (q1 ?_)))
 refine c_ifP _ rfl (fun c1 => ?_) (fun c1 => ?_)
 ·refine c_skip (x_seq (c_seq (c_blk (c_reg (l_p 4 tK rfl ?_)))))
  refine lC (o_ld tK (hp.cell 0 _ rfl) rfl rfl rfl rfl rfl ?_)
  refine l_p 1 tK rfl ?_
  refine lC (o_conv (y := ((z % 256 : Nat) : Int)) tK rfl rfl rfl rfl rfl (wrap_u8 z) rfl rfl ?_)
  refine lC (o_or (r := ((UInt8.ofNat (128 + z % 128)).toNat : Int)) rfl rfl (by rw [show z % 128 = z % 256 % 128 by omega]; exact or_128 (show z % 256 < 256 by omega)) rfl rfl ?_)
  refine lC (o_bs tK rfl rfl rfl rfl rfl rfl rfl (sz1 rfl) rfl rfl rfl ?_)
  intro bw2 w2 qbw2 ew2 hbw2
  have nbw2 := nM_of hlow qbw2
  replace hT := hT.then (Stp.ext ew2 hlow hB)
  replace hp := hp.ext hlow hB ew2
  replace ho := ho.ext hlow hB ew2
  replace hlow := hlow.ext ew2
  replace hB := ew2.z hB
  refine lC (o_app1 tK ho hbw2 nbw2 (show Rep.R _ _ _ (UInt8.ofNat (128 + z % 128)) from rfl) hlow hB rfl rfl rfl rfl rfl rfl rfl (by omega) (by show (_ + _) * 1 ≤ _; omega) rfl rfl ?_)
  intro vw3 w3 Mw3 hw3 sw3 frw3 blw3
  have zd_ho_hp := d_ho_hp
  replace d_ho_hp : ∀ x, (vw3 : Value).ownBlock = some x → x ≠ bp := fun x hx => (blw3 x hx).elim (d_ho_hp x) (fun h e => by have := hp.lt; omega)
  replace hT := hT.then sw3
  replace hp := hp.stp sw3 (frw3 bp hp.lt (fun e => zd_ho_hp _ e.symm rfl))
  replace hlow := sw3.low
  replace hB := sw3.z hB
  replace ho := hw3
  clear hw3
  refine l_p 2 tK rfl ?_
  obtain ⟨a2, ca2, rfl, _⟩ := ho.val
  refine lC (o_st tK hp.box rfl rfl rfl rfl (by intro u hu; simp [Value.cells] at hu; subst hu; rfl) rfl rfl ?_)
  intro w4 hw4 qw4 bew4
  have uw4 : UpdB _ _ _ := ⟨qw4, bew4⟩
  have sw4 := uw4.stp hp.inM hlow hp.ge
  have frw4 := qw4.2
  replace hT := hT.then sw4
  replace ho := ho.stp sw4 (fun x hx => frw4 x (ho.lt x hx).2 (d_ho_hp x hx))
  replace hlow := sw4.low
  replace hB := sw4.z hB
  replace hp : MB B _ w4 bp _ [(.slice a2 (l ++ [UInt8.ofNat (128 + z % 128)]).length ca2)] := ⟨hw4, hp.inM, hp.ge⟩
  refine q2 (x_seq (c_reg (l_p 1 tK rfl ?_)))
  refine lC (o_shr7 rfl rfl rfl rfl ?_)
  refine l_p 1 tK rfl (l_nil ?_)
  exact x_round4 (z / 128) ((.slice a2 (l ++ [UInt8.ofNat (128 + z % 128)]).length ca2)) (Mw3) (l ++ [UInt8.ofNat (128 + z % 128)]) (s2 rfl rfl) ⟨by rw [← hinv, numY_step (show ¬ z < 128 by omega) hz, List.append_assoc]; rfl, by omega, hp, ho, d_ho_hp, hT, hlow, hB⟩ (by omega)
 refine c_exit (x_seqE (x_seqE (x_blkE (x_seq (c_reg (l_p 4 tK rfl ?_))))))
 refine lC (o_ld tK (hp.cell 0 _ rfl) rfl rfl rfl rfl rfl ?_)
 refine l_p 1 tK rfl ?_
 refine lC (o_conv (y := ((z % 256 : Nat) : Int)) tK rfl rfl rfl rfl rfl (wrap_u8 z) rfl rfl ?_)
 refine lC (o_bs tK rfl rfl rfl rfl rfl rfl rfl (sz1 rfl) rfl rfl rfl ?_)
 intro bw5 w5 qbw5 ew5 hbw5
 have nbw5 := nM_of hlow qbw5
 replace hT := hT.then (Stp.ext ew5 hlow hB)
 replace hp := hp.ext hlow hB ew5
 replace ho := ho.ext hlow hB ew5
 replace hlow := hlow.ext ew5
 replace hB := ew5.z hB
 refine lC (o_app1 tK ho hbw5 nbw5 (show Rep.R _ _ _ (UInt8.ofNat z) from (congrArg (fun m : Nat => Value.int .u8 (m : Int)) (UInt8.toNat_ofNat' (n := z)).symm)) hlow hB rfl rfl rfl rfl rfl rfl rfl (by omega) (by show (_ + _) * 1 ≤ _; omega) rfl rfl ?_)
 intro vw6 w6 Mw6 hw6 sw6 frw6 blw6
 have zd_ho_hp := d_ho_hp
 replace d_ho_hp : ∀ x, (vw6 : Value).ownBlock = some x → x ≠ bp := fun x hx => (blw6 x hx).elim (d_ho_hp x) (fun h e => by have := hp.lt; omega)
 replace hT := hT.then sw6
 replace hp := hp.stp sw6 (frw6 bp hp.lt (fun e => zd_ho_hp _ e.symm rfl))
 replace hlow := sw6.low
 replace hB := sw6.z hB
 replace ho := hw6
 clear hw6
 refine l_p 2 tK rfl ?_
 obtain ⟨a3, ca3, rfl, _⟩ := ho.val
 refine lC (o_st tK hp.box rfl rfl rfl rfl (by intro u hu; simp [Value.cells] at hu; subst hu; rfl) rfl rfl ?_)
 intro w7 hw7 qw7 bew7
 have uw7 : UpdB _ _ _ := ⟨qw7, bew7⟩
 have sw7 := uw7.stp hp.inM hlow hp.ge
 have frw7 := qw7.2
 replace hT := hT.then sw7
 replace ho := ho.stp sw7 (fun x hx => frw7 x (ho.lt x hx).2 (d_ho_hp x hx))
 replace hlow := sw7.low
 replace hB := sw7.z hB
 replace hp : MB B _ w7 bp _ [(.slice a3 (l ++ [UInt8.ofNat z]).length ca3)] := ⟨hw7, hp.inM, hp.ge⟩
 refine l_nil ?_
 refine x_ret0n rfl ?_
 rw [numY_small (show z < 128 by omega)] at hinv
 refine ⟨rfl, _, _, hp, ?_, d_ho_hp, hT⟩
 rw [← hinv]; exact ho
theorem penText_spec (s : ByteArray) (hs : s.size < 140737488355328) (b : List UInt8) (M : Nat → Prop) (w : World) (B bp : Nat) (bv : Value) (hp : MB B M w bp 125 [bv]) (ho : OwnSl 5 B M w bv b) (hne : ∀ x, (bv : Value).ownBlock = some x → x ≠ bp) (hlow : Low M w) (hB : B ≤ w.heap.size) (hl : b.length + s.size ≤ 999999999900) :
  Calls Try.prog 71 #[.pointer (some ⟨bp, 0, none⟩), .string s] w (Ret fun r w' => r = .tuple #[] ∧ ∃ M' bv', MB B M' w' bp 125 [bv'] ∧ OwnSl 5 B M' w' bv' (b ++ textB s) ∧ (∀ x, (bv' : Value).ownBlock = some x → x ≠ bp) ∧ Stp B M M' w w') := by
 have hT : Stp B M M w w := Stp.refl hlow
 have d_ho_hp := hne
 have hbn := numY_len s.size
 refine c_enter (n := 18) Try.func71 rfl rfl rfl ?_
 refine q0 (l_p 3 tK rfl ?_)
 refine lC (o_conv (y := ((s.size : Nat) : Int)) tK rfl rfl rfl rfl rfl ((wrap_u64 _).trans (by rw [u64_nat (by omega)])) rfl rfl ?_)
 refine lC (o_call fo100 rfl rfl rfl (penNum_spec s.size (by omega) b _ _ B bp _ hp ho d_ho_hp hlow hB (by omega)) ?_)
 rintro _ w1 ⟨rfl, Mw1, vw1, hpw1, how1, new1, sw1⟩
 replace hT := hT.then sw1
 replace hlow := sw1.low
 replace hB := sw1.z hB
 replace hp := hpw1
 replace ho := how1
 replace d_ho_hp := new1
 clear hpw1 how1 new1
 refine q1 (c_reg (l_p 4 tK rfl ?_))
 refine lC (o_ld tK (hp.cell 0 _ rfl) rfl rfl rfl rfl rfl ?_)
 refine l_p 1 tK rfl ?_
 refine lC (o_appS tK ho hlow hB rfl rfl rfl rfl rfl rfl rfl rfl rfl (by simp; omega) (by show (_ + _) * 1 ≤ _; simp; omega) rfl rfl ?_)
 intro vw2 w2 Mw2 hw2 sw2 frw2 blw2
 have zd_ho_hp := d_ho_hp
 replace d_ho_hp : ∀ x, (vw2 : Value).ownBlock = some x → x ≠ bp := fun x hx => (blw2 x hx).elim (d_ho_hp x) (fun h e => by have := hp.lt; omega)
 replace hT := hT.then sw2
 replace hp := hp.stp sw2 (frw2 bp hp.lt (fun e => zd_ho_hp _ e.symm rfl))
 replace hlow := sw2.low
 replace hB := sw2.z hB
 replace ho := hw2
 clear hw2
 refine l_p 2 tK rfl ?_
 obtain ⟨a1, ca1, rfl, _⟩ := ho.val
 refine lC (o_st tK hp.box rfl rfl rfl rfl (by intro u hu; simp [Value.cells] at hu; subst hu; rfl) rfl rfl ?_)
 intro w3 hw3 qw3 bew3
 have uw3 : UpdB _ _ _ := ⟨qw3, bew3⟩
 have sw3 := uw3.stp hp.inM hlow hp.ge
 have frw3 := qw3.2
 replace hT := hT.then sw3
 replace ho := ho.stp sw3 (fun x hx => frw3 x (ho.lt x hx).2 (d_ho_hp x hx))
 replace hlow := sw3.low
 replace hB := sw3.z hB
 replace hp : MB B _ w3 bp _ [(.slice a1 (b ++ numY s.size ++ s.data.toList).length ca1)] := ⟨hw3, hp.inM, hp.ge⟩
 refine l_nil ?_
 refine x_ret0n rfl ?_
 refine ⟨rfl, _, _, hp, ?_, d_ho_hp, hT⟩
 rw [textB, ← List.append_assoc]; exact ho
theorem penKind_spec : ∀ (t : Ty) (b : List UInt8) (M : Nat → Prop) (w : World) (B bp : Nat) (bv : Value), MB B M w bp 125 [bv] → OwnSl 5 B M w bv b → (∀ x, (bv : Value).ownBlock = some x → x ≠ bp) → Low M w → B ≤ w.heap.size → ∀ (v : Value), Rep.R M w v t → b.length + (typeB t).length ≤ 999999999000 → Calls Try.prog 83 #[.pointer (some ⟨bp, 0, none⟩), v] w (Ret fun r w' => r = .tuple #[] ∧ ∃ M' bv', MB B M' w' bp 125 [bv'] ∧ OwnSl 5 B M' w' bv' (b ++ typeB t) ∧ (∀ x, (bv' : Value).ownBlock = some x → x ≠ bp) ∧ Stp B M M' w w') := by
 refine Ty.ind fun t ih => ?_
 intro b M w B bp bv hp ho hne hlow hB v ht hl
 have hT : Stp B M M w w := Stp.refl hlow
 have d_ho_hp := hne
 obtain ⟨kv, rfl, op, nm, n64, hk⟩ := ty_open ht
 have hlt := hk.lt
 have hle := congrArg List.length (typeB_eq t)
 rw [List.length_append] at hle
 refine c_enter (n := 44) Try.func83 rfl rfl rfl ?_
 refine q0 ?_
 refine lC (o_box rfl rfl rfl ?_)
 intro b3 w1 hb_b3 ew1 h3
 replace h3 : Box _ b3 40 [.int .u8 t.op, .string t.name, .int .i64 t.n, kv] := h3
 replace h3 := h3.at (nM_of hlow hb_b3)
 replace hT := hT.then (Stp.ext ew1 hlow hB)
 replace hp := hp.ext hlow hB ew1
 replace ho := ho.ext hlow hB ew1
 replace ht := Rep.ext ht ew1
 replace hk := hk.ext ew1
 replace hlow := hlow.ext ew1
 replace hB := ew1.z hB
 refine q1 (c_seq ?_)
 refine a_beg (Sof2 B M bp) rfl ?_
 intro w2 ew2
 replace hT := hT.then (Stp.ext ew2 hlow hB)
 replace hp := hp.ext hlow hB ew2
 replace ho := ho.ext hlow hB ew2
 replace ht := Rep.ext ht ew2
 replace hk := hk.ext ew2
 replace h3 := h3.ext ew2
 replace hlow := hlow.ext ew2
 replace hB := ew2.z hB
 have hS : Stp B M M w2 w2 := Stp.refl hlow
 have D_hp := hp.box
 have D_hk := hk
 have D_h3 := h3
 refine a_p 0 tK rfl rfl rfl rfl (by kernel_rfl) (fun _ _ _ h => h) ⟨⟨_, hS⟩, hp.box.heap.trans D_hp.heap.symm⟩ ?_
 refine a_p 1 tK rfl rfl rfl rfl (by kernel_rfl) (fun _ _ _ h => h) ⟨⟨_, hS⟩, hp.box.heap.trans D_hp.heap.symm⟩ ?_
 refine a_p 2 tK rfl rfl rfl rfl (by kernel_rfl) (fun _ _ _ h => h) ⟨⟨_, hS⟩, hp.box.heap.trans D_hp.heap.symm⟩ ?_
 refine a_p 3 tK rfl rfl rfl rfl (by kernel_rfl) (fun _ _ _ h => h) ⟨⟨_, hS⟩, hp.box.heap.trans D_hp.heap.symm⟩ ?_
 refine a_ld 4 tK (fun _ hs => (D_hp.so2 hs).cell 0 _ rfl) rfl rfl rfl rfl rfl rfl (by kernel_rfl) (fun _ _ _ h => h) ⟨⟨_, hS⟩, hp.box.heap.trans D_hp.heap.symm⟩ ?_
 refine a_p 5 tK rfl rfl rfl rfl (by kernel_rfl) (fun _ _ _ h => h) ⟨⟨_, hS⟩, hp.box.heap.trans D_hp.heap.symm⟩ ?_
 refine a_ld 6 tK (fun _ hs => (D_h3.so2 hs).cell 0 _ rfl) rfl rfl rfl rfl rfl rfl (by kernel_rfl) (fun _ _ _ h => h) ⟨⟨_, hS⟩, hp.box.heap.trans D_hp.heap.symm⟩ ?_
 refine a_one 7 rfl (by kernel_rfl) (o_bs tK rfl rfl rfl rfl rfl rfl rfl (sz1 rfl) rfl rfl rfl ?_)
 intro bw3 w3 qbw3 ew3 hbw3
 have nbw3 := nM_of hlow qbw3
 replace hT := hT.then (Stp.ext ew3 hlow hB)
 replace hS := hS.then (Stp.ext ew3 hlow hB)
 replace hp := hp.ext hlow hB ew3
 replace ho := ho.ext hlow hB ew3
 replace ht := Rep.ext ht ew3
 replace hk := hk.ext ew3
 replace h3 := h3.ext ew3
 replace hlow := hlow.ext ew3
 replace hB := ew3.z hB
 refine ⟨⟨⟨_, hS⟩, hp.box.heap.trans D_hp.heap.symm⟩, ?_⟩
 refine a_one 8 rfl (by kernel_rfl) (o_app1 tK ho hbw3 nbw3 (show Rep.R _ _ _ (UInt8.ofNat t.op.toNat) from op_byte op) hlow hB rfl rfl rfl rfl rfl rfl rfl (by omega) (by show (_ + _) * 1 ≤ _; omega) rfl rfl ?_)
 intro vw4 w4 Mw4 hw4 sw4 frw4 blw4
 have zd_ho_hp := d_ho_hp
 replace d_ho_hp : ∀ x, (vw4 : Value).ownBlock = some x → x ≠ bp := fun x hx => (blw4 x hx).elim (d_ho_hp x) (fun h e => by have := hp.lt; omega)
 replace hT := hT.then sw4
 replace hS := hS.then sw4
 replace hp := hp.stp sw4 (frw4 bp hp.lt (fun e => zd_ho_hp _ e.symm rfl))
 replace ht := Rep.stp ht sw4
 replace hk := hk.stp sw4
 replace h3 := h3.stp sw4
 replace hlow := sw4.low
 replace hB := sw4.z hB
 refine ⟨⟨⟨_, hS⟩, hp.box.heap.trans D_hp.heap.symm⟩, ?_⟩
 replace ho := hw4
 clear hw4
 refine a_p 9 tK rfl rfl rfl rfl (by kernel_rfl) (fun _ _ _ h => h) ⟨⟨_, hS⟩, hp.box.heap.trans D_hp.heap.symm⟩ ?_
 refine a_p 10 tK rfl rfl rfl rfl (by kernel_rfl) (fun _ _ _ h => h) ⟨⟨_, hS⟩, hp.box.heap.trans D_hp.heap.symm⟩ ?_
 obtain ⟨a1, ca1, rfl, _⟩ := ho.val
 refine a_bar 11 rfl (by kernel_rfl) (by kernel_rfl) (o_st tK hp.box rfl rfl rfl rfl (by intro u hu; simp [Value.cells] at hu; subst hu; rfl) rfl rfl ?_)
 intro w5 hw5 qw5 bew5
 have uw5 : UpdB _ _ _ := ⟨qw5, bew5⟩
 have sw5 := uw5.stp hp.inM hlow hp.ge
 have frw5 := qw5.2
 replace hT := hT.then sw5
 replace hS := hS.then sw5
 replace ho := ho.stp sw5 (fun x hx => frw5 x (ho.lt x hx).2 (d_ho_hp x hx))
 replace ht := Rep.stp ht sw5
 replace hk := hk.stp sw5
 replace h3 := h3.stp sw5
 replace hlow := sw5.low
 replace hB := sw5.z hB
 replace hp : MB B _ w5 bp _ [(.slice a1 (b ++ [UInt8.ofNat t.op.toNat]).length ca1)] := ⟨hw5, hp.inM, hp.ge⟩
 refine a_end (by kernel_rfl) ?_
 refine x_seq ?_
 refine c_cut2 (X := Value) (Y := Nat → Prop) (fun bv M1 => [(0, .pointer (some ⟨bp, 0, none⟩)), (3, .pointer (some ⟨b3, 0, none⟩))]) (fun bv M1 w' => MB B M1 w' bp 125 [bv] ∧ OwnSl 5 B M1 w' bv (b ++ headY t.op t.name t.n) ∧ (∀ x, (bv : Value).ownBlock = some x → x ≠ bp) ∧ Stp B M M1 w w' ∧ Low M1 w' ∧ B ≤ w'.heap.size ∧ At M1 w' b3 0 [.int .u8 t.op, .string t.name, .int .i64 t.n, kv] ∧ Sl M1 w' kv t.kids) ?_ ?_
 ·refine q0 (l_p 1 tK rfl ?_)
  refine lC (o_ld tK (h3.cell 0 _ rfl) rfl rfl rfl rfl rfl ?_)
  refine q1 (c_blk (c_seq (q0 (l_p 2 tK rfl (q1 ?_)))))
  refine c_splitP 19 _ rfl (fun c2 => c_ifT rfl ?_) (fun c2 => c_ifF rfl ?_)
  ·refine c_skip (x_seq (c_ifT rfl (c_reg (l_p 2 tK rfl ?_))))
   refine lC (o_ld tK (h3.cell 2 _ rfl) rfl rfl rfl rfl rfl ?_)
   refine lC (o_conv tK rfl rfl rfl rfl rfl (wrap_u64 _) rfl rfl ?_)
   refine lC (o_call fo100 rfl rfl rfl (penNum_spec (u64 t.n) (u64_lt _) _ _ _ B bp _ hp ho d_ho_hp hlow hB (by simp only [List.length_append, List.length_cons, List.length_nil]; omega)) ?_)
   rintro _ w6 ⟨rfl, Mw6, vw6, hpw6, how6, new6, sw6⟩
   replace hT := hT.then sw6
   replace ht := Rep.stp ht sw6
   replace hk := hk.stp sw6
   replace h3 := h3.stp sw6
   replace hlow := sw6.low
   replace hB := sw6.z hB
   replace hp := hpw6
   replace ho := how6
   replace d_ho_hp := new6
   clear hpw6 how6 new6
   refine q2 ?_
   exact x_cut2 (vw6) (Mw6) (s2 rfl rfl) ⟨hp, by rw [headY_num (by omega)]; exact ho, d_ho_hp, hT, hlow, hB, h3, hk⟩
  refine c_reg (l_p 2 tK rfl (q1 ?_))
  refine c_splitP 19 _ rfl (fun c3 => c_ifT rfl ?_) (fun c3 => c_ifF rfl ?_)
  ·refine c_reg (l_p 2 tK rfl ?_)
   refine lC (o_ld tK (h3.cell 2 _ rfl) rfl rfl rfl rfl rfl ?_)
   refine lC (o_conv tK rfl rfl rfl rfl rfl (wrap_u64 _) rfl rfl ?_)
   refine lC (o_call fo100 rfl rfl rfl (penNum_spec (u64 t.n) (u64_lt _) _ _ _ B bp _ hp ho d_ho_hp hlow hB (by simp only [List.length_append, List.length_cons, List.length_nil]; omega)) ?_)
   rintro _ w7 ⟨rfl, Mw7, vw7, hpw7, how7, new7, sw7⟩
   replace hT := hT.then sw7
   replace ht := Rep.stp ht sw7
   replace hk := hk.stp sw7
   replace h3 := h3.stp sw7
   replace hlow := sw7.low
   replace hB := sw7.z hB
   replace hp := hpw7
   replace ho := how7
   replace d_ho_hp := new7
   clear hpw7 how7 new7
   refine q2 ?_
   exact x_cut2 (vw7) (Mw7) (s2 rfl rfl) ⟨hp, by rw [headY_num (by omega)]; exact ho, d_ho_hp, hT, hlow, hB, h3, hk⟩
  refine q0 (l_p 2 tK rfl (q1 ?_))
  refine c_ifP _ rfl (fun c4 => ?_) (fun c4 => ?_)
  ·refine c_reg (l_p 2 tK rfl ?_)
   refine lC (o_ld tK (h3.cell 1 _ rfl) rfl rfl rfl rfl rfl ?_)
   have htx : (headY t.op t.name t.n).length = (textB t.name).length + 1 := by rw [headY, if_neg (by omega), if_pos (by omega)]; rfl
   have htz : (textB t.name).length = (numY t.name.size).length + t.name.size := by simp [textB]
   refine lC (o_call fo71 rfl rfl rfl (penText_spec t.name nm _ _ _ B bp _ hp ho d_ho_hp hlow hB (by simp only [List.length_append, List.length_cons, List.length_nil]; omega)) ?_)
   rintro _ w8 ⟨rfl, Mw8, vw8, hpw8, how8, new8, sw8⟩
   replace hT := hT.then sw8
   replace ht := Rep.stp ht sw8
   replace hk := hk.stp sw8
   replace h3 := h3.stp sw8
   replace hlow := sw8.low
   replace hB := sw8.z hB
   replace hp := hpw8
   replace ho := how8
   replace d_ho_hp := new8
   clear hpw8 how8 new8
   refine q2 ?_
   exact x_cut2 (vw8) (Mw8) (s2 rfl rfl) ⟨hp, by rw [headY_text (by omega)]; exact ho, d_ho_hp, hT, hlow, hB, h3, hk⟩
  refine c_skip (x_blk ?_)
  exact x_cut2 ((.slice a1 (b ++ [UInt8.ofNat t.op.toNat]).length ca1)) (Mw4) (s2 rfl rfl) ⟨hp, by rw [headY_none (by omega)]; exact ho, d_ho_hp, hT, hlow, hB, h3, hk⟩
 clear hp ho hne d_ho_hp hT hlow hB h3 hk ht
 rintro bv M1 w80 ⟨hp, ho, d_ho_hp, hT, hlow, hB, h3, hk⟩
 refine q0 (l_p 1 tK rfl ?_)
 refine lC (o_ld tK (h3.cell 3 _ rfl) rfl rfl rfl rfl rfl ?_)
 refine lC (o_len tK hk rfl rfl rfl rfl rfl ?_)
 refine l_p 1 tK rfl (q1 (c_blk ?_))
 refine c_loop3 (X := Nat) (Y := Value) (Z := Nat → Prop) (fun i bv M1 => [(0, .pointer (some ⟨bp, 0, none⟩)), (34, kv), (35, .int .i64 (t.kids.length : Int)), (36, .int .i64 (i : Nat))]) (fun i bv M1 w' => i ≤ t.kids.length ∧ MB B M1 w' bp 125 [bv] ∧ OwnSl 5 B M1 w' bv ((b ++ headY t.op t.name t.n) ++ (t.kids.take i).flatMap typeB) ∧ (∀ x, (bv : Value).ownBlock = some x → x ≠ bp) ∧ Stp B M M1 w w' ∧ Low M1 w' ∧ B ≤ w'.heap.size ∧ Sl M1 w' kv t.kids) (fun i bv M1 => t.kids.length - i) (0) (bv) (M1) (s4 rfl rfl rfl rfl) ?_ ?_
 ·exact ⟨Nat.zero_le _, hp, by simpa using ho, d_ho_hp, hT, hlow, hB, hk⟩
 clear hp ho d_ho_hp hT hlow hB hk
 rintro i bv M1 w9 ⟨hi, hp, ho, d_ho_hp, hT, hlow, hB, hk⟩
 have hft := flat_take_len (f := typeB) (l := t.kids) i
 refine q0 (l_p 1 tK rfl (q1 (c_seq ?_)))
 refine c_ifP _ rfl (fun c5 => ?_) (fun c5 => ?_)
 ·refine c_skip (x_seq (c_seq (c_blk (q0 ?_))))
  have hik : i < t.kids.length := by omega
  have hf1 := flat_take_len (f := typeB) (l := t.kids) (i + 1)
  rw [flat_step hik, List.length_append] at hf1
  refine lC (o_ixS tK hk (List.getElem?_eq_getElem hik) rfl rfl rfl rfl rfl rfl rfl rfl rfl ?_)
  intro ebx eox eux hyx hatx
  obtain ⟨kvx, rfl, opx, nmx, n64x, hkx⟩ := ty_open hyx
  replace hatx : At M1 w9 ebx eox [.int .u8 t.kids[i].op, .string t.kids[i].name, .int .i64 t.kids[i].n, kvx] := hatx
  refine lC (o_lds tK (fun j v hv => hatx.cell j v hv) rfl rfl rfl rfl rfl rfl ?_)
  refine lC (o_new tK rfl rfl rfl ?_)
  intro b5 w10 qb5 ew10 hb5
  have nb5 := nM_of hlow qb5
  refine lC (o_st tK hb5 rfl rfl rfl rfl (Rep.one hyx) rfl rfl ?_)
  intro w11 h5 uw11 bew11
  have ew11 : Ext w9 w11 := ew10.trans (bew11 _ (Nat.le_of_eq qb5.symm))
  replace hT := hT.then (Stp.ext ew11 hlow hB)
  replace hp := hp.ext hlow hB ew11
  replace ho := ho.ext hlow hB ew11
  replace hk := hk.ext ew11
  replace hyx := Rep.ext hyx ew11
  replace hkx := hkx.ext ew11
  replace hatx := hatx.ext ew11
  replace hlow := hlow.ext ew11
  replace hB := ew11.z hB
  replace h5 : Box w11 b5 40 [.int .u8 t.kids[i].op, .string t.kids[i].name, .int .i64 t.kids[i].n, kvx] := h5
  replace h5 := h5.at nb5
  refine q1 (c_reg (l_p 1 tK rfl ?_))
  refine lC (o_lds tK (fun j v hv => h5.cell j v hv) rfl rfl rfl rfl rfl rfl ?_)
  refine lC (o_call fo83 rfl rfl rfl (ih _ (List.getElem_mem hik) _ _ _ B bp _ hp ho d_ho_hp hlow hB _ hyx (by simp only [List.length_append] at hle ⊢; omega)) ?_)
  rintro _ w12 ⟨rfl, Mw12, vw12, hpw12, how12, new12, sw12⟩
  replace hT := hT.then sw12
  replace hk := hk.stp sw12
  replace hyx := Rep.stp hyx sw12
  replace hkx := hkx.stp sw12
  replace hatx := hatx.stp sw12
  replace h5 := h5.stp sw12
  replace hlow := sw12.low
  replace hB := sw12.z hB
  replace hp := hpw12
  replace ho := how12
  replace d_ho_hp := new12
  clear hpw12 how12 new12
  refine q2 (x_seq (c_reg ?_))
  refine lC (o_ai rfl rfl rfl (by omega) rfl rfl ?_)
  refine l_p 1 tK rfl (l_nil ?_)
  exact x_round3 (i + 1) (vw12) (Mw12) (s4 rfl rfl rfl (get_num rfl (by omega))) ⟨by omega, hp, by rw [flat_step hik, ← List.append_assoc]; exact ho, d_ho_hp, hT, hlow, hB, hk⟩ (by omega)
 refine c_exit (x_seqE (x_seqE (x_blkE ?_)))
 refine x_ret0n rfl ?_
 obtain rfl : i = t.kids.length := by omega
 rw [List.take_of_length_le (Nat.le_refl _), List.append_assoc, ← typeB_eq] at ho
 exact ⟨rfl, _, _, hp, ho, d_ho_hp, hT⟩
theorem prt_spec (op : Int) (w : World) :
  Calls Try.prog 104 #[.int .u8 op] w (Ret fun r w' => r = .tuple #[.bool (prt op).1, .bool (prt op).2.1, .bool (prt op).2.2.1, .int .i64 (prt op).2.2.2] ∧ w = w') := by
 refine c_enter (n := 30) Try.func104 rfl rfl rfl ?_
 refine q0 (l_p 4 tK rfl (q1 (c_seq (q0 (l_p 1 tK rfl (q1 (c_blk (c_seq (q0 (l_p 2 tK rfl (q1 ?_)))))))))))
 refine c_splitP 7 _ rfl (fun c1 => c_ifT rfl ?_) (fun c1 => c_ifF rfl ?_)
 ·refine c_skip (x_seq (c_ifT rfl (q0 (l_p 4 tK rfl (q1 (c_ret (x_blkR (x_seqR ?_))))))))
  refine x_ret4 rfl rfl rfl rfl rfl ?_
  subst c1
  exact ⟨rfl, rfl⟩
 refine q0 (l_p 2 tK rfl (q1 ?_))
 refine c_splitP 7 _ rfl (fun c2 => c_ifT rfl ?_) (fun c2 => c_ifF rfl ?_)
 ·refine c_skip (x_seq (c_ifT rfl (q0 (l_p 4 tK rfl (q1 (c_ret (x_blkR (x_seqR ?_))))))))
  refine x_ret4 rfl rfl rfl rfl rfl ?_
  subst c2
  exact ⟨rfl, rfl⟩
 refine q0 (l_p 2 tK rfl (q1 ?_))
 refine c_splitP 7 _ rfl (fun c3 => c_ifT rfl ?_) (fun c3 => c_ifF rfl ?_)
 ·refine c_skip (x_seq (c_ifT rfl (q0 (l_p 4 tK rfl (q1 (c_ret (x_blkR (x_seqR ?_))))))))
  refine x_ret4 rfl rfl rfl rfl rfl ?_
  subst c3
  exact ⟨rfl, rfl⟩
 refine q0 (l_p 2 tK rfl (q1 ?_))
 refine c_splitP 7 _ rfl (fun c4 => c_ifT rfl ?_) (fun c4 => c_ifF rfl ?_)
 ·refine c_skip (x_seq (c_ifT rfl (q0 (l_p 4 tK rfl (q1 (c_ret (x_blkR (x_seqR ?_))))))))
  refine x_ret4 rfl rfl rfl rfl rfl ?_
  subst c4
  exact ⟨rfl, rfl⟩
 refine q0 (l_p 2 tK rfl (q1 ?_))
 refine c_splitP 7 _ rfl (fun c5 => c_ifT rfl ?_) (fun c5 => c_ifF rfl ?_)
 ·refine c_skip (x_seq (c_ifT rfl (q0 (l_p 4 tK rfl (q1 (c_ret (x_blkR (x_seqR ?_))))))))
  refine x_ret4 rfl rfl rfl rfl rfl ?_
  subst c5
  exact ⟨rfl, rfl⟩
 refine q0 (l_p 2 tK rfl (q1 ?_))
 refine c_splitP 7 _ rfl (fun c6 => c_ifT rfl ?_) (fun c6 => c_ifF rfl ?_)
 ·refine c_skip (x_seq (c_ifT rfl (q0 (l_p 4 tK rfl (q1 (c_ret (x_blkR (x_seqR ?_))))))))
  refine x_ret4 rfl rfl rfl rfl rfl ?_
  subst c6
  exact ⟨rfl, rfl⟩
 refine q0 (l_p 2 tK rfl (q1 ?_))
 refine c_splitP 7 _ rfl (fun c7 => c_ifT rfl ?_) (fun c7 => c_ifF rfl ?_)
 ·refine c_skip (x_seq (c_ifT rfl (q0 (l_p 4 tK rfl (q1 (c_ret (x_blkR (x_seqR ?_))))))))
  refine x_ret4 rfl rfl rfl rfl rfl ?_
  subst c7
  exact ⟨rfl, rfl⟩
 refine q0 (l_p 2 tK rfl (q1 ?_))
 refine c_splitP 7 _ rfl (fun c8 => c_ifT rfl ?_) (fun c8 => c_ifF rfl ?_)
 ·refine c_skip (x_seq (c_ifT rfl (q0 (l_p 4 tK rfl (q1 (c_ret (x_blkR (x_seqR ?_))))))))
  refine x_ret4 rfl rfl rfl rfl rfl ?_
  subst c8
  exact ⟨rfl, rfl⟩
 refine c_reg (l_p 2 tK rfl (q1 ?_))
 refine c_splitP 7 _ rfl (fun c9 => c_ifT rfl ?_) (fun c9 => c_ifF rfl ?_)
 ·refine q0 (l_p 4 tK rfl (q1 (c_ret (x_blkR (x_seqR ?_)))))
  refine x_ret4 rfl rfl rfl rfl rfl ?_
  subst c9
  exact ⟨rfl, rfl⟩
 refine c_seq (q0 (l_p 2 tK rfl (q1 ?_)))
 refine c_splitP 17 _ rfl (fun c10 => c_ifT rfl ?_) (fun c10 => c_ifF rfl ?_)
 ·refine c_skip (x_seq (c_ifT rfl (q0 (l_p 4 tK rfl (q1 (c_ret (x_blkR (x_seqR ?_))))))))
  refine x_ret4 rfl rfl rfl rfl rfl ?_
  subst c10
  exact ⟨rfl, rfl⟩
 refine c_reg (l_p 2 tK rfl (q1 ?_))
 refine c_splitP 17 _ rfl (fun c11 => c_ifT rfl ?_) (fun c11 => c_ifF rfl ?_)
 ·refine q0 (l_p 4 tK rfl (q1 (c_ret (x_blkR (x_seqR ?_)))))
  refine x_ret4 rfl rfl rfl rfl rfl ?_
  subst c11
  exact ⟨rfl, rfl⟩
 refine q0 (l_p 2 tK rfl (q1 ?_))
 refine c_ifP _ rfl (fun c12 => ?_) (fun c12 => ?_)
 ·refine q0 (l_p 4 tK rfl (q1 (c_ret (x_blkR (x_seqR ?_)))))
  refine x_ret4 rfl rfl rfl rfl rfl ?_
  subst c12
  exact ⟨rfl, rfl⟩
 refine q0 (l_p 2 tK rfl (q1 ?_))
 refine c_ifP _ rfl (fun c13 => ?_) (fun c13 => ?_)
 ·refine q0 (l_p 4 tK rfl (q1 (c_ret (x_blkR (x_seqR ?_)))))
  refine x_ret4 rfl rfl rfl rfl rfl ?_
  subst c13
  exact ⟨rfl, rfl⟩
 refine q0 (l_p 2 tK rfl (q1 ?_))
 refine c_ifP _ rfl (fun c14 => ?_) (fun c14 => ?_)
 ·refine q0 (l_p 4 tK rfl (q1 (c_ret (x_blkR (x_seqR ?_)))))
  refine x_ret4 rfl rfl rfl rfl rfl ?_
  subst c14
  exact ⟨rfl, rfl⟩
 refine q0 (l_p 2 tK rfl (q1 ?_))
 refine c_ifP _ rfl (fun c15 => ?_) (fun c15 => ?_)
 ·refine q0 (l_p 4 tK rfl (q1 (c_ret (x_blkR (x_seqR ?_)))))
  refine x_ret4 rfl rfl rfl rfl rfl ?_
  subst c15
  exact ⟨rfl, rfl⟩
 refine q0 (l_p 2 tK rfl (q1 ?_))
 refine c_ifP _ rfl (fun c16 => ?_) (fun c16 => ?_)
 ·refine q0 (l_p 4 tK rfl (q1 (c_ret (x_blkR (x_seqR ?_)))))
  refine x_ret4 rfl rfl rfl rfl rfl ?_
  subst c16
  exact ⟨rfl, rfl⟩
 refine c_skip (x_blk (x_seq (q0 (l_p 4 tK rfl (q1 (c_ret ?_))))))
 refine x_ret4 rfl rfl rfl rfl rfl ?_
 exact ⟨by unfold prt; simp [*], rfl⟩
theorem cnt_spec (op : Int) (w : World) :
  Calls Try.prog 105 #[.int .u8 op] w (Ret fun r w' => r = .int .i64 (cnt op) ∧ w = w') := by
 refine c_enter (n := 19) Try.func105 rfl rfl rfl ?_
 refine q0 (l_p 1 tK rfl (q1 (c_seq (q0 (l_p 1 tK rfl (q1 (c_blk (c_seq (q0 (l_p 2 tK rfl (q1 ?_)))))))))))
 refine c_splitP 4 _ rfl (fun c1 => c_ifT rfl ?_) (fun c1 => c_ifF rfl ?_)
 ·refine c_skip (x_seq (c_ifT rfl (q0 (l_p 1 tK rfl (q1 (c_ret (x_blkR (x_seqR (x_ret1 rfl rfl ?_)))))))))
  subst c1
  exact ⟨rfl, rfl⟩
 refine q0 (l_p 2 tK rfl (q1 ?_))
 refine c_splitP 4 _ rfl (fun c2 => c_ifT rfl ?_) (fun c2 => c_ifF rfl ?_)
 ·refine c_skip (x_seq (c_ifT rfl (q0 (l_p 1 tK rfl (q1 (c_ret (x_blkR (x_seqR (x_ret1 rfl rfl ?_)))))))))
  subst c2
  exact ⟨rfl, rfl⟩
 refine q0 (l_p 2 tK rfl (q1 ?_))
 refine c_splitP 4 _ rfl (fun c3 => c_ifT rfl ?_) (fun c3 => c_ifF rfl ?_)
 ·refine c_skip (x_seq (c_ifT rfl (q0 (l_p 1 tK rfl (q1 (c_ret (x_blkR (x_seqR (x_ret1 rfl rfl ?_)))))))))
  subst c3
  exact ⟨rfl, rfl⟩
 refine c_reg (l_p 2 tK rfl (q1 ?_))
 refine c_splitP 4 _ rfl (fun c4 => c_ifT rfl ?_) (fun c4 => c_ifF rfl ?_)
 ·refine q0 (l_p 1 tK rfl (q1 (c_ret (x_blkR (x_seqR (x_ret1 rfl rfl ?_))))))
  subst c4
  exact ⟨rfl, rfl⟩
 refine c_seq (q0 (l_p 2 tK rfl (q1 ?_)))
 refine c_splitP 9 _ rfl (fun c5 => c_ifT rfl ?_) (fun c5 => c_ifF rfl ?_)
 ·refine c_skip (x_seq (c_ifT rfl (q0 (l_p 1 tK rfl (q1 (c_ret (x_blkR (x_seqR (x_ret1 rfl rfl ?_)))))))))
  subst c5
  exact ⟨rfl, rfl⟩
 refine q0 (l_p 2 tK rfl (q1 ?_))
 refine c_splitP 9 _ rfl (fun c6 => c_ifT rfl ?_) (fun c6 => c_ifF rfl ?_)
 ·refine c_skip (x_seq (c_ifT rfl (q0 (l_p 1 tK rfl (q1 (c_ret (x_blkR (x_seqR (x_ret1 rfl rfl ?_)))))))))
  subst c6
  exact ⟨rfl, rfl⟩
 refine q0 (l_p 2 tK rfl (q1 ?_))
 refine c_splitP 9 _ rfl (fun c7 => c_ifT rfl ?_) (fun c7 => c_ifF rfl ?_)
 ·refine c_skip (x_seq (c_ifT rfl (q0 (l_p 1 tK rfl (q1 (c_ret (x_blkR (x_seqR (x_ret1 rfl rfl ?_)))))))))
  subst c7
  exact ⟨rfl, rfl⟩
 refine q0 (l_p 2 tK rfl (q1 ?_))
 refine c_splitP 9 _ rfl (fun c8 => c_ifT rfl ?_) (fun c8 => c_ifF rfl ?_)
 ·refine c_skip (x_seq (c_ifT rfl (q0 (l_p 1 tK rfl (q1 (c_ret (x_blkR (x_seqR (x_ret1 rfl rfl ?_)))))))))
  subst c8
  exact ⟨rfl, rfl⟩
 refine c_reg (l_p 2 tK rfl (q1 ?_))
 refine c_splitP 9 _ rfl (fun c9 => c_ifT rfl ?_) (fun c9 => c_ifF rfl ?_)
 ·refine q0 (l_p 1 tK rfl (q1 (c_ret (x_blkR (x_seqR (x_ret1 rfl rfl ?_))))))
  subst c9
  exact ⟨rfl, rfl⟩
 refine q0 (l_p 2 tK rfl (q1 ?_))
 refine c_ifP _ rfl (fun c10 => ?_) (fun c10 => ?_)
 ·refine q0 (l_p 1 tK rfl (q1 (c_ret (x_blkR (x_seqR (x_ret1 rfl rfl ?_))))))
  subst c10
  exact ⟨rfl, rfl⟩
 refine q0 (l_p 2 tK rfl (q1 ?_))
 refine c_ifP _ rfl (fun c11 => ?_) (fun c11 => ?_)
 ·refine q0 (l_p 1 tK rfl (q1 (c_ret (x_blkR (x_seqR (x_ret1 rfl rfl ?_))))))
  subst c11
  exact ⟨rfl, rfl⟩
 refine c_skip (x_blk (x_seq (q0 (l_p 1 tK rfl (q1 (c_ret (x_ret1 rfl rfl ?_)))))))
 exact ⟨by unfold cnt; simp [*], rfl⟩
theorem penTerm_spec : ∀ (t : Tm) (b : List UInt8) (M : Nat → Prop) (w : World) (B bp : Nat) (bv : Value), MB B M w bp 125 [bv] → OwnSl 5 B M w bv b → (∀ x, (bv : Value).ownBlock = some x → x ≠ bp) → Low M w → B ≤ w.heap.size → ∀ (v : Value), Rep.R M w v t → b.length + (termB t).length ≤ 999999998000 → Calls Try.prog 82 #[.pointer (some ⟨bp, 0, none⟩), v] w (Ret fun r w' => r = .tuple #[] ∧ ∃ M' bv', MB B M' w' bp 125 [bv'] ∧ OwnSl 5 B M' w' bv' (b ++ termB t) ∧ (∀ x, (bv' : Value).ownBlock = some x → x ≠ bp) ∧ Stp B M M' w w') := by
 refine Tm.ind fun t ih => ?_
 intro b M w B bp bv hp ho hne hlow hB v ht hl
 have hT : Stp B M M w w := Stp.refl hlow
 have d_ho_hp := hne
 obtain ⟨akv, kv, rfl, op, nm, ag, n64, ha, hk⟩ := tm_open ht
 have hlt := hk.lt
 have hle := congrArg List.length (termB_eq t)
 rw [List.length_append, headE] at hle
 simp only [List.length_append] at hle
 refine c_enter (n := 96) Try.func82 rfl rfl rfl ?_
 refine q0 ?_
 refine lC (o_box rfl rfl rfl ?_)
 intro b3 w1 hb_b3 ew1 h3
 replace h3 : Box _ b3 84 [.int .u8 t.op, .string t.name, .string t.arg, .int .i64 t.n, .bool t.has, .int .u8 t.ann.op, .string t.ann.name, .int .i64 t.ann.n, akv, kv] := h3
 replace h3 := h3.at (nM_of hlow hb_b3)
 replace hT := hT.then (Stp.ext ew1 hlow hB)
 replace hp := hp.ext hlow hB ew1
 replace ho := ho.ext hlow hB ew1
 replace ht := Rep.ext ht ew1
 replace ha := Rep.ext ha ew1
 replace hk := hk.ext ew1
 replace hlow := hlow.ext ew1
 replace hB := ew1.z hB
 refine q1 (c_seq ?_)
 refine a_beg (Sof2 B M bp) rfl ?_
 intro w2 ew2
 replace hT := hT.then (Stp.ext ew2 hlow hB)
 replace hp := hp.ext hlow hB ew2
 replace ho := ho.ext hlow hB ew2
 replace ht := Rep.ext ht ew2
 replace ha := Rep.ext ha ew2
 replace hk := hk.ext ew2
 replace h3 := h3.ext ew2
 replace hlow := hlow.ext ew2
 replace hB := ew2.z hB
 have hS : Stp B M M w2 w2 := Stp.refl hlow
 have D_hp := hp.box
 have D_hk := hk
 have D_h3 := h3
 refine a_p 0 tK rfl rfl rfl rfl (by kernel_rfl) (fun _ _ _ h => h) ⟨⟨_, hS⟩, hp.box.heap.trans D_hp.heap.symm⟩ ?_
 refine a_p 1 tK rfl rfl rfl rfl (by kernel_rfl) (fun _ _ _ h => h) ⟨⟨_, hS⟩, hp.box.heap.trans D_hp.heap.symm⟩ ?_
 refine a_p 2 tK rfl rfl rfl rfl (by kernel_rfl) (fun _ _ _ h => h) ⟨⟨_, hS⟩, hp.box.heap.trans D_hp.heap.symm⟩ ?_
 refine a_p 3 tK rfl rfl rfl rfl (by kernel_rfl) (fun _ _ _ h => h) ⟨⟨_, hS⟩, hp.box.heap.trans D_hp.heap.symm⟩ ?_
 refine a_ld 4 tK (fun _ hs => (D_hp.so2 hs).cell 0 _ rfl) rfl rfl rfl rfl rfl rfl (by kernel_rfl) (fun _ _ _ h => h) ⟨⟨_, hS⟩, hp.box.heap.trans D_hp.heap.symm⟩ ?_
 refine a_p 5 tK rfl rfl rfl rfl (by kernel_rfl) (fun _ _ _ h => h) ⟨⟨_, hS⟩, hp.box.heap.trans D_hp.heap.symm⟩ ?_
 refine a_ld 6 tK (fun _ hs => (D_h3.so2 hs).cell 0 _ rfl) rfl rfl rfl rfl rfl rfl (by kernel_rfl) (fun _ _ _ h => h) ⟨⟨_, hS⟩, hp.box.heap.trans D_hp.heap.symm⟩ ?_
 refine a_one 7 rfl (by kernel_rfl) (o_bs tK rfl rfl rfl rfl rfl rfl rfl (sz1 rfl) rfl rfl rfl ?_)
 intro bw3 w3 qbw3 ew3 hbw3
 have nbw3 := nM_of hlow qbw3
 replace hT := hT.then (Stp.ext ew3 hlow hB)
 replace hS := hS.then (Stp.ext ew3 hlow hB)
 replace hp := hp.ext hlow hB ew3
 replace ho := ho.ext hlow hB ew3
 replace ht := Rep.ext ht ew3
 replace ha := Rep.ext ha ew3
 replace hk := hk.ext ew3
 replace h3 := h3.ext ew3
 replace hlow := hlow.ext ew3
 replace hB := ew3.z hB
 refine ⟨⟨⟨_, hS⟩, hp.box.heap.trans D_hp.heap.symm⟩, ?_⟩
 refine a_one 8 rfl (by kernel_rfl) (o_app1 tK ho hbw3 nbw3 (show Rep.R _ _ _ (UInt8.ofNat t.op.toNat) from op_byte op) hlow hB rfl rfl rfl rfl rfl rfl rfl (by omega) (by show (_ + _) * 1 ≤ _; omega) rfl rfl ?_)
 intro vw4 w4 Mw4 hw4 sw4 frw4 blw4
 have zd_ho_hp := d_ho_hp
 replace d_ho_hp : ∀ x, (vw4 : Value).ownBlock = some x → x ≠ bp := fun x hx => (blw4 x hx).elim (d_ho_hp x) (fun h e => by have := hp.lt; omega)
 replace hT := hT.then sw4
 replace hS := hS.then sw4
 replace hp := hp.stp sw4 (frw4 bp hp.lt (fun e => zd_ho_hp _ e.symm rfl))
 replace ht := Rep.stp ht sw4
 replace ha := Rep.stp ha sw4
 replace hk := hk.stp sw4
 replace h3 := h3.stp sw4
 replace hlow := sw4.low
 replace hB := sw4.z hB
 refine ⟨⟨⟨_, hS⟩, hp.box.heap.trans D_hp.heap.symm⟩, ?_⟩
 replace ho := hw4
 clear hw4
 refine a_p 9 tK rfl rfl rfl rfl (by kernel_rfl) (fun _ _ _ h => h) ⟨⟨_, hS⟩, hp.box.heap.trans D_hp.heap.symm⟩ ?_
 refine a_p 10 tK rfl rfl rfl rfl (by kernel_rfl) (fun _ _ _ h => h) ⟨⟨_, hS⟩, hp.box.heap.trans D_hp.heap.symm⟩ ?_
 obtain ⟨a1, ca1, rfl, _⟩ := ho.val
 refine a_bar 11 rfl (by kernel_rfl) (by kernel_rfl) (o_st tK hp.box rfl rfl rfl rfl (by intro u hu; simp [Value.cells] at hu; subst hu; rfl) rfl rfl ?_)
 intro w5 hw5 qw5 bew5
 have uw5 : UpdB _ _ _ := ⟨qw5, bew5⟩
 have sw5 := uw5.stp hp.inM hlow hp.ge
 have frw5 := qw5.2
 replace hT := hT.then sw5
 replace hS := hS.then sw5
 replace ho := ho.stp sw5 (fun x hx => frw5 x (ho.lt x hx).2 (d_ho_hp x hx))
 replace ht := Rep.stp ht sw5
 replace ha := Rep.stp ha sw5
 replace hk := hk.stp sw5
 replace h3 := h3.stp sw5
 replace hlow := sw5.low
 replace hB := sw5.z hB
 replace hp : MB B _ w5 bp _ [(.slice a1 (b ++ [UInt8.ofNat t.op.toNat]).length ca1)] := ⟨hw5, hp.inM, hp.ge⟩
 refine a_end (by kernel_rfl) ?_
 refine x_seq (q0 (l_p 1 tK rfl ?_))
 refine lC (o_ld tK (h3.cell 0 _ rfl) rfl rfl rfl rfl rfl ?_)
 refine lC (o_call fo104 rfl rfl rfl (prt_spec t.op _) ?_)
 rintro _ _ ⟨rfl, rfl⟩
 refine l_p 9 tK rfl (q1 ?_)
 refine c_cut2 (X := Value) (Y := Nat → Prop) (fun bv M1 => [(0, .pointer (some ⟨bp, 0, none⟩)), (3, .pointer (some ⟨b3, 0, none⟩)), (5, .bool (prt t.op).2.1), (6, .bool (prt t.op).2.2.1), (7, .int .i64 (prt t.op).2.2.2)]) (fun bv M1 w' => MB B M1 w' bp 125 [bv] ∧ OwnSl 5 B M1 w' bv (b ++ o1 t.op t.name) ∧ (∀ x, (bv : Value).ownBlock = some x → x ≠ bp) ∧ Stp B M M1 w w' ∧ Low M1 w' ∧ B ≤ w'.heap.size ∧ At M1 w' b3 0 [.int .u8 t.op, .string t.name, .string t.arg, .int .i64 t.n, .bool t.has, .int .u8 t.ann.op, .string t.ann.name, .int .i64 t.ann.n, akv, kv] ∧ Rep.R M1 w' (.agg #[.int .u8 t.ann.op, .string t.ann.name, .int .i64 t.ann.n, akv]) t.ann ∧ Sl M1 w' kv t.kids) ?_ ?_
 ·refine q0 (l_p 1 tK rfl (q1 ?_))
  refine c_if _ rfl (fun c2 => ?_) (fun c2 => ?_)
  ·refine c_reg (l_p 2 tK rfl ?_)
   refine lC (o_ld tK (h3.cell 1 _ rfl) rfl rfl rfl rfl rfl ?_)
   have e1 : (o1 t.op t.name).length = (textB t.name).length + 1 := by rw [o1, c2]; rfl
   have e0 := textB_size t.name
   refine lC (o_call fo71 rfl rfl rfl (penText_spec t.name nm _ _ _ B bp _ hp ho d_ho_hp hlow hB (by simp only [List.length_append, List.length_cons, List.length_nil]; omega)) ?_)
   rintro _ w6 ⟨rfl, Mw6, vw6, hpw6, how6, new6, sw6⟩
   replace hT := hT.then sw6
   replace ht := Rep.stp ht sw6
   replace ha := Rep.stp ha sw6
   replace hk := hk.stp sw6
   replace h3 := h3.stp sw6
   replace hlow := sw6.low
   replace hB := sw6.z hB
   replace hp := hpw6
   replace ho := how6
   replace d_ho_hp := new6
   clear hpw6 how6 new6
   refine l_nil ?_
   exact x_cut2 (vw6) (Mw6) (s5 rfl rfl rfl rfl rfl) ⟨hp, by rw [o1_yes c2]; exact ho, d_ho_hp, hT, hlow, hB, h3, ha, hk⟩
  refine c_skip ?_
  exact x_cut2 ((.slice a1 (b ++ [UInt8.ofNat t.op.toNat]).length ca1)) (Mw4) (s5 rfl rfl rfl rfl rfl) ⟨hp, by rw [o1_no c2]; exact ho, d_ho_hp, hT, hlow, hB, h3, ha, hk⟩
 clear hp ho d_ho_hp hT hlow hB h3 ha hk ht hne
 rintro bv M1 w81 ⟨hp, ho, d_ho_hp, hT, hlow, hB, h3, ha, hk⟩
 refine c_cut2 (X := Value) (Y := Nat → Prop) (fun bv M1 => [(0, .pointer (some ⟨bp, 0, none⟩)), (3, .pointer (some ⟨b3, 0, none⟩)), (6, .bool (prt t.op).2.2.1), (7, .int .i64 (prt t.op).2.2.2)]) (fun bv M1 w' => MB B M1 w' bp 125 [bv] ∧ OwnSl 5 B M1 w' bv (b ++ o1 t.op t.name ++ o2 t.op t.arg) ∧ (∀ x, (bv : Value).ownBlock = some x → x ≠ bp) ∧ Stp B M M1 w w' ∧ Low M1 w' ∧ B ≤ w'.heap.size ∧ At M1 w' b3 0 [.int .u8 t.op, .string t.name, .string t.arg, .int .i64 t.n, .bool t.has, .int .u8 t.ann.op, .string t.ann.name, .int .i64 t.ann.n, akv, kv] ∧ Rep.R M1 w' (.agg #[.int .u8 t.ann.op, .string t.ann.name, .int .i64 t.ann.n, akv]) t.ann ∧ Sl M1 w' kv t.kids) ?_ ?_
 ·refine q0 (l_p 1 tK rfl (q1 ?_))
  refine c_if _ rfl (fun c3 => ?_) (fun c3 => ?_)
  ·refine c_reg (l_p 2 tK rfl ?_)
   refine lC (o_ld tK (h3.cell 2 _ rfl) rfl rfl rfl rfl rfl ?_)
   have e1 : (o2 t.op t.arg).length = (textB t.arg).length := by rw [o2, c3]; rfl
   have e0 := textB_size t.arg
   refine lC (o_call fo71 rfl rfl rfl (penText_spec t.arg ag _ _ _ B bp _ hp ho d_ho_hp hlow hB (by simp only [List.length_append, List.length_cons, List.length_nil]; omega)) ?_)
   rintro _ w7 ⟨rfl, Mw7, vw7, hpw7, how7, new7, sw7⟩
   replace hT := hT.then sw7
   replace h3 := h3.stp sw7
   replace ha := Rep.stp ha sw7
   replace hk := hk.stp sw7
   replace hlow := sw7.low
   replace hB := sw7.z hB
   replace hp := hpw7
   replace ho := how7
   replace d_ho_hp := new7
   clear hpw7 how7 new7
   refine l_nil ?_
   exact x_cut2 (vw7) (Mw7) (s4 rfl rfl rfl rfl) ⟨hp, by rw [show o2 t.op t.arg = textB t.arg by rw [o2, c3]; rfl]; exact ho, d_ho_hp, hT, hlow, hB, h3, ha, hk⟩
  refine c_skip ?_
  exact x_cut2 (bv) (M1) (s4 rfl rfl rfl rfl) ⟨hp, by rw [show o2 t.op t.arg = [] by rw [o2, c3]; rfl, List.append_nil]; exact ho, d_ho_hp, hT, hlow, hB, h3, ha, hk⟩
 clear hp ho d_ho_hp hT hlow hB h3 ha hk
 rintro bv M1 w82 ⟨hp, ho, d_ho_hp, hT, hlow, hB, h3, ha, hk⟩
 refine c_cut2 (X := Value) (Y := Nat → Prop) (fun bv M1 => [(0, .pointer (some ⟨bp, 0, none⟩)), (3, .pointer (some ⟨b3, 0, none⟩)), (7, .int .i64 (prt t.op).2.2.2)]) (fun bv M1 w' => MB B M1 w' bp 125 [bv] ∧ OwnSl 5 B M1 w' bv (b ++ o1 t.op t.name ++ o2 t.op t.arg ++ o3 t.op t.n) ∧ (∀ x, (bv : Value).ownBlock = some x → x ≠ bp) ∧ Stp B M M1 w w' ∧ Low M1 w' ∧ B ≤ w'.heap.size ∧ At M1 w' b3 0 [.int .u8 t.op, .string t.name, .string t.arg, .int .i64 t.n, .bool t.has, .int .u8 t.ann.op, .string t.ann.name, .int .i64 t.ann.n, akv, kv] ∧ Rep.R M1 w' (.agg #[.int .u8 t.ann.op, .string t.ann.name, .int .i64 t.ann.n, akv]) t.ann ∧ Sl M1 w' kv t.kids) ?_ ?_
 ·refine q0 (l_p 1 tK rfl (q1 ?_))
  refine c_if _ rfl (fun c4 => ?_) (fun c4 => ?_)
  ·refine c_reg (l_p 2 tK rfl ?_)
   refine lC (o_ld tK (h3.cell 3 _ rfl) rfl rfl rfl rfl rfl ?_)
   refine lC (o_conv tK rfl rfl rfl rfl rfl (wrap_u64 _) rfl rfl ?_)
   refine lC (o_call fo100 rfl rfl rfl (penNum_spec (u64 t.n) (u64_lt _) _ _ _ B bp _ hp ho d_ho_hp hlow hB (by simp only [List.length_append, List.length_cons, List.length_nil]; omega)) ?_)
   rintro _ w8 ⟨rfl, Mw8, vw8, hpw8, how8, new8, sw8⟩
   replace hT := hT.then sw8
   replace h3 := h3.stp sw8
   replace ha := Rep.stp ha sw8
   replace hk := hk.stp sw8
   replace hlow := sw8.low
   replace hB := sw8.z hB
   replace hp := hpw8
   replace ho := how8
   replace d_ho_hp := new8
   clear hpw8 how8 new8
   refine l_nil ?_
   exact x_cut2 (vw8) (Mw8) (s3 rfl rfl rfl) ⟨hp, by rw [show o3 t.op t.n = numY (u64 t.n) by rw [o3, c4]; rfl]; exact ho, d_ho_hp, hT, hlow, hB, h3, ha, hk⟩
  refine c_skip ?_
  exact x_cut2 (bv) (M1) (s3 rfl rfl rfl) ⟨hp, by rw [show o3 t.op t.n = [] by rw [o3, c4]; rfl, List.append_nil]; exact ho, d_ho_hp, hT, hlow, hB, h3, ha, hk⟩
 clear hp ho d_ho_hp hT hlow hB h3 ha hk
 rintro bv M1 w83 ⟨hp, ho, d_ho_hp, hT, hlow, hB, h3, ha, hk⟩
 refine c_cut2 (X := Value) (Y := Nat → Prop) (fun bv M1 => [(0, .pointer (some ⟨bp, 0, none⟩)), (3, .pointer (some ⟨b3, 0, none⟩))]) (fun bv M1 w' => MB B M1 w' bp 125 [bv] ∧ OwnSl 5 B M1 w' bv (b ++ o1 t.op t.name ++ o2 t.op t.arg ++ o3 t.op t.n ++ o4 t.op t.has) ∧ (∀ x, (bv : Value).ownBlock = some x → x ≠ bp) ∧ Stp B M M1 w w' ∧ Low M1 w' ∧ B ≤ w'.heap.size ∧ At M1 w' b3 0 [.int .u8 t.op, .string t.name, .string t.arg, .int .i64 t.n, .bool t.has, .int .u8 t.ann.op, .string t.ann.name, .int .i64 t.ann.n, akv, kv] ∧ Rep.R M1 w' (.agg #[.int .u8 t.ann.op, .string t.ann.name, .int .i64 t.ann.n, akv]) t.ann ∧ Sl M1 w' kv t.kids) ?_ ?_
 ·refine q0 (l_p 2 tK rfl (q1 ?_))
  refine c_ifP _ rfl (fun c5 => ?_) (fun c5 => ?_)
  ·refine q0 (l_p 4 tK rfl ?_)
   refine lC (o_ld tK (hp.cell 0 _ rfl) rfl rfl rfl rfl rfl ?_)
   have e4 : (o4 t.op t.has).length = 1 := by rw [o4, decide_eq_true c5]; cases t.has <;> rfl
   refine lC (o_bs tK rfl rfl rfl rfl rfl rfl rfl (sz1 rfl) rfl rfl rfl ?_)
   intro bw9 w9 qbw9 ew9 hbw9
   have nbw9 := nM_of hlow qbw9
   replace hT := hT.then (Stp.ext ew9 hlow hB)
   replace hp := hp.ext hlow hB ew9
   replace ho := ho.ext hlow hB ew9
   replace h3 := h3.ext ew9
   replace ha := Rep.ext ha ew9
   replace hk := hk.ext ew9
   replace hlow := hlow.ext ew9
   replace hB := ew9.z hB
   refine lC (o_app1 tK ho hbw9 nbw9 (show Rep.R _ _ _ (0 : UInt8) from rfl) hlow hB rfl rfl rfl rfl rfl rfl rfl (by simp only [List.length_append, List.length_cons, List.length_nil]; omega) (by show (_ + _) * 1 ≤ _; simp only [List.length_append, List.length_cons, List.length_nil]; omega) rfl rfl ?_)
   intro vw10 w10 Mw10 hw10 sw10 frw10 blw10
   have zd_ho_hp := d_ho_hp
   replace d_ho_hp : ∀ x, (vw10 : Value).ownBlock = some x → x ≠ bp := fun x hx => (blw10 x hx).elim (d_ho_hp x) (fun h e => by have := hp.lt; omega)
   replace hT := hT.then sw10
   replace hp := hp.stp sw10 (frw10 bp hp.lt (fun e => zd_ho_hp _ e.symm rfl))
   replace h3 := h3.stp sw10
   replace ha := Rep.stp ha sw10
   replace hk := hk.stp sw10
   replace hlow := sw10.low
   replace hB := sw10.z hB
   replace ho := hw10
   clear hw10
   refine l_p 2 tK rfl ?_
   obtain ⟨a6, ca6, rfl, _⟩ := ho.val
   refine lC (o_st tK hp.box rfl rfl rfl rfl (by intro u hu; simp [Value.cells] at hu; subst hu; rfl) rfl rfl ?_)
   intro w11 hw11 qw11 bew11
   have uw11 : UpdB _ _ _ := ⟨qw11, bew11⟩
   have sw11 := uw11.stp hp.inM hlow hp.ge
   have frw11 := qw11.2
   replace hT := hT.then sw11
   replace ho := ho.stp sw11 (fun x hx => frw11 x (ho.lt x hx).2 (d_ho_hp x hx))
   replace h3 := h3.stp sw11
   replace ha := Rep.stp ha sw11
   replace hk := hk.stp sw11
   replace hlow := sw11.low
   replace hB := sw11.z hB
   replace hp : MB B _ w11 bp _ [(.slice a6 (b ++ o1 t.op t.name ++ o2 t.op t.arg ++ o3 t.op t.n ++ [0]).length ca6)] := ⟨hw11, hp.inM, hp.ge⟩
   refine q1 (q0 (l_p 1 tK rfl ?_))
   refine lC (o_ld tK (h3.cell 4 _ rfl) rfl rfl rfl rfl rfl ?_)
   refine q1 ?_
   refine c_if _ rfl (fun c7 => ?_) (fun c7 => ?_)
   ·have hlz : (b ++ o1 t.op t.name ++ o2 t.op t.arg ++ o3 t.op t.n ++ [0]).length = b.length + (o1 t.op t.name).length + (o2 t.op t.arg).length + (o3 t.op t.n).length + 1 := by simp only [List.length_append, List.length_cons, List.length_nil]
    refine a_beg (Sof2 B Mw10 bp) rfl ?_
    intro w12 ew12
    replace hT := hT.then (Stp.ext ew12 hlow hB)
    replace hp := hp.ext hlow hB ew12
    replace ho := ho.ext hlow hB ew12
    replace h3 := h3.ext ew12
    replace ha := Rep.ext ha ew12
    replace hk := hk.ext ew12
    replace hlow := hlow.ext ew12
    replace hB := ew12.z hB
    have hS : Stp B Mw10 Mw10 w12 w12 := Stp.refl hlow
    have D_hp := hp.box
    have D_h3 := h3
    have D_hk := hk
    refine a_p 0 tK rfl rfl rfl rfl (by kernel_rfl) (fun _ _ _ h => h) ⟨⟨_, hS⟩, hp.box.heap.trans D_hp.heap.symm⟩ ?_
    refine a_p 1 tK rfl rfl rfl rfl (by kernel_rfl) (fun _ _ _ h => h) ⟨⟨_, hS⟩, hp.box.heap.trans D_hp.heap.symm⟩ ?_
    refine a_p 2 tK rfl rfl rfl rfl (by kernel_rfl) (fun _ _ _ h => h) ⟨⟨_, hS⟩, hp.box.heap.trans D_hp.heap.symm⟩ ?_
    refine a_ld 3 tK (fun _ hs => (D_hp.so2 hs).cell 0 _ rfl) rfl rfl rfl rfl rfl rfl (by kernel_rfl) (fun _ _ _ h => h) ⟨⟨_, hS⟩, hp.box.heap.trans D_hp.heap.symm⟩ ?_
    refine a_p 4 tK rfl rfl rfl rfl (by kernel_rfl) (fun _ _ _ h => h) ⟨⟨_, hS⟩, hp.box.heap.trans D_hp.heap.symm⟩ ?_
    refine a_p 5 tK rfl rfl rfl rfl (by kernel_rfl) (fun _ _ _ h => h) ⟨⟨_, hS⟩, hp.box.heap.trans D_hp.heap.symm⟩ ?_
    refine a_p 6 tK rfl rfl rfl rfl (by kernel_rfl) (fun _ _ _ h => h) ⟨⟨_, hS⟩, hp.box.heap.trans D_hp.heap.symm⟩ ?_
    refine a_ld 7 tK (fun _ hs => (D_hp.so2 hs).cell 0 _ rfl) rfl rfl rfl rfl rfl rfl (by kernel_rfl) (fun _ _ _ h => h) ⟨⟨_, hS⟩, hp.box.heap.trans D_hp.heap.symm⟩ ?_
    refine a_one 8 rfl (by kernel_rfl) (o_lenO tK ho rfl rfl rfl rfl rfl ?_)
    refine ⟨⟨⟨_, hS⟩, hp.box.heap.trans D_hp.heap.symm⟩, ?_⟩
    refine a_ar 9 rfl rfl rfl rfl (IntWalk.i64_in _ (by omega)) rfl rfl (by kernel_rfl) (fun _ _ _ h => h) ⟨⟨_, hS⟩, hp.box.heap.trans D_hp.heap.symm⟩ ?_
    refine a_ixO 10 tK ho (get_last _ _) rfl rfl rfl (by simp only [List.length_append, List.length_cons, List.length_nil]; omega) rfl rfl rfl rfl rfl rfl (by kernel_rfl) (fun _ _ _ _ h => h) ⟨⟨_, hS⟩, hp.box.heap.trans D_hp.heap.symm⟩ ?_
    intro ibz iuz hobz hrz hatz
    refine a_bar 11 rfl (by kernel_rfl) (by kernel_rfl) (o_stO tK ho hobz (by simp) (show Rep.R _ _ _ (1 : UInt8) from rfl) hlow rfl rfl rfl rfl rfl rfl ?_)
    intro w13 hw13 sw13 frw13
    replace hT := hT.then sw13
    replace hS := hS.then sw13
    replace hp := hp.stp sw13 (frw13 bp hp.lt (fun e => d_ho_hp _ hobz e.symm))
    replace h3 := h3.stp sw13
    replace ha := Rep.stp ha sw13
    replace hk := hk.stp sw13
    replace hlow := sw13.low
    replace hB := sw13.z hB
    replace ho := hw13
    clear hw13
    rw [set_last] at ho
    refine a_end (by kernel_rfl) ?_
    exact x_cut2 ((.slice a6 (b ++ o1 t.op t.name ++ o2 t.op t.arg ++ o3 t.op t.n ++ [0]).length ca6)) (Mw10) (s2 rfl rfl) ⟨hp, by rw [o4, decide_eq_true c5, c7]; exact ho, d_ho_hp, hT, hlow, hB, h3, ha, hk⟩
   refine c_skip ?_
   exact x_cut2 ((.slice a6 (b ++ o1 t.op t.name ++ o2 t.op t.arg ++ o3 t.op t.n ++ [0]).length ca6)) (Mw10) (s2 rfl rfl) ⟨hp, by rw [o4, decide_eq_true c5, c7]; exact ho, d_ho_hp, hT, hlow, hB, h3, ha, hk⟩
  refine c_skip ?_
  exact x_cut2 (bv) (M1) (s2 rfl rfl) ⟨hp, by rw [o4, decide_eq_false c5, cond_false, List.append_nil]; exact ho, d_ho_hp, hT, hlow, hB, h3, ha, hk⟩
 clear hp ho d_ho_hp hT hlow hB h3 ha hk
 rintro bv M1 w84 ⟨hp, ho, d_ho_hp, hT, hlow, hB, h3, ha, hk⟩
 refine c_cut2 (X := Value) (Y := Nat → Prop) (fun bv M1 => [(0, .pointer (some ⟨bp, 0, none⟩)), (3, .pointer (some ⟨b3, 0, none⟩))]) (fun bv M1 w' => MB B M1 w' bp 125 [bv] ∧ OwnSl 5 B M1 w' bv (b ++ o1 t.op t.name ++ o2 t.op t.arg ++ o3 t.op t.n ++ o4 t.op t.has ++ o5 t.has t.ann) ∧ (∀ x, (bv : Value).ownBlock = some x → x ≠ bp) ∧ Stp B M M1 w w' ∧ Low M1 w' ∧ B ≤ w'.heap.size ∧ At M1 w' b3 0 [.int .u8 t.op, .string t.name, .string t.arg, .int .i64 t.n, .bool t.has, .int .u8 t.ann.op, .string t.ann.name, .int .i64 t.ann.n, akv, kv] ∧ Rep.R M1 w' (.agg #[.int .u8 t.ann.op, .string t.ann.name, .int .i64 t.ann.n, akv]) t.ann ∧ Sl M1 w' kv t.kids) ?_ ?_
 ·refine q0 (l_p 1 tK rfl ?_)
  refine lC (o_ld tK (h3.cell 4 _ rfl) rfl rfl rfl rfl rfl ?_)
  refine q1 ?_
  refine c_if _ rfl (fun c8 => ?_) (fun c8 => ?_)
  ·refine c_reg (l_p 2 tK rfl ?_)
   refine lC (o_lds tK (fun j v hv => (h3).mid 5 (sub := [.int .u8 t.ann.op, .string t.ann.name, .int .i64 t.ann.n, akv]) rfl j v hv) rfl rfl rfl rfl rfl rfl ?_)
   have e1 : (o5 t.has t.ann).length = (typeB t.ann).length := by rw [o5, c8]; rfl
   refine lC (o_call fo83 rfl rfl rfl (penKind_spec t.ann _ _ _ B bp _ hp ho d_ho_hp hlow hB _ ha (by simp only [List.length_append, List.length_cons, List.length_nil]; omega)) ?_)
   rintro _ w14 ⟨rfl, Mw14, vw14, hpw14, how14, new14, sw14⟩
   replace hT := hT.then sw14
   replace h3 := h3.stp sw14
   replace ha := Rep.stp ha sw14
   replace hk := hk.stp sw14
   replace hlow := sw14.low
   replace hB := sw14.z hB
   replace hp := hpw14
   replace ho := how14
   replace d_ho_hp := new14
   clear hpw14 how14 new14
   refine l_nil ?_
   exact x_cut2 (vw14) (Mw14) (s2 rfl rfl) ⟨hp, by rw [show o5 t.has t.ann = typeB t.ann by rw [o5, c8]; rfl]; exact ho, d_ho_hp, hT, hlow, hB, h3, ha, hk⟩
  refine c_skip ?_
  exact x_cut2 (bv) (M1) (s2 rfl rfl) ⟨hp, by rw [show o5 t.has t.ann = [] by rw [o5, c8]; rfl, List.append_nil]; exact ho, d_ho_hp, hT, hlow, hB, h3, ha, hk⟩
 clear hp ho d_ho_hp hT hlow hB h3 ha hk
 rintro bv M1 w85 ⟨hp, ho, d_ho_hp, hT, hlow, hB, h3, ha, hk⟩
 refine c_cut2 (X := Value) (Y := Nat → Prop) (fun bv M1 => [(0, .pointer (some ⟨bp, 0, none⟩)), (3, .pointer (some ⟨b3, 0, none⟩))]) (fun bv M1 w' => MB B M1 w' bp 125 [bv] ∧ OwnSl 5 B M1 w' bv (b ++ o1 t.op t.name ++ o2 t.op t.arg ++ o3 t.op t.n ++ o4 t.op t.has ++ o5 t.has t.ann ++ o6 t.op t.kids.length) ∧ (∀ x, (bv : Value).ownBlock = some x → x ≠ bp) ∧ Stp B M M1 w w' ∧ Low M1 w' ∧ B ≤ w'.heap.size ∧ At M1 w' b3 0 [.int .u8 t.op, .string t.name, .string t.arg, .int .i64 t.n, .bool t.has, .int .u8 t.ann.op, .string t.ann.name, .int .i64 t.ann.n, akv, kv] ∧ Rep.R M1 w' (.agg #[.int .u8 t.ann.op, .string t.ann.name, .int .i64 t.ann.n, akv]) t.ann ∧ Sl M1 w' kv t.kids) ?_ ?_
 ·refine q0 (l_p 1 tK rfl ?_)
  refine lC (o_ld tK (h3.cell 0 _ rfl) rfl rfl rfl rfl rfl ?_)
  refine lC (o_call fo105 rfl rfl rfl (cnt_spec t.op _) ?_)
  rintro _ _ ⟨rfl, rfl⟩
  refine l_p 1 tK rfl (q1 ?_)
  refine c_ifP _ rfl (fun c9 => ?_) (fun c9 => ?_)
  ·refine c_reg (l_p 2 tK rfl ?_)
   refine lC (o_ld tK (h3.cell 9 _ rfl) rfl rfl rfl rfl rfl ?_)
   refine lC (o_len tK hk rfl rfl rfl rfl rfl ?_)
   refine lC (o_conv (y := ((t.kids.length : Nat) : Int)) tK rfl rfl rfl rfl rfl ((wrap_u64 _).trans (by rw [u64_nat (by omega)])) rfl rfl ?_)
   refine lC (o_call fo100 rfl rfl rfl (penNum_spec t.kids.length (by omega) _ _ _ B bp _ hp ho d_ho_hp hlow hB (by simp only [List.length_append, List.length_cons, List.length_nil]; omega)) ?_)
   rintro _ w15 ⟨rfl, Mw15, vw15, hpw15, how15, new15, sw15⟩
   replace hT := hT.then sw15
   replace h3 := h3.stp sw15
   replace ha := Rep.stp ha sw15
   replace hk := hk.stp sw15
   replace hlow := sw15.low
   replace hB := sw15.z hB
   replace hp := hpw15
   replace ho := how15
   replace d_ho_hp := new15
   clear hpw15 how15 new15
   refine l_nil ?_
   exact x_cut2 (vw15) (Mw15) (s2 rfl rfl) ⟨hp, by rw [o6, decide_eq_true c9]; exact ho, d_ho_hp, hT, hlow, hB, h3, ha, hk⟩
  refine c_skip ?_
  exact x_cut2 (bv) (M1) (s2 rfl rfl) ⟨hp, by rw [o6, decide_eq_false c9, cond_false, List.append_nil]; exact ho, d_ho_hp, hT, hlow, hB, h3, ha, hk⟩
 clear hp ho d_ho_hp hT hlow hB h3 ha hk
 rintro bv M1 w86 ⟨hp, ho, d_ho_hp, hT, hlow, hB, h3, ha, hk⟩
 refine q0 (l_p 1 tK rfl ?_)
 refine lC (o_ld tK (h3.cell 9 _ rfl) rfl rfl rfl rfl rfl ?_)
 refine lC (o_len tK hk rfl rfl rfl rfl rfl ?_)
 refine l_p 1 tK rfl (q1 (c_blk ?_))
 refine c_loop3 (X := Nat) (Y := Value) (Z := Nat → Prop) (fun i bv M1 => [(0, .pointer (some ⟨bp, 0, none⟩)), (86, kv), (87, .int .i64 (t.kids.length : Int)), (88, .int .i64 (i : Nat))]) (fun i bv M1 w' => i ≤ t.kids.length ∧ MB B M1 w' bp 125 [bv] ∧ OwnSl 5 B M1 w' bv ((b ++ o1 t.op t.name ++ o2 t.op t.arg ++ o3 t.op t.n ++ o4 t.op t.has ++ o5 t.has t.ann ++ o6 t.op t.kids.length) ++ (t.kids.take i).flatMap termB) ∧ (∀ x, (bv : Value).ownBlock = some x → x ≠ bp) ∧ Stp B M M1 w w' ∧ Low M1 w' ∧ B ≤ w'.heap.size ∧ Sl M1 w' kv t.kids) (fun i bv M1 => t.kids.length - i) (0) (bv) (M1) (s4 rfl rfl rfl rfl) ?_ ?_
 ·exact ⟨Nat.zero_le _, hp, by simpa using ho, d_ho_hp, hT, hlow, hB, hk⟩
 clear hp ho d_ho_hp hT hlow hB hk
 rintro i bv M1 w16 ⟨hi, hp, ho, d_ho_hp, hT, hlow, hB, hk⟩
 have hft := flat_take_len (f := termB) (l := t.kids) i
 refine q0 (l_p 1 tK rfl (q1 (c_seq ?_)))
 refine c_ifP _ rfl (fun c10 => ?_) (fun c10 => ?_)
 ·refine c_skip (x_seq (c_seq (c_blk (q0 ?_))))
  have hik : i < t.kids.length := by omega
  have hf1 := flat_take_len (f := termB) (l := t.kids) (i + 1)
  rw [flat_step hik, List.length_append] at hf1
  refine lC (o_ixS tK hk (List.getElem?_eq_getElem hik) rfl rfl rfl rfl rfl rfl rfl rfl rfl ?_)
  intro ebx eox eux hyx hatx
  obtain ⟨akvx, kvx, rfl, opx, nmx, agx, n64x, hax, hkx⟩ := tm_open hyx
  replace hatx : At M1 w16 ebx eox [.int .u8 t.kids[i].op, .string t.kids[i].name, .string t.kids[i].arg, .int .i64 t.kids[i].n, .bool t.kids[i].has, .int .u8 t.kids[i].ann.op, .string t.kids[i].ann.name, .int .i64 t.kids[i].ann.n, akvx, kvx] := hatx
  refine lC (o_lds tK (fun j v hv => hatx.cell j v hv) rfl rfl rfl rfl rfl rfl ?_)
  refine lC (o_new tK rfl rfl rfl ?_)
  intro b9 w17 qb9 ew17 hb9
  have nb9 := nM_of hlow qb9
  refine lC (o_st tK hb9 rfl rfl rfl rfl (Rep.one hyx) rfl rfl ?_)
  intro w18 h9 uw18 bew18
  have ew18 : Ext w16 w18 := ew17.trans (bew18 _ (Nat.le_of_eq qb9.symm))
  replace hT := hT.then (Stp.ext ew18 hlow hB)
  replace hp := hp.ext hlow hB ew18
  replace ho := ho.ext hlow hB ew18
  replace hk := hk.ext ew18
  replace hyx := Rep.ext hyx ew18
  replace hax := Rep.ext hax ew18
  replace hkx := hkx.ext ew18
  replace hatx := hatx.ext ew18
  replace hlow := hlow.ext ew18
  replace hB := ew18.z hB
  replace h9 : Box w18 b9 84 [.int .u8 t.kids[i].op, .string t.kids[i].name, .string t.kids[i].arg, .int .i64 t.kids[i].n, .bool t.kids[i].has, .int .u8 t.kids[i].ann.op, .string t.kids[i].ann.name, .int .i64 t.kids[i].ann.n, akvx, kvx] := h9
  replace h9 := h9.at nb9
  refine q1 (c_reg (l_p 1 tK rfl ?_))
  refine lC (o_lds tK (fun j v hv => h9.cell j v hv) rfl rfl rfl rfl rfl rfl ?_)
  refine lC (o_call fo82 rfl rfl rfl (ih _ (List.getElem_mem hik) _ _ _ B bp _ hp ho d_ho_hp hlow hB _ hyx (by simp only [List.length_append] at hle ⊢; omega)) ?_)
  rintro _ w19 ⟨rfl, Mw19, vw19, hpw19, how19, new19, sw19⟩
  replace hT := hT.then sw19
  replace hk := hk.stp sw19
  replace hyx := Rep.stp hyx sw19
  replace hax := Rep.stp hax sw19
  replace hkx := hkx.stp sw19
  replace hatx := hatx.stp sw19
  replace h9 := h9.stp sw19
  replace hlow := sw19.low
  replace hB := sw19.z hB
  replace hp := hpw19
  replace ho := how19
  replace d_ho_hp := new19
  clear hpw19 how19 new19
  refine q2 (x_seq (c_reg ?_))
  refine lC (o_ai rfl rfl rfl (by omega) rfl rfl ?_)
  refine l_p 1 tK rfl (l_nil ?_)
  exact x_round3 (i + 1) (vw19) (Mw19) (s4 rfl rfl rfl (get_num rfl (by omega))) ⟨by omega, hp, by rw [flat_step hik, ← List.append_assoc]; exact ho, d_ho_hp, hT, hlow, hB, hk⟩ (by omega)
 refine c_exit (x_seqE (x_seqE (x_blkE ?_)))
 refine x_ret0n rfl ?_
 obtain rfl : i = t.kids.length := by omega
 refine ⟨rfl, _, _, hp, ?_, d_ho_hp, hT⟩
 rw [termB_eq, headE, List.take_of_length_le (Nat.le_refl _)] at *
 simpa only [List.append_assoc] using ho
theorem putTerm_spec (t : Tm) (M : Nat → Prop) (w : World) (v : Value) (ht : Rep.R M w v t) (hlow0 : Low M w) (hz : AnnS t) (hl : (termB t).length ≤ 999999997000) :
  Calls Try.prog 41 #[v] w (Ret fun r w' => (∃ x, r = .tuple #[x, .int .u8 (bif rightT t false then 0 else 15)] ∧ Sl M w' x (bif rightT t false then termB t else [])) ∧ Ext w w') := by
 have hlow := hlow0
 have hB : w.heap.size ≤ w.heap.size := Nat.le_refl _
 have hE : Below w.heap.size w w := Below.refl _ _
 have hsub : ∀ b, M b → M b := fun _ h => h
 obtain ⟨akv, kv, rfl, op, nm, ag, n64, ha, hk⟩ := tm_open ht
 refine c_enter (n := 12) Try.func41 rfl rfl rfl ?_
 refine q0 ?_
 refine lC (o_box rfl rfl rfl ?_)
 intro b1 w1 hb_b1 ew1 h1
 replace h1 : Box _ b1 84 [.int .u8 t.op, .string t.name, .string t.arg, .int .i64 t.n, .bool t.has, .int .u8 t.ann.op, .string t.ann.name, .int .i64 t.ann.n, akv, kv] := h1
 replace h1 := h1.at (nM_of hlow hb_b1)
 replace hE := ew1.bl hE hB
 replace ht := Rep.ext ht ew1
 replace ha := Rep.ext ha ew1
 replace hk := hk.ext ew1
 replace hlow := hlow.ext ew1
 replace hB := ew1.z hB
 refine l_p 2 tK rfl (q1 (c_seq (q0 ?_)))
 refine lC (o_lds tK (fun j v hv => h1.cell j v hv) rfl rfl rfl rfl rfl rfl ?_)
 refine lC (o_call fo76 rfl rfl rfl (tRight_spec _ _ _ _ ht hlow hz) ?_)
 rintro _ w2 ⟨rfl, ew2⟩
 replace hE := ew2.bl hE hB
 replace ht := Rep.ext ht ew2
 replace ha := Rep.ext ha ew2
 replace hk := hk.ext ew2
 replace h1 := h1.ext ew2
 replace hlow := hlow.ext ew2
 replace hB := ew2.z hB
 refine l_p 1 tK rfl (q1 ?_)
 refine c_ifB _ rfl (fun c1 => ?_) (fun c1 => ?_)
 ·refine q0 (l_p 2 tK rfl (q1 (c_ret (x_seqR (x_ret2 rfl rfl rfl ?_)))))
  have hr : rightT t false = false := by simp_all
  rw [hr]
  exact ⟨⟨_, rfl, sl_nil⟩, hE⟩
 refine c_skip (x_seq (q0 ?_))
 refine lC (o_new tK rfl rfl rfl ?_)
 intro bp w3 qbp ew3 hbp
 have sw3 := Stp.add ew3 hlow hB (Nat.le_of_eq qbp.symm) hbp.lt
 have hp : MB w.heap.size (Rw.Add M bp) w3 bp 125 [.slice none 0 0] := MB.mk' hbp qbp hB
 replace hE := hE.trans sw3.below
 replace ht := Rep.stp ht sw3
 replace ha := Rep.stp ha sw3
 replace hk := hk.stp sw3
 replace h1 := h1.stp sw3
 replace hsub := sw3.sb hsub
 replace hlow := sw3.low
 replace hB := sw3.z hB
 have d_ho_hp : ∀ x, (.slice none 0 0 : Value).ownBlock = some x → x ≠ bp := fun x hx => by simp [Value.ownBlock] at hx
 refine q1 (q0 ?_)
 refine lC (o_lds tK (fun j v hv => h1.cell j v hv) rfl rfl rfl rfl rfl rfl ?_)
 refine lC (o_call fo82 rfl rfl rfl (penTerm_spec t [] _ _ w.heap.size bp _ hp own_nil d_ho_hp hlow hB _ ht (by simp; omega)) ?_)
 rintro _ w4 ⟨rfl, Mw4, vw4, hpw4, ho, new4, sw4⟩
 replace hE := hE.trans sw4.below
 replace ht := Rep.stp ht sw4
 replace ha := Rep.stp ha sw4
 replace hk := hk.stp sw4
 replace h1 := h1.stp sw4
 replace hsub := sw4.sb hsub
 replace hlow := sw4.low
 replace hB := sw4.z hB
 replace hp := hpw4
 replace d_ho_hp := new4
 clear hpw4 new4
 refine q1 (q0 (l_p 1 tK rfl ?_))
 refine lC (o_ld tK (hp.cell 0 _ rfl) rfl rfl rfl rfl rfl ?_)
 refine l_p 2 tK rfl (q1 (c_ret (x_ret2 rfl rfl rfl ?_)))
 have hr : rightT t false = true := by simp_all
 rw [hr]
 exact ⟨⟨_, rfl, ho.sl (by simp; omega) hlow0 hsub⟩, hE⟩
theorem putType_spec (t : Ty) (M : Nat → Prop) (w : World) (v : Value) (ht : Rep.R M w v t) (hlow0 : Low M w) (hl : (typeB t).length ≤ 999999997000) :
  Calls Try.prog 42 #[v] w (Ret fun r w' => (∃ x, r = .tuple #[x, .int .u8 (bif (rightB t || rowB t) then 0 else 15)] ∧ Sl M w' x (bif (rightB t || rowB t) then typeB t else [])) ∧ Ext w w') := by
 have hlow := hlow0
 have hB : w.heap.size ≤ w.heap.size := Nat.le_refl _
 have hE : Below w.heap.size w w := Below.refl _ _
 have hsub : ∀ b, M b → M b := fun _ h => h
 obtain ⟨kv, rfl, op, nm, n64, hk⟩ := ty_open ht
 refine c_enter (n := 17) Try.func42 rfl rfl rfl ?_
 refine q0 ?_
 refine lC (o_box rfl rfl rfl ?_)
 intro b1 w1 hb_b1 ew1 h1
 replace h1 : Box _ b1 40 [.int .u8 t.op, .string t.name, .int .i64 t.n, kv] := h1
 replace h1 := h1.at (nM_of hlow hb_b1)
 replace hE := ew1.bl hE hB
 replace ht := Rep.ext ht ew1
 replace hk := hk.ext ew1
 replace hlow := hlow.ext ew1
 replace hB := ew1.z hB
 refine l_p 2 tK rfl (q1 (c_seq (q0 ?_)))
 refine lC (o_lds tK (fun j v hv => h1.cell j v hv) rfl rfl rfl rfl rfl rfl ?_)
 refine lC (o_call fo78 rfl rfl rfl (kRight_specB _ _ _ _ ht hlow) ?_)
 rintro _ w2 ⟨rfl, ew2⟩
 replace hE := ew2.bl hE hB
 replace ht := Rep.ext ht ew2
 replace hk := hk.ext ew2
 replace h1 := h1.ext ew2
 replace hlow := hlow.ext ew2
 replace hB := ew2.z hB
 refine l_p 2 tK rfl ?_
 refine l_splitB 8 _ rfl (fun c1 => ?_) (fun c1 => ?_)
 ·refine lC (o_lds tK (fun j v hv => h1.cell j v hv) rfl rfl rfl rfl rfl rfl ?_)
  refine lC (o_call fo55 rfl rfl rfl (kRow_specB _ _ _ _ ht hlow) ?_)
  rintro _ w3 ⟨rfl, ew3⟩
  replace hE := ew3.bl hE hB
  replace ht := Rep.ext ht ew3
  replace hk := hk.ext ew3
  replace h1 := h1.ext ew3
  replace hlow := hlow.ext ew3
  replace hB := ew3.z hB
  refine l_p 2 tK rfl (q1 ?_)
  refine c_ifB _ rfl (fun c2 => ?_) (fun c2 => ?_)
  ·refine q0 (l_p 2 tK rfl (q1 (c_ret (x_seqR (x_ret2 rfl rfl rfl ?_)))))
   have hr : (rightB t || rowB t) = false := by simp_all
   rw [hr]
   exact ⟨⟨_, rfl, sl_nil⟩, hE⟩
  refine c_skip (x_seq (q0 ?_))
  refine lC (o_new tK rfl rfl rfl ?_)
  intro bp w4 qbp ew4 hbp
  have sw4 := Stp.add ew4 hlow hB (Nat.le_of_eq qbp.symm) hbp.lt
  have hp : MB w.heap.size (Rw.Add M bp) w4 bp 125 [.slice none 0 0] := MB.mk' hbp qbp hB
  replace hE := hE.trans sw4.below
  replace ht := Rep.stp ht sw4
  replace hk := hk.stp sw4
  replace h1 := h1.stp sw4
  replace hsub := sw4.sb hsub
  replace hlow := sw4.low
  replace hB := sw4.z hB
  have d_ho_hp : ∀ x, (.slice none 0 0 : Value).ownBlock = some x → x ≠ bp := fun x hx => by simp [Value.ownBlock] at hx
  refine q1 (q0 ?_)
  refine lC (o_lds tK (fun j v hv => h1.cell j v hv) rfl rfl rfl rfl rfl rfl ?_)
  refine lC (o_call fo83 rfl rfl rfl (penKind_spec t [] _ _ w.heap.size bp _ hp own_nil d_ho_hp hlow hB _ ht (by simp; omega)) ?_)
  rintro _ w5 ⟨rfl, Mw5, vw5, hpw5, ho, new5, sw5⟩
  replace hE := hE.trans sw5.below
  replace ht := Rep.stp ht sw5
  replace hk := hk.stp sw5
  replace h1 := h1.stp sw5
  replace hsub := sw5.sb hsub
  replace hlow := sw5.low
  replace hB := sw5.z hB
  replace hp := hpw5
  replace d_ho_hp := new5
  clear hpw5 new5
  refine q1 (q0 (l_p 1 tK rfl ?_))
  refine lC (o_ld tK (hp.cell 0 _ rfl) rfl rfl rfl rfl rfl ?_)
  refine l_p 2 tK rfl (q1 (c_ret (x_ret2 rfl rfl rfl ?_)))
  have hr : (rightB t || rowB t) = true := by simp_all
  rw [hr]
  exact ⟨⟨_, rfl, ho.sl (by simp; omega) hlow0 hsub⟩, hE⟩
 refine l_p 4 tK rfl (q1 (c_ifF rfl (c_skip (x_seq (q0 ?_)))))
 refine lC (o_new tK rfl rfl rfl ?_)
 intro bp w6 qbp ew6 hbp
 have sw6 := Stp.add ew6 hlow hB (Nat.le_of_eq qbp.symm) hbp.lt
 have hp : MB w.heap.size (Rw.Add M bp) w6 bp 125 [.slice none 0 0] := MB.mk' hbp qbp hB
 replace hE := hE.trans sw6.below
 replace ht := Rep.stp ht sw6
 replace hk := hk.stp sw6
 replace h1 := h1.stp sw6
 replace hsub := sw6.sb hsub
 replace hlow := sw6.low
 replace hB := sw6.z hB
 have d_ho_hp : ∀ x, (.slice none 0 0 : Value).ownBlock = some x → x ≠ bp := fun x hx => by simp [Value.ownBlock] at hx
 refine q1 (q0 ?_)
 refine lC (o_lds tK (fun j v hv => h1.cell j v hv) rfl rfl rfl rfl rfl rfl ?_)
 refine lC (o_call fo83 rfl rfl rfl (penKind_spec t [] _ _ w.heap.size bp _ hp own_nil d_ho_hp hlow hB _ ht (by simp; omega)) ?_)
 rintro _ w7 ⟨rfl, Mw7, vw7, hpw7, ho, new7, sw7⟩
 replace hE := hE.trans sw7.below
 replace ht := Rep.stp ht sw7
 replace hk := hk.stp sw7
 replace h1 := h1.stp sw7
 replace hsub := sw7.sb hsub
 replace hlow := sw7.low
 replace hB := sw7.z hB
 replace hp := hpw7
 replace d_ho_hp := new7
 clear hpw7 new7
 refine q1 (q0 (l_p 1 tK rfl ?_))
 refine lC (o_ld tK (hp.cell 0 _ rfl) rfl rfl rfl rfl rfl ?_)
 refine l_p 2 tK rfl (q1 (c_ret (x_ret2 rfl rfl rfl ?_)))
 have hr : (rightB t || rowB t) = true := by simp_all
 rw [hr]
 exact ⟨⟨_, rfl, ho.sl (by simp; omega) hlow0 hsub⟩, hE⟩
end Go.Proofs.Ytohfnpmehgpphaa
namespace Rw
open Go Go.RowKit
theorem sl_take {α : Type} [Rep α] {M : Nat → Prop} {w : World} {a : Option Addr} {c : Nat} {l : List α} (h : Sl M w (.slice a l.length c) l) {j : Nat} (hj : j ≤ l.length) : Sl M w (.slice a j c) (l.take j) := by
  obtain ⟨a', c', e, h1, h2, h3⟩ := h
  cases e
  have hl : (l.take j).length = j := by rw [List.length_take]; omega
  refine ⟨a, c, by rw [hl], by omega, by omega, ?_⟩
  rcases h3 with h3 | ⟨b, off, ha, hx⟩
  · left; rw [h3]; simp
  · refine .inr ⟨b, off, ha, fun i x hi => hx i x ?_⟩
    rw [List.getElem?_take] at hi
    split at hi
    · exact hi
    · cases hi
theorem sl_drop {α : Type} [Rep α] {M : Nat → Prop} {w : World} {a : Option Addr} {c : Nat} {l : List α} (h : Sl M w (.slice a l.length c) l) {j : Nat} (hj : j ≤ l.length) : Sl M w (sliced a j l.length c (Rep.sz α)) (l.drop j) := by
  obtain ⟨a', c', e, h1, h2, h3⟩ := h
  cases e
  have hl : (l.drop j).length = l.length - j := List.length_drop
  refine ⟨_, c - j, by rw [hl]; rfl, by omega, by omega, ?_⟩
  rcases h3 with h3 | ⟨b, off, ha, hx⟩
  · left; rw [h3]; simp
  · by_cases hc : c = j
    · left; exact List.eq_nil_of_length_eq_zero (by omega)
    · refine .inr ⟨b, off + j * Rep.sz α, by rw [if_neg hc, ha]; simp [addr_add], fun i x hi => ?_⟩
      rw [List.getElem?_drop] at hi
      obtain ⟨u, hu, hat⟩ := hx (j + i) x hi
      refine ⟨u, hu, ?_⟩
      rw [show off + j * Rep.sz α + i * Rep.sz α = off + (j + i) * Rep.sz α by rw [Nat.add_mul]; omega]
      exact hat
section
variable {P : Program} {T : Tab} {n : Nat} {ops : Array Oper} {Q : Exit → Act → World → Prop} {G : Env} {w : World} {K : Env → World → Prop}
  {d ty : Nat} {pos : String} {af : Array Edge} {g : Option (Nat × Bool)}
theorem o_slh {α : Type} [Rep α] {M : Nat → Prop} {v : Value} {l : List α} {t : TypeId} {x hi : Operand} {k : IntKind} {z : Int} {j : Nat} {ti te : TI} {e : Nat} (hT : TabOk P T) (hs : Sl M w v l) (hx : Env.ev G x = some v) (hhi : Env.ev G hi = some (.int k z)) (hz : z = (j : Int)) (hj : j ≤ l.length) (ht : T.get t = some ti) (htd : ti.d = .sl e) (hte : T.get e = some te)
    (hg : gd ops G ⟨some d, .slice t x none (some hi) none, ty, pos, af, g⟩ = some true) (hdn : Nat.blt d n = true) (h : ∀ v', Sl M w v' (l.take j) → K ((d, v') :: G) w) : OW P n ops Q G w ⟨some d, .slice t x none (some hi) none, ty, pos, af, g⟩ K := by
  obtain ⟨a, c, rfl, h1, h2, h3⟩ := id hs
  subst hz
  have hd := (hT t _ ht).d
  rw [htd] at hd
  simp only [TD.Ok] at hd
  have hel : P.elem t = e := by simp [Program.elem, hd]
  refine o_val (v := .slice a j c) hg rfl hdn (fun ac ha => ?_) (h _ (sl_take hs hj))
  have hd' : P.underlying t = some (.slice (P.elem t)) := by rw [hel]; exact hd
  have hsz : (Go.sizeOf (P.elem t)).run P w = .ok te.size w := by rw [hel]; exact run_sizeOf hT hte w
  simp [execOp, ha.ev hx, ha.ev hhi, run_sliceAt_slice w t _ _ _ _ hd', run_slice_h w t a l.length c hd' k (j : Int) (by omega) (by omega), hsz, sliced]
  intro _
  cases a with
  | none => rfl
  | some p => simp [Addr.add]
theorem o_slt {α : Type} [Rep α] {M : Nat → Prop} {v : Value} {l : List α} {t : TypeId} {x lo : Operand} {k : IntKind} {z : Int} {j : Nat} {ti te : TI} {e : Nat} (hT : TabOk P T) (hs : Sl M w v l) (hx : Env.ev G x = some v) (hlo : Env.ev G lo = some (.int k z)) (hz : z = (j : Int)) (hj : j ≤ l.length) (ht : T.get t = some ti) (htd : ti.d = .sl e) (hte : T.get e = some te) (hsz : te.size = Rep.sz α)
    (hg : gd ops G ⟨some d, .slice t x (some lo) none none, ty, pos, af, g⟩ = some true) (hdn : Nat.blt d n = true) (h : ∀ v', Sl M w v' (l.drop j) → K ((d, v') :: G) w) : OW P n ops Q G w ⟨some d, .slice t x (some lo) none none, ty, pos, af, g⟩ K := by
  obtain ⟨a, c, rfl, h1, h2, h3⟩ := id hs
  subst hz
  have hd := (hT t _ ht).d
  rw [htd] at hd
  simp only [TD.Ok] at hd
  have hel : P.elem t = e := by simp [Program.elem, hd]
  have hd' : P.underlying t = some (.slice (P.elem t)) := by rw [hel]; exact hd
  have hsize : (Go.sizeOf (P.elem t)).run P w = .ok te.size w := by rw [hel]; exact run_sizeOf hT hte w
  refine o_val (v := sliced a j l.length c te.size) hg rfl hdn (fun ac ha => ?_) (h _ (by rw [hsz]; exact sl_drop hs hj))
  simp [execOp, ha.ev hx, ha.ev hlo, run_sliceAt_slice w t _ _ _ _ hd', run_slice_l w t a l.length c hd' k (j : Int) (by omega) (by omega), hsize]
end
end Rw
namespace Go.Proofs.Ytohfnpmehgpphaa
open Go Rw Go.RowKit
set_option maxRecDepth 100000
theorem eyeFail_spec (M : Nat → Prop) (w : World) (B ye : Nat) (bv : Value) (l : List UInt8) (bad : Bool) (he : MB B M w ye 130 [bv, .bool bad]) (hb : Sl M w bv l) (hlow : Low M w) (hB : B ≤ w.heap.size) :
  Calls Try.prog 102 #[.pointer (some ⟨ye, 0, none⟩)] w (Ret fun r w' => r = .tuple #[] ∧ ∃ bv', MB B M w' ye 130 [bv', .bool (true)] ∧ Sl M w' bv' (([] : List UInt8)) ∧ UpdB ye w w') := by
 have hU := UpdB.refl ye w
 obtain ⟨ab, cb, rfl, _⟩ := id hb
 have hlt := hb.lt
 refine c_enter (n := 8) Try.func102 rfl rfl rfl ?_
 refine c_reg (l_p 4 tK rfl ?_)
 refine lC (o_st tK he.box rfl rfl rfl rfl (by intro u hu; simp [Value.cells] at hu; subst hu; rfl) rfl rfl ?_)
 intro w1 hw1 qw1 bew1
 have uw1 : UpdB _ _ _ := ⟨qw1, bew1⟩
 have sw1 := uw1.stp he.inM hlow he.ge
 have frw1 := qw1.2
 replace hU := hU.trans uw1
 replace hb := hb.stp sw1
 replace hlow := sw1.low
 replace hB := sw1.z hB
 replace he : MB B _ w1 ye _ [.slice ab l.length cb, .bool true] := ⟨hw1, he.inM, he.ge⟩
 refine l_p 2 tK rfl ?_
 refine lC (o_st tK he.box rfl rfl rfl rfl (by intro u hu; simp [Value.cells] at hu; subst hu; rfl) rfl rfl ?_)
 intro w2 hw2 qw2 bew2
 have uw2 : UpdB _ _ _ := ⟨qw2, bew2⟩
 have sw2 := uw2.stp he.inM hlow he.ge
 have frw2 := qw2.2
 replace hU := hU.trans uw2
 replace hb := hb.stp sw2
 replace hlow := sw2.low
 replace hB := sw2.z hB
 replace he : MB B _ w2 ye _ [.slice none 0 0, .bool true] := ⟨hw2, he.inM, he.ge⟩
 refine l_nil ?_
 refine x_ret0n rfl ?_
 exact ⟨rfl, _, he, sl_nil, hU⟩
theorem eyeOne_spec (M : Nat → Prop) (w : World) (B ye : Nat) (bv : Value) (l : List UInt8) (bad : Bool) (he : MB B M w ye 130 [bv, .bool bad]) (hb : Sl M w bv l) (hlow : Low M w) (hB : B ≤ w.heap.size) :
  Calls Try.prog 103 #[.pointer (some ⟨ye, 0, none⟩)] w (Ret fun r w' => r = .int .u8 (l.headD 0).toNat ∧ ∃ bv', MB B M w' ye 130 [bv', .bool (bad || l.isEmpty)] ∧ Sl M w' bv' (l.tail) ∧ UpdB ye w w') := by
 have hU := UpdB.refl ye w
 obtain ⟨ab, cb, rfl, _⟩ := id hb
 have hlt := hb.lt
 refine c_enter (n := 27) Try.func103 rfl rfl rfl ?_
 refine q0 (l_p 1 tK rfl (q1 (c_seq (q0 (l_p 3 tK rfl ?_)))))
 refine lC (o_ld tK (he.cell 0 _ rfl) rfl rfl rfl rfl rfl ?_)
 refine lC (o_len tK hb rfl rfl rfl rfl rfl ?_)
 refine l_p 1 tK rfl (q1 ?_)
 refine c_ifP _ rfl (fun hc => ?_) (fun hc => ?_)
 ·obtain rfl : l = [] := List.eq_nil_of_length_eq_zero (by omega)
  refine q0 (l_p 1 tK rfl ?_)
  refine lC (o_call fo102 rfl rfl rfl (eyeFail_spec _ _ B ye _ _ _ he hb hlow hB) ?_)
  rintro _ w1 ⟨rfl, bvw1, hew1, hbw1, uw1⟩
  have sw1 := uw1.stp he.inM hlow he.ge
  have frw1 := uw1.upd.2
  replace hU := hU.trans uw1
  replace hlow := sw1.low
  replace hB := sw1.z hB
  replace he := hew1
  replace hb := hbw1
  obtain ⟨abw1, cbw1, rfl, _⟩ := id hb
  refine q1 (q0 (l_p 1 tK rfl (q1 (c_ret (x_seqR (x_ret1 rfl rfl ?_))))))
  exact ⟨rfl, _, by rw [show (bad || ([] : List UInt8).isEmpty) = true by simp]; exact he, hb, hU⟩
 obtain ⟨c, r, rfl⟩ : ∃ c r, l = c :: r := by
  cases l with
  | nil => exact absurd rfl hc
  | cons c r => exact ⟨c, r, rfl⟩
 refine c_skip (x_seq (q0 (l_p 3 tK rfl ?_)))
 refine lC (o_ld tK (he.cell 0 _ rfl) rfl rfl rfl rfl rfl ?_)
 refine lC (o_ixS tK hb (show (c :: r)[0]? = some c from rfl) rfl rfl rfl rfl rfl rfl rfl rfl rfl ?_)
 intro eb eo eu hr hat
 replace hr : eu = .int .u8 c.toNat := hr
 subst hr
 refine lC (o_ld tK (hat.cell 0 _ rfl) rfl rfl rfl rfl rfl ?_)
 refine l_p 1 tK rfl (q1 (q0 (l_p 4 tK rfl ?_)))
 refine lC (o_ld tK (he.cell 0 _ rfl) rfl rfl rfl rfl rfl ?_)
 refine lC (o_slt tK hb rfl rfl rfl (j := 1) (by simp) rfl rfl rfl rfl rfl rfl ?_)
 intro bv2 hb2
 replace hb2 : Sl M w bv2 r := hb2
 obtain ⟨a2, c2, rfl, _⟩ := id hb2
 refine l_p 2 tK rfl ?_
 refine lC (o_st tK he.box rfl rfl rfl rfl (by intro u hu; simp [Value.cells] at hu; subst hu; rfl) rfl rfl ?_)
 intro w2 hw2 qw2 bew2
 have uw2 : UpdB _ _ _ := ⟨qw2, bew2⟩
 have sw2 := uw2.stp he.inM hlow he.ge
 have frw2 := qw2.2
 replace hU := hU.trans uw2
 replace hb := hb.stp sw2
 replace hb2 := hb2.stp sw2
 replace hlow := sw2.low
 replace hB := sw2.z hB
 replace he : MB B _ w2 ye _ [.slice a2 r.length c2, .bool bad] := ⟨hw2, he.inM, he.ge⟩
 refine q1 (q0 (l_p 2 tK rfl (q1 (c_ret (x_ret1 rfl rfl ?_)))))
 exact ⟨rfl, _, by rw [show (bad || (c :: r).isEmpty) = bad by simp]; exact he, hb2, hU⟩
theorem eyeNum_spec (M : Nat → Prop) (w : World) (B ye : Nat) (bv : Value) (l : List UInt8) (bad : Bool) (he : MB B M w ye 130 [bv, .bool bad]) (hb : Sl M w bv l) (hlow : Low M w) (hB : B ≤ w.heap.size) :
  Calls Try.prog 101 #[.pointer (some ⟨ye, 0, none⟩)] w (Ret fun r w' => r = .int .u64 ((numE l bad).1 : Nat) ∧ ∃ bv', MB B M w' ye 130 [bv', .bool ((numE l bad).2.2)] ∧ Sl M w' bv' ((numE l bad).2.1) ∧ UpdB ye w w') := by
 have hU := UpdB.refl ye w
 obtain ⟨ab, cb, rfl, _⟩ := id hb
 have hlt := hb.lt
 refine c_enter (n := 39) Try.func101 rfl rfl rfl ?_
 refine q0 (l_p 1 tK rfl (q1 (q0 (l_p 1 tK rfl (q1 (c_seq (q0 (l_p 1 tK rfl (q1 (c_blk ?_))))))))))
 refine c_loop5 (X := Nat) (Y := Nat) (Z := List UInt8) (U := Bool) (V := Value) (fun i n k bd bv => [(0, .pointer (some ⟨ye, 0, none⟩)), (3, .int .u64 (n : Nat)), (6, .int .i64 (i : Nat))]) (fun i n k bd bv w' => i ≤ 9 ∧ n < 2 ^ (7 * i) ∧ eyeN (9 - i) i n k bd = eyeN 9 0 0 l bad ∧ MB B M w' ye 130 [bv, .bool bd] ∧ Sl M w' bv k ∧ UpdB ye w w' ∧ Low M w' ∧ B ≤ w'.heap.size) (fun i n k bd bv => 9 - i) (0) (0) (l) (bad) (.slice ab l.length cb) (s3 rfl rfl rfl) ?_ ?_
 ·exact ⟨Nat.zero_le _, by decide, rfl, he, hb, hU, hlow, hB⟩
 clear he hb hU hlow hB
 rintro i n k bd bv w1 ⟨hi, hn, hinv, he, hb, hU, hlow, hB⟩
 obtain ⟨ab2, cb2, rfl, _⟩ := id hb
 refine q0 (l_p 1 tK rfl (q1 (c_seq ?_)))
 refine c_ifP _ rfl (fun c1 => ?_) (fun c1 => ?_)
 ·have hpw := pow_small (i := i + 1) (by omega)
  have hbd := eye_bound (c := k.headD 0) hn
  refine c_skip (x_seq (c_seq (c_blk (q0 (l_p 2 tK rfl (q1 (q0 (l_p 1 tK rfl ?_))))))))
  refine lC (o_call fo103 rfl rfl rfl (eyeOne_spec _ _ B ye _ _ _ he hb hlow hB) ?_)
  rintro _ w2 ⟨rfl, bvw2, hew2, hbw2, uw2⟩
  have sw2 := uw2.stp he.inM hlow he.ge
  have frw2 := uw2.upd.2
  replace hU := hU.trans uw2
  replace hlow := sw2.low
  replace hB := sw2.z hB
  replace he := hew2
  replace hb := hbw2
  obtain ⟨abw2, cbw2, rfl, _⟩ := id hb
  refine l_p 1 tK rfl (q1 (c_seq (q0 (l_p 3 tK rfl ?_))))
  refine l_splitP 13 _ rfl (fun c2 => ?_) (fun c2 => ?_)
  ·refine l_p 4 tK rfl ?_
   refine l_splitP 17 _ rfl (fun c3 => ?_) (fun c3 => ?_)
   ·refine l_p 5 tK rfl (q1 (c_ifT rfl (q0 (l_p 1 tK rfl ?_))))
    have hyes : (k.headD 0 = 0 ∧ 0 < i) ∨ (bd || k.isEmpty) = true := by
     have hz : (k.headD 0).toNat = 0 → k.headD 0 = 0 := fun h => UInt8.toNat_inj.1 h
     first | (right; assumption) | exact .inl ⟨hz (by omega), by omega⟩
    refine lC (o_call fo102 rfl rfl rfl (eyeFail_spec _ _ B ye _ _ _ he hb hlow hB) ?_)
    rintro _ w3 ⟨rfl, bvw3, hew3, hbw3, uw3⟩
    have sw3 := uw3.stp he.inM hlow he.ge
    have frw3 := uw3.upd.2
    replace hU := hU.trans uw3
    replace hlow := sw3.low
    replace hB := sw3.z hB
    replace he := hew3
    replace hb := hbw3
    obtain ⟨abw3, cbw3, rfl, _⟩ := id hb
    refine q1 (q0 (l_p 1 tK rfl (q1 (c_ret (x_seqR (x_blkR (x_seqR (x_seqR (x_blkR (x_seqR (x_ret1 rfl rfl ?_)))))))))))
    unfold numE
    rw [← hinv, show 9 - i = (9 - (i + 1)) + 1 by omega, eyeN_bad hyes]
    exact ⟨rfl, _, he, hb, hU⟩
   refine l_p 3 tK rfl ?_
   refine lC (o_ld tK (he.cell 1 _ rfl) rfl rfl rfl rfl rfl ?_)
   refine l_p 1 tK rfl (q1 ?_)
   refine c_if _ rfl (fun c4 => ?_) (fun c4 => ?_)
   ·refine q0 (l_p 1 tK rfl ?_)
    have hyes : (k.headD 0 = 0 ∧ 0 < i) ∨ (bd || k.isEmpty) = true := by
     have hz : (k.headD 0).toNat = 0 → k.headD 0 = 0 := fun h => UInt8.toNat_inj.1 h
     first | (right; assumption) | exact .inl ⟨hz (by omega), by omega⟩
    refine lC (o_call fo102 rfl rfl rfl (eyeFail_spec _ _ B ye _ _ _ he hb hlow hB) ?_)
    rintro _ w4 ⟨rfl, bvw4, hew4, hbw4, uw4⟩
    have sw4 := uw4.stp he.inM hlow he.ge
    have frw4 := uw4.upd.2
    replace hU := hU.trans uw4
    replace hlow := sw4.low
    replace hB := sw4.z hB
    replace he := hew4
    replace hb := hbw4
    obtain ⟨abw4, cbw4, rfl, _⟩ := id hb
    refine q1 (q0 (l_p 1 tK rfl (q1 (c_ret (x_seqR (x_blkR (x_seqR (x_seqR (x_blkR (x_seqR (x_ret1 rfl rfl ?_)))))))))))
    unfold numE
    rw [← hinv, show 9 - i = (9 - (i + 1)) + 1 by omega, eyeN_bad hyes]
    exact ⟨rfl, _, he, hb, hU⟩
   refine c_skip (x_seq (q0 (l_p 2 tK rfl ?_)))
   have hno : ¬ ((k.headD 0 = 0 ∧ 0 < i) ∨ (bd || k.isEmpty) = true) := by
    rintro (⟨h1, h2⟩ | h)
    ·have h3 : (k.headD 0).toNat = 0 := by rw [h1]; rfl
     omega
    ·simp_all
   refine lC (o_and (r := (((k.headD 0).toNat % 128 : Nat) : Int)) rfl rfl (and_127 _) rfl rfl ?_)
   refine lC (o_conv (y := (((k.headD 0).toNat % 128 : Nat) : Int)) tK rfl rfl rfl rfl rfl ((wrap_u64 _).trans (by rw [u64_nat (by omega)])) rfl rfl ?_)
   refine l_p 1 tK rfl ?_
   refine lC (o_ar rfl rfl rfl (z := ((7 * i : Nat) : Int)) (by rw [IntWalk.i64_in _ (by omega)]; omega) rfl rfl ?_)
   refine lC (o_shl (s := 7 * i) (r := (((k.headD 0).toNat % 128 * 2 ^ (7 * i) : Nat) : Int)) rfl rfl (show 7 * i ≤ 64 by omega) (by rw [show (((k.headD 0).toNat % 128 : Nat) : Int) * 2 ^ (7 * i) = (((k.headD 0).toNat % 128 * 2 ^ (7 * i) : Nat) : Int) by simp, wrap_u64, u64_nat (by omega)]) rfl rfl ?_)
   refine lC (o_or (r := ((n + (k.headD 0).toNat % 128 * 2 ^ (7 * i) : Nat) : Int)) rfl rfl (or_add hn (by omega)) rfl rfl ?_)
   refine l_p 1 tK rfl (q1 (q0 (l_p 2 tK rfl (q1 ?_))))
   refine c_ifP _ rfl (fun c5 => ?_) (fun c5 => ?_)
   ·refine q0 (l_p 2 tK rfl (q1 (c_ret (x_blkR (x_seqR (x_seqR (x_blkR (x_seqR (x_ret1 rfl rfl ?_)))))))))
    unfold numE
    rw [← hinv, show 9 - i = (9 - (i + 1)) + 1 by omega, eyeN_last hno (by omega)]
    exact ⟨rfl, _, he, hb, hU⟩
   refine c_skip (x_blk (x_seq (c_reg ?_)))
   refine lC (o_ai rfl rfl rfl (by omega) rfl rfl ?_)
   refine l_p 1 tK rfl (l_nil ?_)
   exact x_round5 (i + 1) (n + (k.headD 0).toNat % 128 * 2 ^ (7 * i)) (k.tail) (bd || k.isEmpty) ((.slice abw2 _ cbw2)) (s3 rfl rfl (get_num rfl (by omega))) ⟨by omega, eye_bound hn, by rw [← hinv, show 9 - i = (9 - (i + 1)) + 1 by omega]; exact (eyeN_step hno (by omega)).symm, he, hb, hU, hlow, hB⟩ (by omega)
  refine l_p 7 tK rfl ?_
  refine lC (o_ld tK (he.cell 1 _ rfl) rfl rfl rfl rfl rfl ?_)
  refine l_p 1 tK rfl (q1 ?_)
  refine c_if _ rfl (fun c6 => ?_) (fun c6 => ?_)
  ·refine q0 (l_p 1 tK rfl ?_)
   have hyes : (k.headD 0 = 0 ∧ 0 < i) ∨ (bd || k.isEmpty) = true := by
    have hz : (k.headD 0).toNat = 0 → k.headD 0 = 0 := fun h => UInt8.toNat_inj.1 h
    first | (right; assumption) | exact .inl ⟨hz (by omega), by omega⟩
   refine lC (o_call fo102 rfl rfl rfl (eyeFail_spec _ _ B ye _ _ _ he hb hlow hB) ?_)
   rintro _ w5 ⟨rfl, bvw5, hew5, hbw5, uw5⟩
   have sw5 := uw5.stp he.inM hlow he.ge
   have frw5 := uw5.upd.2
   replace hU := hU.trans uw5
   replace hlow := sw5.low
   replace hB := sw5.z hB
   replace he := hew5
   replace hb := hbw5
   obtain ⟨abw5, cbw5, rfl, _⟩ := id hb
   refine q1 (q0 (l_p 1 tK rfl (q1 (c_ret (x_seqR (x_blkR (x_seqR (x_seqR (x_blkR (x_seqR (x_ret1 rfl rfl ?_)))))))))))
   unfold numE
   rw [← hinv, show 9 - i = (9 - (i + 1)) + 1 by omega, eyeN_bad hyes]
   exact ⟨rfl, _, he, hb, hU⟩
  refine c_skip (x_seq (q0 (l_p 2 tK rfl ?_)))
  have hno : ¬ ((k.headD 0 = 0 ∧ 0 < i) ∨ (bd || k.isEmpty) = true) := by
   rintro (⟨h1, h2⟩ | h)
   ·have h3 : (k.headD 0).toNat = 0 := by rw [h1]; rfl
    omega
   ·simp_all
  refine lC (o_and (r := (((k.headD 0).toNat % 128 : Nat) : Int)) rfl rfl (and_127 _) rfl rfl ?_)
  refine lC (o_conv (y := (((k.headD 0).toNat % 128 : Nat) : Int)) tK rfl rfl rfl rfl rfl ((wrap_u64 _).trans (by rw [u64_nat (by omega)])) rfl rfl ?_)
  refine l_p 1 tK rfl ?_
  refine lC (o_ar rfl rfl rfl (z := ((7 * i : Nat) : Int)) (by rw [IntWalk.i64_in _ (by omega)]; omega) rfl rfl ?_)
  refine lC (o_shl (s := 7 * i) (r := (((k.headD 0).toNat % 128 * 2 ^ (7 * i) : Nat) : Int)) rfl rfl (show 7 * i ≤ 64 by omega) (by rw [show (((k.headD 0).toNat % 128 : Nat) : Int) * 2 ^ (7 * i) = (((k.headD 0).toNat % 128 * 2 ^ (7 * i) : Nat) : Int) by simp, wrap_u64, u64_nat (by omega)]) rfl rfl ?_)
  refine lC (o_or (r := ((n + (k.headD 0).toNat % 128 * 2 ^ (7 * i) : Nat) : Int)) rfl rfl (or_add hn (by omega)) rfl rfl ?_)
  refine l_p 1 tK rfl (q1 (q0 (l_p 2 tK rfl (q1 ?_))))
  refine c_ifP _ rfl (fun c7 => ?_) (fun c7 => ?_)
  ·refine q0 (l_p 2 tK rfl (q1 (c_ret (x_blkR (x_seqR (x_seqR (x_blkR (x_seqR (x_ret1 rfl rfl ?_)))))))))
   unfold numE
   rw [← hinv, show 9 - i = (9 - (i + 1)) + 1 by omega, eyeN_last hno (by omega)]
   exact ⟨rfl, _, he, hb, hU⟩
  refine c_skip (x_blk (x_seq (c_reg ?_)))
  refine lC (o_ai rfl rfl rfl (by omega) rfl rfl ?_)
  refine l_p 1 tK rfl (l_nil ?_)
  exact x_round5 (i + 1) (n + (k.headD 0).toNat % 128 * 2 ^ (7 * i)) (k.tail) (bd || k.isEmpty) ((.slice abw2 _ cbw2)) (s3 rfl rfl (get_num rfl (by omega))) ⟨by omega, eye_bound hn, by rw [← hinv, show 9 - i = (9 - (i + 1)) + 1 by omega]; exact (eyeN_step hno (by omega)).symm, he, hb, hU, hlow, hB⟩ (by omega)
 refine c_exit (x_seqE (x_seqE (x_blkE (x_seq (q0 (l_p 1 tK rfl ?_))))))
 refine lC (o_call fo102 rfl rfl rfl (eyeFail_spec _ _ B ye _ _ _ he hb hlow hB) ?_)
 rintro _ w6 ⟨rfl, bvw6, hew6, hbw6, uw6⟩
 have sw6 := uw6.stp he.inM hlow he.ge
 have frw6 := uw6.upd.2
 replace hU := hU.trans uw6
 replace hlow := sw6.low
 replace hB := sw6.z hB
 replace he := hew6
 replace hb := hbw6
 obtain ⟨abw6, cbw6, rfl, _⟩ := id hb
 refine q1 (q0 (l_p 1 tK rfl (q1 (c_ret (x_ret1 rfl rfl ?_)))))
 unfold numE
 rw [← hinv, show 9 - i = 0 by omega, show eyeN 0 i n k bd = (0, [], true) from rfl]
 exact ⟨rfl, _, he, hb, hU⟩
theorem eyeText_spec (M : Nat → Prop) (w : World) (B ye : Nat) (bv : Value) (l : List UInt8) (bad : Bool) (he : MB B M w ye 130 [bv, .bool bad]) (hb : Sl M w bv l) (hlow : Low M w) (hB : B ≤ w.heap.size) :
  Calls Try.prog 73 #[.pointer (some ⟨ye, 0, none⟩)] w (Ret fun r w' => r = .string (textE l bad).1 ∧ ∃ bv', MB B M w' ye 130 [bv', .bool ((textE l bad).2.2)] ∧ Sl M w' bv' ((textE l bad).2.1) ∧ UpdB ye w w') := by
 have hU := UpdB.refl ye w
 obtain ⟨ab, cb, rfl, _⟩ := id hb
 have hlt := hb.lt
 refine c_enter (n := 34) Try.func73 rfl rfl rfl ?_
 refine q0 (l_p 1 tK rfl (q1 (q0 (l_p 1 tK rfl ?_))))
 refine lC (o_call fo101 rfl rfl rfl (eyeNum_spec _ _ B ye _ _ _ he hb hlow hB) ?_)
 rintro _ w1 ⟨rfl, bvw1, hew1, hbw1, uw1⟩
 have sw1 := uw1.stp he.inM hlow he.ge
 have frw1 := uw1.upd.2
 replace hU := hU.trans uw1
 replace hlow := sw1.low
 replace hB := sw1.z hB
 replace he := hew1
 replace hb := hbw1
 obtain ⟨abw1, cbw1, rfl, _⟩ := id hb
 have hlt2 := hb.lt
 refine l_p 1 tK rfl (q1 (c_seq (q0 (l_p 4 tK rfl ?_))))
 refine lC (o_ld tK (he.cell 0 _ rfl) rfl rfl rfl rfl rfl ?_)
 refine lC (o_len tK hb rfl rfl rfl rfl rfl ?_)
 refine lC (o_conv (y := (((numE l bad).2.1.length : Nat) : Int)) tK rfl rfl rfl rfl rfl ((wrap_u64 _).trans (by rw [u64_nat (by omega)])) rfl rfl ?_)
 refine l_p 1 tK rfl (q1 ?_)
 refine c_ifP _ rfl (fun c1 => ?_) (fun c1 => ?_)
 ·refine q0 (l_p 1 tK rfl ?_)
  refine lC (o_call fo102 rfl rfl rfl (eyeFail_spec _ _ B ye _ _ _ he hb hlow hB) ?_)
  rintro _ w2 ⟨rfl, bvw2, hew2, hbw2, uw2⟩
  have sw2 := uw2.stp he.inM hlow he.ge
  have frw2 := uw2.upd.2
  replace hU := hU.trans uw2
  replace hlow := sw2.low
  replace hB := sw2.z hB
  replace he := hew2
  replace hb := hbw2
  obtain ⟨abw2, cbw2, rfl, _⟩ := id hb
  refine q1 (q0 (l_p 1 tK rfl (q1 (c_ret (x_seqR (x_ret1 rfl rfl ?_))))))
  unfold textE
  rw [if_pos (by omega)]
  exact ⟨rfl, _, he, hb, hU⟩
 refine c_skip (x_seq (q0 (l_p 3 tK rfl ?_)))
 refine lC (o_ld tK (he.cell 0 _ rfl) rfl rfl rfl rfl rfl ?_)
 refine l_p 1 tK rfl ?_
 refine lC (o_slh tK hb rfl rfl (j := (numE l bad).1) rfl (by omega) rfl rfl rfl rfl rfl ?_)
 intro bv2 hb2
 refine lC (o_b2s tK hb2 rfl rfl rfl rfl rfl rfl rfl rfl rfl ?_)
 refine l_p 1 tK rfl (q1 (q0 (l_p 4 tK rfl ?_)))
 refine lC (o_ld tK (he.cell 0 _ rfl) rfl rfl rfl rfl rfl ?_)
 refine l_p 1 tK rfl ?_
 refine lC (o_slt tK hb rfl rfl (j := (numE l bad).1) rfl (by omega) rfl rfl rfl rfl rfl rfl ?_)
 intro bv3 hb3
 obtain ⟨a3, c3, rfl, _⟩ := id hb3
 refine l_p 2 tK rfl ?_
 refine lC (o_st tK he.box rfl rfl rfl rfl (by intro u hu; simp [Value.cells] at hu; subst hu; rfl) rfl rfl ?_)
 intro w3 hw3 qw3 bew3
 have uw3 : UpdB _ _ _ := ⟨qw3, bew3⟩
 have sw3 := uw3.stp he.inM hlow he.ge
 have frw3 := qw3.2
 replace hU := hU.trans uw3
 replace hb := hb.stp sw3
 replace hb2 := hb2.stp sw3
 replace hb3 := hb3.stp sw3
 replace hlow := sw3.low
 replace hB := sw3.z hB
 replace he : MB B _ w3 ye _ [.slice a3 ((numE l bad).2.1.drop (numE l bad).1).length c3, .bool (numE l bad).2.2] := ⟨hw3, he.inM, he.ge⟩
 refine q1 (q0 (l_p 2 tK rfl (q1 (c_ret (x_ret1 rfl rfl ?_)))))
 unfold textE
 rw [if_neg (by omega)]
 exact ⟨rfl, _, he, hb3, hU⟩
end Go.Proofs.Ytohfnpmehgpphaa
namespace Go.Proofs.Ytohfnpmehgpphaa
open Go Rw Go.RowKit
set_option maxRecDepth 100000
theorem numR_own (n : Nat) (hn : n < 18446744073709551616) (B : Nat) (M : Nat → Prop) (w : World) (hlow : Low M w) (hB : B ≤ w.heap.size) :
  Calls Try.prog 72 #[.int .u64 (n : Int)] w (Ret fun r w' => ∃ M', OwnSl 5 B M' w' r (numY n) ∧ Stp B M M' w w') := by
 induction n using Nat.strongRecOn generalizing B M w with
 | ind n ih =>
 have hT : Stp B M M w w := Stp.refl hlow
 have hbn := numY_len (n / 128)
 refine c_enter (n := 17) Try.func72 rfl rfl rfl ?_
 refine q0 (l_p 1 tK rfl (q1 (c_seq (q0 (l_p 2 tK rfl (q1 ?_))))))
 refine c_ifP _ rfl (fun hc => ?_) (fun hc => ?_)
 ·refine q0 (l_p 1 tK rfl ?_)
  refine lC (o_conv (y := ((UInt8.ofNat n).toNat : Int)) tK rfl rfl rfl rfl rfl (by rw [wrap_u8, UInt8.toNat_ofNat']) rfl rfl ?_)
  refine lC (o_bs tK rfl rfl rfl rfl rfl rfl rfl (sz1 rfl) rfl rfl rfl ?_)
  intro bw1 w1 qbw1 ew1 hbw1
  have sw1 := Stp.add ew1 hlow hB (Nat.le_of_eq qbw1.symm) hbw1.lt
  have le_bw1 := hB
  replace hT := hT.then sw1
  replace hlow := sw1.low
  replace hB := sw1.z hB
  have ho := own_litS sw1 hbw1 (show Rs _ _ [_] [UInt8.ofNat n] from ⟨rfl, trivial⟩) qbw1 le_bw1 (by simp [maxLen])
  refine l_p 1 tK rfl (q1 (c_ret (x_seqR (x_ret1 rfl rfl ?_))))
  refine ⟨_, ?_, hT⟩
  rw [numY_small (by omega)]; exact ho
 refine c_skip (x_seq (q0 (l_p 1 tK rfl ?_)))
 refine lC (o_rem128 rfl rfl rfl rfl ?_)
 refine lC (o_ar rfl rfl rfl (z := (128 : Int) + ((n % 128 : Nat) : Int)) (IntWalk.u64_in _ (by omega)) rfl rfl ?_)
 refine lC (o_conv (y := ((UInt8.ofNat (128 + n % 128)).toNat : Int)) tK rfl rfl rfl rfl rfl (by rw [show (128 : Int) + ((n % 128 : Nat) : Int) = ((128 + n % 128 : Nat) : Int) by omega, wrap_u8, UInt8.toNat_ofNat']) rfl rfl ?_)
 refine lC (o_bs tK rfl rfl rfl rfl rfl rfl rfl (sz1 rfl) rfl rfl rfl ?_)
 intro bw2 w2 qbw2 ew2 hbw2
 have sw2 := Stp.add ew2 hlow hB (Nat.le_of_eq qbw2.symm) hbw2.lt
 have le_bw2 := hB
 replace hT := hT.then sw2
 replace hlow := sw2.low
 replace hB := sw2.z hB
 have ho := own_litS sw2 hbw2 (show Rs _ _ [_] [UInt8.ofNat (128 + n % 128)] from ⟨rfl, trivial⟩) qbw2 le_bw2 (by simp [maxLen])
 refine l_p 1 tK rfl ?_
 refine lC (o_quo128 rfl rfl (by simpa using hn) rfl rfl ?_)
 refine lC (o_call fo72 rfl rfl rfl ((ih (n / 128) (by omega) (by omega) _ _ _ hlow (Nat.le_refl _)).mono (Ret.mono fun r w' h => (show Sl (Rw.Add M bw2) w' r (numY (n / 128)) ∧ Ext _ w' from let ⟨_, h1, h2⟩ := h; ⟨h1.sl (by omega) hlow h2.sub, h2.below⟩))) ?_)
 rintro vr w3 ⟨hr, ew3⟩
 replace hT := hT.then (Stp.ext ew3 hlow hB)
 replace ho := ho.ext hlow hB ew3
 replace hlow := hlow.ext ew3
 replace hB := ew3.z hB
 refine lC (o_app tK ho hr hlow hB rfl rfl rfl rfl rfl rfl rfl (by simp; omega) (by show (_ + _) * 1 ≤ _; simp; omega) rfl rfl ?_)
 intro vw4 w4 Mw4 hw4 sw4 frw4 blw4
 replace hT := hT.then sw4
 replace hr := hr.stp sw4
 replace hlow := sw4.low
 replace hB := sw4.z hB
 replace ho := hw4
 clear hw4
 refine l_p 1 tK rfl (q1 (c_ret (x_ret1 rfl rfl ?_)))
 refine ⟨_, ?_, hT⟩
 rw [numY_step (by omega) hn]; exact ho
theorem textR_spec (s : ByteArray) (hs : s.size ≤ 999999999000) (M : Nat → Prop) (w : World) (hlow0 : Low M w) :
  Calls Try.prog 30 #[.string s] w (Ret fun r w' => Sl M w' r (textB s) ∧ Ext w w') := by
 have hlow := hlow0
 have hB : w.heap.size ≤ w.heap.size := Nat.le_refl _
 have hE : Below w.heap.size w w := Below.refl _ _
 have hsub : ∀ b, M b → M b := fun _ h => h
 have hbn := numY_len s.size
 refine c_enter (n := 9) Try.func30 rfl rfl rfl ?_
 refine q0 (l_p 1 tK rfl (q1 (q0 (l_p 2 tK rfl ?_))))
 refine lC (o_conv (y := ((s.size : Nat) : Int)) tK rfl rfl rfl rfl rfl ((wrap_u64 _).trans (by rw [u64_nat (by omega)])) rfl rfl ?_)
 refine lC (o_call fo72 rfl rfl rfl (numR_own s.size (by omega) w.heap.size _ _ hlow hB) ?_)
 rintro wv w1 ⟨M0, ho, sw1⟩
 replace hE := hE.trans sw1.below
 replace hsub := sw1.sb hsub
 replace hlow := sw1.low
 replace hB := sw1.z hB
 refine l_p 1 tK rfl ?_
 refine lC (o_appS tK ho hlow hB rfl rfl rfl rfl rfl rfl rfl rfl rfl (by simp; omega) (by show (_ + _) * 1 ≤ _; simp; omega) rfl rfl ?_)
 intro vw2 w2 Mw2 hw2 sw2 frw2 blw2
 replace hE := hE.trans sw2.below
 replace hsub := sw2.sb hsub
 replace hlow := sw2.low
 replace hB := sw2.z hB
 replace ho := hw2
 clear hw2
 refine l_p 1 tK rfl (q1 (c_ret (x_ret1 rfl rfl ?_)))
 have := textB_len s
 exact ⟨ho.sl (by show (textB s).length < _; omega) hlow0 hsub, hE⟩
theorem sameB_spec (l k : List UInt8) (M : Nat → Prop) (w : World) (v u : Value) (hs : Sl M w v l) (hk : Sl M w u k) :
  Calls Try.prog 29 #[v, u] w (Ret fun r w' => r = .bool (decide (l = k)) ∧ Ext w w') := by
 have hE : Below w.heap.size w w := Below.refl _ _
 have hB : w.heap.size ≤ w.heap.size := Nat.le_refl _
 have hlt := hs.lt
 have hkt := hk.lt
 refine c_enter (n := 26) Try.func29 rfl rfl rfl ?_
 refine q0 (l_p 1 tK rfl (q1 (c_seq (q0 (l_p 1 tK rfl ?_)))))
 refine lC (o_len tK hs rfl rfl rfl rfl rfl ?_)
 refine l_p 1 tK rfl ?_
 refine lC (o_len tK hk rfl rfl rfl rfl rfl ?_)
 refine l_p 1 tK rfl (q1 ?_)
 refine c_ifN _ rfl (fun c1 => ?_) (fun c1 => ?_)
 ·refine q0 (l_p 1 tK rfl (q1 (c_ret (x_seqR (x_ret1 rfl rfl ?_)))))
  exact ⟨by rw [decide_eq_false (fun e : l = k => by subst e; omega)], hE⟩
 refine c_skip (x_seq (c_seq (q0 (l_p 1 tK rfl (q1 (c_blk ?_))))))
 have hll : l.length = k.length := by omega
 refine c_loop (X := Nat) (fun i => [(0, v), (1, u), (5, .int .i64 (i : Nat))]) (fun i w' => i ≤ l.length ∧ l.take i = k.take i ∧ Sl M w' v l ∧ Sl M w' u k ∧ Below w.heap.size w w' ∧ w.heap.size ≤ w'.heap.size) (fun i => l.length - i) (0) (s3 rfl rfl rfl) ?_ ?_
 ·exact ⟨Nat.zero_le _, rfl, hs, hk, hE, hB⟩
 rintro i w1 ⟨hi, htk, hs, hk, hE, hB⟩
 refine c_seq (q0 (l_p 2 tK rfl ?_))
 refine lC (o_len tK hs rfl rfl rfl rfl rfl ?_)
 refine l_p 1 tK rfl (q1 ?_)
 refine c_ifP _ rfl (fun c2 => ?_) (fun c2 => ?_)
 ·refine c_skip (x_seq (c_seq (c_blk (c_seq ?_))))
  refine a_beg Ext rfl ?_
  intro w2 ew2
  replace hE := ew2.bl hE hB
  replace hs := hs.ext ew2
  replace hk := hk.ext ew2
  replace hB := ew2.z hB
  have hS : Ext w2 w2 := ext_refl _
  have D_hs := hs
  have D_hk := hk
  refine a_p 0 tK rfl rfl rfl rfl (by kernel_rfl) (fun _ _ _ h => h) hS ?_
  refine a_p 1 tK rfl rfl rfl rfl (by kernel_rfl) (fun _ _ _ h => h) hS ?_
  have hil : i < l.length := by omega
  have hik : i < k.length := by omega
  refine a_ixS 2 tK D_hs (List.getElem?_eq_getElem hil) rfl rfl rfl rfl rfl rfl rfl rfl rfl rfl (by kernel_rfl) (fun _ _ _ _ h => h) hS ?_
  intro ebz3 eoz3 euz3 hrz3 hatz3
  replace hrz3 : euz3 = .int .u8 (l[i]).toNat := hrz3
  subst hrz3
  refine a_ld 3 tK (fun _ hs => (hatz3.ext hs).cell 0 _ rfl) rfl rfl rfl rfl rfl rfl (by kernel_rfl) (fun _ _ _ h => h) hS ?_
  refine a_p 4 tK rfl rfl rfl rfl (by kernel_rfl) (fun _ _ _ h => h) hS ?_
  refine a_p 5 tK rfl rfl rfl rfl (by kernel_rfl) (fun _ _ _ h => h) hS ?_
  refine a_ixS 6 tK D_hk (List.getElem?_eq_getElem hik) rfl rfl rfl rfl rfl rfl rfl rfl rfl rfl (by kernel_rfl) (fun _ _ _ _ h => h) hS ?_
  intro ebz4 eoz4 euz4 hrz4 hatz4
  replace hrz4 : euz4 = .int .u8 (k[i]).toNat := hrz4
  subst hrz4
  refine a_ld 7 tK (fun _ hs => (hatz4.ext hs).cell 0 _ rfl) rfl rfl rfl rfl rfl rfl (by kernel_rfl) (fun _ _ _ h => h) hS ?_
  refine a_p 8 tK rfl rfl rfl rfl (by kernel_rfl) (fun _ _ _ h => h) hS ?_
  refine a_end (by kernel_rfl) ?_
  refine x_seq ?_
  refine c_ifN _ rfl (fun c5 => ?_) (fun c5 => ?_)
  ·refine q0 (l_p 1 tK rfl (q1 (c_ret (x_blkR (x_seqR (x_seqR (x_blkR (x_seqR (x_ret1 rfl rfl ?_)))))))))
   exact ⟨by rw [decide_eq_false (fun e : l = k => by subst e; omega)], hE⟩
  refine c_skip (x_blk (x_seq (c_reg (l_p 1 tK rfl ?_))))
  refine lC (o_ai rfl rfl rfl (by omega) rfl rfl ?_)
  refine l_p 1 tK rfl (l_nil ?_)
  exact x_round (i + 1) (s3 rfl rfl (get_num rfl (by omega))) ⟨by omega, by
   have h5 : l[i] = k[i] := UInt8.toNat_inj.1 (by omega)
   rw [List.take_succ_eq_append_getElem hil, List.take_succ_eq_append_getElem hik, htk, h5], hs, hk, hE, hB⟩ (by omega)
 refine c_exit (x_seqE (x_seqE (x_blkE (x_seq (q0 (l_p 1 tK rfl (q1 (c_ret (x_ret1 rfl rfl ?_)))))))))
 exact ⟨by rw [decide_eq_true (show l = k by rwa [List.take_of_length_le (by omega), List.take_of_length_le (by omega)] at htk)], hE⟩
end Go.Proofs.Ytohfnpmehgpphaa
namespace Rw
def kcnt (c : UInt8) : Nat := if c.toNat = 11 ∨ c.toNat = 4 then 2 else if c.toNat = 5 ∨ c.toNat = 6 then 1 else 0
/-- A type's number, name; what is left; whether something is wrong. -/
def kheadE (c : UInt8) (l : List UInt8) (bad : Bool) : Int × ByteArray × List UInt8 × Bool :=
  if c.toNat = 7 ∨ c.toNat = 10 then (((numE l bad).1 : Int), ⟨#[]⟩, (numE l bad).2) else if c.toNat = 11 then (0, textE l bad) else (0, ⟨#[]⟩, l, bad)
def kidsE {α : Type} (g : List UInt8 → Bool → α × List UInt8 × Bool) : Nat → List UInt8 → Bool → List α × List UInt8 × Bool
  | 0, l, bad => ([], l, bad)
  | k + 1, l, bad => if bad = true then ([], l, bad) else ((g l bad).1 :: (kidsE g k (g l bad).2.1 (g l bad).2.2).1, (kidsE g k (g l bad).2.1 (g l bad).2.2).2)
def kindE : Nat → List UInt8 → Bool → Ty × List UInt8 × Bool
  | 0, _, _ => (.mk 0 ⟨#[]⟩ 0 [], [], true)
  | f + 1, l, bad => (.mk (l.headD 0).toNat (kheadE (l.headD 0) l.tail (bad || l.isEmpty)).2.1 (kheadE (l.headD 0) l.tail (bad || l.isEmpty)).1
      (kidsE (kindE f) (kcnt (l.headD 0)) (kheadE (l.headD 0) l.tail (bad || l.isEmpty)).2.2.1 (kheadE (l.headD 0) l.tail (bad || l.isEmpty)).2.2.2).1,
      (kidsE (kindE f) (kcnt (l.headD 0)) (kheadE (l.headD 0) l.tail (bad || l.isEmpty)).2.2.1 (kheadE (l.headD 0) l.tail (bad || l.isEmpty)).2.2.2).2)
/-! ## What is wrong stays so; less is left -/
theorem textE_bad (l : List UInt8) : textE l true = (⟨#[]⟩, [], true) := by
  unfold textE; rw [numE_bad]; rfl
theorem kheadE_bad (c : UInt8) (l : List UInt8) : (kheadE c l true).2.2.2 = true := by
  unfold kheadE
  rw [numE_bad, textE_bad]
  split
  · rfl
  · split <;> rfl
theorem kidsE_bad {α : Type} (g : List UInt8 → Bool → α × List UInt8 × Bool) (k : Nat) (l : List UInt8) : kidsE g k l true = ([], l, true) := by
  cases k with
  | zero => rfl
  | succ k => rw [kidsE, if_pos rfl]
theorem kidsE_step {α : Type} {g : List UInt8 → Bool → α × List UInt8 × Bool} {k : Nat} {l : List UInt8} {bad : Bool} (h : bad = false) : kidsE g (k + 1) l bad = ((g l bad).1 :: (kidsE g k (g l bad).2.1 (g l bad).2.2).1, (kidsE g k (g l bad).2.1 (g l bad).2.2).2) := by
  rw [kidsE, if_neg (by rw [h]; simp)]
theorem numE_less (l : List UInt8) (bad : Bool) : (numE l bad).2.1.length ≤ l.length ∧ (numE l bad).1 < 9223372036854775808 := by
  cases bad with
  | true => rw [numE_bad]; exact ⟨Nat.zero_le _, by decide⟩
  | false =>
    rw [numE_tk]
    cases h : tkN l with
    | none => exact ⟨Nat.zero_le _, show (0 : Nat) < _ by decide⟩
    | some z =>
      obtain ⟨m, q⟩ := z
      have := tkN_le h
      exact ⟨by simp, this.2⟩
theorem textE_less (l : List UInt8) (bad : Bool) : (textE l bad).2.1.length ≤ l.length ∧ (textE l bad).1.size ≤ l.length := by
  have h := numE_less l bad
  unfold textE
  split
  · exact ⟨Nat.zero_le _, Nat.zero_le _⟩
  · refine ⟨by simp only [List.length_drop]; omega, ?_⟩
    show (((numE l bad).2.1.take (numE l bad).1).toArray).size ≤ _
    rw [List.size_toArray, List.length_take]
    omega
theorem kheadE_less (c : UInt8) (l : List UInt8) (bad : Bool) : (kheadE c l bad).2.2.1.length ≤ l.length ∧ (kheadE c l bad).2.1.size ≤ l.length ∧ (0 ≤ (kheadE c l bad).1 ∧ (kheadE c l bad).1 < 9223372036854775808) := by
  have h := numE_less l bad
  have h2 := textE_less l bad
  unfold kheadE
  split
  · exact ⟨h.1, Nat.zero_le _, by simp only; omega⟩
  · split
    · exact ⟨h2.1, h2.2, by simp only; omega⟩
    · exact ⟨Nat.le_refl _, Nat.zero_le _, by simp only; omega⟩
theorem kidsE_less {α : Type} {g : List UInt8 → Bool → α × List UInt8 × Bool} (hg : ∀ l bad, (g l bad).2.1.length ≤ l.length) : ∀ (k : Nat) (l : List UInt8) (bad : Bool), (kidsE g k l bad).2.1.length ≤ l.length
  | 0, _, _ => Nat.le_refl _
  | k + 1, l, bad => by
    cases bad with
    | true => rw [kidsE_bad]; exact Nat.le_refl _
    | false => rw [kidsE_step rfl]; exact Nat.le_trans (kidsE_less hg k _ _) (hg l false)
theorem kindE_less : ∀ (f : Nat) (l : List UInt8) (bad : Bool), (kindE f l bad).2.1.length ≤ l.length
  | 0, _, _ => Nat.zero_le _
  | f + 1, l, bad => by
    have h1 := kheadE_less (l.headD 0) l.tail (bad || l.isEmpty)
    have h2 := kidsE_less (kindE_less f) (kcnt (l.headD 0)) (kheadE (l.headD 0) l.tail (bad || l.isEmpty)).2.2.1 (kheadE (l.headD 0) l.tail (bad || l.isEmpty)).2.2.2
    rw [kindE]
    have h3 : l.tail.length ≤ l.length := by simp
    simp only
    omega
/-! ## What is got is put the same -/
theorem numE_ok {l : List UInt8} {bad : Bool} (h : (numE l bad).2.2 = false) : bad = false := by
  cases bad with
  | false => rfl
  | true => rw [numE_bad] at h; cases h
theorem textE_ok {l : List UInt8} {bad : Bool} (h : (textE l bad).2.2 = false) : bad = false := by
  cases bad with
  | false => rfl
  | true => rw [textE_bad] at h; cases h
theorem kheadE_ok {c : UInt8} {l : List UInt8} {bad : Bool} (h : (kheadE c l bad).2.2.2 = false) : bad = false := by
  cases bad with
  | false => rfl
  | true => rw [kheadE_bad] at h; cases h
theorem kidsE_ok {α : Type} {g : List UInt8 → Bool → α × List UInt8 × Bool} {k : Nat} {l : List UInt8} {bad : Bool} (h : (kidsE g k l bad).2.2 = false) : bad = false := by
  cases bad with
  | false => rfl
  | true => rw [kidsE_bad] at h; cases h
theorem isEmpty_cons {l : List UInt8} (h : (false || l.isEmpty) = false) : l.headD 0 :: l.tail = l := by
  cases l with
  | nil => cases h
  | cons c r => rfl
theorem kidsE_psz {g : List UInt8 → Bool → Ty × List UInt8 × Bool} (hg : ∀ l, psz (g l false).1 + (g l false).2.1.length ≤ l.length + 1 ∧ ((g l false).2.2 = false → psz (g l false).1 + (g l false).2.1.length ≤ l.length)) :
    ∀ (k : Nat) (l : List UInt8) (bad : Bool), pszs (kidsE g k l bad).1 + (kidsE g k l bad).2.1.length ≤ l.length + 1 ∧ ((kidsE g k l bad).2.2 = false → pszs (kidsE g k l bad).1 + (kidsE g k l bad).2.1.length ≤ l.length) ∧ (bad = true → pszs (kidsE g k l bad).1 + (kidsE g k l bad).2.1.length ≤ l.length)
  | 0, l, bad => by
    have e : pszs (kidsE g 0 l bad).1 = 0 := rfl
    have e2 : (kidsE g 0 l bad).2.1 = l := rfl
    rw [e, e2]; omega
  | k + 1, l, true => by
    rw [kidsE_bad]
    have e : pszs ([] : List Ty) = 0 := rfl
    simp only [e]; omega
  | k + 1, l, false => by
    have h1 := hg l
    have h2 := kidsE_psz hg k (g l false).2.1 (g l false).2.2
    rw [kidsE_step rfl]
    simp only [pszs_cons]
    refine ⟨?_, fun h => ?_, fun h => by cases h⟩
    · cases hb : (g l false).2.2 with
      | true => have := h2.2.2 hb; rw [hb] at this; omega
      | false => have := h1.2 hb; rw [hb] at h2; omega
    · have hb := kidsE_ok h
      have := h1.2 hb
      have := h2.2.1 h
      omega
theorem kindE_psz : ∀ (f : Nat) (l : List UInt8) (bad : Bool), psz (kindE f l bad).1 + (kindE f l bad).2.1.length ≤ l.length + 1 ∧ ((kindE f l bad).2.2 = false → psz (kindE f l bad).1 + (kindE f l bad).2.1.length ≤ l.length)
  | 0, l, bad => by
    have e : psz (kindE 0 l bad).1 = 1 := by rw [psz_eq]; rfl
    rw [e]
    exact ⟨by simp [kindE], fun h => by cases h⟩
  | f + 1, l, bad => by
    have h1 := kheadE_less (l.headD 0) l.tail (bad || l.isEmpty)
    have h2 := kidsE_psz (g := kindE f) (fun l => kindE_psz f l false) (kcnt (l.headD 0)) (kheadE (l.headD 0) l.tail (bad || l.isEmpty)).2.2.1 (kheadE (l.headD 0) l.tail (bad || l.isEmpty)).2.2.2
    have e : psz (kindE (f + 1) l bad).1 = pszs (kindE (f + 1) l bad).1.kids + 1 := psz_eq _
    rw [e, kindE]
    simp only [Ty.kids]
    cases l with
    | nil =>
      have hb : (kheadE (([] : List UInt8).headD 0) ([] : List UInt8).tail (bad || ([] : List UInt8).isEmpty)).2.2.2 = true := by
        rw [show (bad || ([] : List UInt8).isEmpty) = true by simp]; exact kheadE_bad _ _
      have h3 := h2.2.2 hb
      have h4 : ([] : List UInt8).tail.length = 0 := rfl
      have h5 : ([] : List UInt8).length = 0 := rfl
      refine ⟨by omega, fun h => ?_⟩
      have := kidsE_ok h
      rw [this] at hb; cases hb
    | cons c r =>
      have h4 : (c :: r).tail.length = r.length := rfl
      have h5 : (c :: r).length = r.length + 1 := rfl
      refine ⟨by omega, fun h => ?_⟩
      have := h2.2.1 h
      omega
/-! ## Expressions -/
def eT (k : Bool) (l : List UInt8) (bad : Bool) : ByteArray × List UInt8 × Bool := bif k then textE l bad else (⟨#[]⟩, l, bad)
def eN (k : Bool) (l : List UInt8) (bad : Bool) : Nat × List UInt8 × Bool := bif k then numE l bad else (0, l, bad)
def eH (a : Int) (l : List UInt8) (bad : Bool) : Bool × List UInt8 × Bool :=
  bif decide (a = 1) then (decide (l.headD 0 = 1), (bif decide (1 < (l.headD 0).toNat) then [] else l.tail), (bad || l.isEmpty || decide (1 < (l.headD 0).toNat))) else (decide (a = 2), l, bad)
def eA (k : Bool) (l : List UInt8) (bad : Bool) : Ty × List UInt8 × Bool := bif k then kindE (l.length + 1) l bad else (.mk 0 ⟨#[]⟩ 0 [], l, bad)
def eC (c : Int) (l : List UInt8) (bad : Bool) : Nat × List UInt8 × Bool := bif decide (c < 0) then (bif decide ((numE l bad).2.1.length < (numE l bad).1) then (0, [], true) else numE l bad) else (c.toNat, l, bad)
def e0 (l : List UInt8) (bad : Bool) : Int × List UInt8 × Bool := ((l.headD 0).toNat, l.tail, (bad || l.isEmpty))
def e1 (l : List UInt8) (bad : Bool) := eT (prt (e0 l bad).1).1 (e0 l bad).2.1 (e0 l bad).2.2
def e2 (l : List UInt8) (bad : Bool) := eT (prt (e0 l bad).1).2.1 (e1 l bad).2.1 (e1 l bad).2.2
def e3 (l : List UInt8) (bad : Bool) := eN (prt (e0 l bad).1).2.2.1 (e2 l bad).2.1 (e2 l bad).2.2
def e4 (l : List UInt8) (bad : Bool) := eH (prt (e0 l bad).1).2.2.2 (e3 l bad).2.1 (e3 l bad).2.2
def e5 (l : List UInt8) (bad : Bool) := eA (e4 l bad).1 (e4 l bad).2.1 (e4 l bad).2.2
def e6 (l : List UInt8) (bad : Bool) := eC (cnt (e0 l bad).1) (e5 l bad).2.1 (e5 l bad).2.2
/-- An expression off bytes; what is left; whether something is wrong. -/
def termE : Nat → List UInt8 → Bool → Tm × List UInt8 × Bool
  | 0, _, _ => (.mk 0 ⟨#[]⟩ ⟨#[]⟩ 0 false (.mk 0 ⟨#[]⟩ 0 []) [], [], true)
  | f + 1, l, bad => (.mk (e0 l bad).1 (e1 l bad).1 (e2 l bad).1 (e3 l bad).1 (e4 l bad).1 (e5 l bad).1 (kidsE (termE f) (e6 l bad).1 (e6 l bad).2.1 (e6 l bad).2.2).1, (kidsE (termE f) (e6 l bad).1 (e6 l bad).2.1 (e6 l bad).2.2).2)
theorem eT_less (k : Bool) (l : List UInt8) (bad : Bool) : (eT k l bad).2.1.length ≤ l.length ∧ (eT k l bad).1.size ≤ l.length := by
  cases k with
  | true => exact textE_less l bad
  | false => exact ⟨Nat.le_refl _, Nat.zero_le _⟩
theorem eN_less (k : Bool) (l : List UInt8) (bad : Bool) : (eN k l bad).2.1.length ≤ l.length ∧ (eN k l bad).1 < 9223372036854775808 := by
  cases k with
  | true => exact numE_less l bad
  | false => exact ⟨Nat.le_refl _, show (0 : Nat) < _ by decide⟩
theorem eH_less (a : Int) (l : List UInt8) (bad : Bool) : (eH a l bad).2.1.length ≤ l.length := by
  unfold eH
  cases decide (a = 1) with
  | true =>
    simp only [cond_true]
    cases decide (1 < (l.headD 0).toNat) <;> simp
  | false => exact Nat.le_refl _
theorem eA_less (k : Bool) (l : List UInt8) (bad : Bool) : (eA k l bad).2.1.length ≤ l.length ∧ psz (eA k l bad).1 ≤ l.length + 1 := by
  cases k with
  | true => exact ⟨kindE_less _ l bad, by have := (kindE_psz (l.length + 1) l bad).1; show psz (kindE (l.length + 1) l bad).1 ≤ _; omega⟩
  | false => exact ⟨Nat.le_refl _, by show psz (Ty.mk 0 ⟨#[]⟩ 0 []) ≤ _; rw [psz_eq]; show (0 : Nat) + 1 ≤ _; omega⟩
theorem cnt_le (op : Int) : cnt op ≤ 3 := by unfold cnt; repeat' split <;> omega
theorem eC_less {c : Int} (hc : c ≤ 3) (l : List UInt8) (bad : Bool) : (eC c l bad).2.1.length ≤ l.length ∧ (eC c l bad).1 ≤ l.length + 3 := by
  unfold eC
  cases decide (c < 0) with
  | true =>
    simp only [cond_true]
    have := numE_less l bad
    cases h : decide ((numE l bad).2.1.length < (numE l bad).1) with
    | true => exact ⟨Nat.zero_le _, Nat.zero_le _⟩
    | false => have := of_decide_eq_false h; simp only [cond_false]; omega
  | false => simp only [cond_false]; omega
theorem e_less (l : List UInt8) (bad : Bool) : (e1 l bad).1.size ≤ l.length ∧ (e2 l bad).1.size ≤ l.length ∧ (e3 l bad).1 < 9223372036854775808 ∧ psz (e5 l bad).1 ≤ l.length + 1 ∧ (e6 l bad).1 ≤ l.length + 3 ∧ (e6 l bad).2.1.length ≤ l.tail.length ∧
    (e1 l bad).2.1.length ≤ l.tail.length ∧ (e2 l bad).2.1.length ≤ l.tail.length ∧ (e3 l bad).2.1.length ≤ l.tail.length ∧ (e4 l bad).2.1.length ≤ l.tail.length ∧ (e5 l bad).2.1.length ≤ l.tail.length := by
  have h0 : (e0 l bad).2.1.length = l.tail.length := rfl
  have h00 : l.tail.length ≤ l.length := by simp
  have h1 := eT_less (prt (e0 l bad).1).1 (e0 l bad).2.1 (e0 l bad).2.2
  have h2 := eT_less (prt (e0 l bad).1).2.1 (e1 l bad).2.1 (e1 l bad).2.2
  have h3 := eN_less (prt (e0 l bad).1).2.2.1 (e2 l bad).2.1 (e2 l bad).2.2
  have h4 := eH_less (prt (e0 l bad).1).2.2.2 (e3 l bad).2.1 (e3 l bad).2.2
  have h5 := eA_less (e4 l bad).1 (e4 l bad).2.1 (e4 l bad).2.2
  have h6 := eC_less (cnt_le (e0 l bad).1) (e5 l bad).2.1 (e5 l bad).2.2
  change (e1 l bad).2.1.length ≤ _ ∧ (e1 l bad).1.size ≤ _ at h1
  change (e2 l bad).2.1.length ≤ _ ∧ (e2 l bad).1.size ≤ _ at h2
  change (e3 l bad).2.1.length ≤ _ ∧ (e3 l bad).1 < _ at h3
  change (e4 l bad).2.1.length ≤ _ at h4
  change (e5 l bad).2.1.length ≤ _ ∧ psz (e5 l bad).1 ≤ _ at h5
  change (e6 l bad).2.1.length ≤ _ ∧ (e6 l bad).1 ≤ _ at h6
  omega
theorem termE_less : ∀ (f : Nat) (l : List UInt8) (bad : Bool), (termE f l bad).2.1.length ≤ l.length
  | 0, _, _ => Nat.zero_le _
  | f + 1, l, bad => by
    have h1 := e_less l bad
    have h2 := kidsE_less (termE_less f) (e6 l bad).1 (e6 l bad).2.1 (e6 l bad).2.2
    have h3 : l.tail.length ≤ l.length := by simp
    rw [termE]
    simp only
    omega
theorem kidsE_mem {α : Type} {g : List UInt8 → Bool → α × List UInt8 × Bool} (hl : ∀ l bad, (g l bad).2.1.length ≤ l.length) : ∀ (k : Nat) (l : List UInt8) (bad : Bool), ∀ x ∈ (kidsE g k l bad).1, ∃ r, r.length ≤ l.length ∧ x = (g r false).1
  | 0, _, _, x, h => by cases h
  | k + 1, l, true, x, h => by rw [kidsE_bad] at h; cases h
  | k + 1, l, false, x, h => by
    rw [kidsE_step rfl] at h
    rcases List.mem_cons.1 h with h | h
    · exact ⟨l, Nat.le_refl _, h⟩
    · obtain ⟨r, h1, h2⟩ := kidsE_mem hl k _ _ x h
      exact ⟨r, Nat.le_trans h1 (hl l false), h2⟩
theorem termE_ann : ∀ (f : Nat) (l : List UInt8) (bad : Bool), ∀ x ∈ nodesL (termE f l bad).1, psz x.ann ≤ l.length + 1
  | 0, l, bad, x, h => by
    rw [termE, nodesL_eq] at h
    simp [Tm.kids] at h
    subst h
    show psz (Ty.mk 0 ⟨#[]⟩ 0 []) ≤ _
    rw [psz_eq]; show (0 : Nat) + 1 ≤ _; omega
  | f + 1, l, bad, x, h => by
    have h1 := e_less l bad
    have h3 : l.tail.length ≤ l.length := by simp
    rw [termE, nodesL_eq] at h
    rcases List.mem_cons.1 h with h | h
    · subst h; exact h1.2.2.2.1
    · obtain ⟨k, hk, hx⟩ := List.mem_flatMap.1 h
      obtain ⟨r, h4, rfl⟩ := kidsE_mem (termE_less f) _ _ _ k hk
      have := termE_ann f r false x hx
      omega
theorem eT_ok {k : Bool} {l : List UInt8} {bad : Bool} (h : (eT k l bad).2.2 = false) : bad = false := by
  cases k with
  | true => exact textE_ok h
  | false => exact h
theorem eN_ok {k : Bool} {l : List UInt8} {bad : Bool} (h : (eN k l bad).2.2 = false) : bad = false := by
  cases k with
  | true => exact numE_ok h
  | false => exact h
theorem kindE_ok {f : Nat} {l : List UInt8} {bad : Bool} (h : (kindE f l bad).2.2 = false) : bad = false := by
  cases f with
  | zero => cases h
  | succ f =>
    have := kheadE_ok (kidsE_ok (show (kidsE (kindE f) _ _ _).2.2 = false from h))
    cases bad with
    | false => rfl
    | true => simp at this
theorem eA_ok {k : Bool} {l : List UInt8} {bad : Bool} (h : (eA k l bad).2.2 = false) : bad = false := by
  cases k with
  | true => exact kindE_ok h
  | false => exact h
theorem eH_ok {a : Int} {l : List UInt8} {bad : Bool} (h : (eH a l bad).2.2 = false) : bad = false := by
  unfold eH at h
  cases e : decide (a = 1) with
  | true => rw [e] at h; simp only [cond_true, Bool.or_eq_false_iff] at h; exact h.1.1
  | false => rw [e] at h; exact h
theorem eC_ok {c : Int} {l : List UInt8} {bad : Bool} (h : (eC c l bad).2.2 = false) : bad = false := by
  unfold eC at h
  cases e : decide (c < 0) with
  | true =>
    rw [e] at h
    simp only [cond_true] at h
    cases e2 : decide ((numE l bad).2.1.length < (numE l bad).1) with
    | true => rw [e2] at h; cases h
    | false => rw [e2] at h; exact numE_ok h
  | false => rw [e] at h; exact h
/-! ## What GetTerm and GetType get -/
def getT (l : List UInt8) : Tm := (termE (l.length + 1) l false).1
def okGT (l : List UInt8) : Bool := !(termE (l.length + 1) l false).2.2 && ((termE (l.length + 1) l false).2.1.isEmpty && rightT (getT l) false)
def getY (l : List UInt8) : Ty := (kindE (l.length + 1) l false).1
def okGY (l : List UInt8) : Bool := !(kindE (l.length + 1) l false).2.2 && ((kindE (l.length + 1) l false).2.1.isEmpty && (rightB (getY l) || rowB (getY l)))
theorem getT_ann {l : List UInt8} (hl : l.length ≤ 1000000) : AnnS (getT l) := fun x hx => by
  have := termE_ann (l.length + 1) l false x hx; omega
def tyZ : Ty := .mk 0 ⟨#[]⟩ 0 []
def tmZ : Tm := .mk 0 ⟨#[]⟩ ⟨#[]⟩ 0 false (.mk 0 ⟨#[]⟩ 0 []) []
end Rw
namespace Rw
open Go Go.RowKit
section
variable {e B : Nat} {M M' M0 : Nat → Prop} {w w' : World} {v : Value}
theorem OwnSl.slM {α : Type} [Rep α] {l : List α} (h : OwnSl e B M w v l) (hl : l.length < 140737488355328) (hb : ∀ b, v.ownBlock = some b → ¬ M0 b) (hsub : ∀ b, M0 b → M b) : Sl M0 w v l := by
  obtain ⟨us, hr, hs⟩ := h.row
  have hlt := hr.lt
  rcases hr.2 with ⟨rfl, hn⟩ | ⟨g, cap, cur, rfl, hB, hg, hc, _, _, htake⟩
  · have : l = [] := List.eq_nil_of_length_eq_zero hn
    subst this
    exact sl_nil
  · refine ⟨_, cap, rfl, hl, hc, .inr ⟨g, 0, rfl, fun i x hx => ?_⟩⟩
    obtain ⟨u, hu, hR⟩ := hs.get hx
    refine ⟨u, Rep.wk hR (fun b _ hb => hsub b hb), (hlt g rfl).2, hb g rfl, fun j c hc => ?_⟩
    have := hr.cells (g := g) rfl (i * Rep.sz α + j) c (hs.flat_get hu j c hc)
    rw [addr_add] at this
    rwa [show 0 + i * Rep.sz α + j = 0 + (i * Rep.sz α + j) by omega]
theorem Stp.drop (h : Stp B M M' w w') (hl : Low M w) : Stp B M M w w' := ⟨h.upd, fun _ _ h => h, fun _ h => h, fun b hb => Nat.lt_of_lt_of_le (hl b hb) h.upd.1, h.below⟩
theorem new_of {b k : Nat} {w0 : World} (h : ∀ x y, v.ownBlock = some x → Out (fun x => x = k) w0 y → x ≠ y) (hk : ∀ x, v.ownBlock = some x → x ≠ k) (hl : Low M w0) (hb : v.ownBlock = some b) : ¬ M b := fun hm => h b b hb ⟨hl b hm, hk b hb⟩ rfl
end
end Rw
namespace Go.Proofs.Ytohfnpmehgpphaa
open Go Rw Go.RowKit
set_option maxRecDepth 100000
theorem eyeKind_spec : ∀ (k : Nat) (l : List UInt8) (bad : Bool) (M : Nat → Prop) (w : World) (B ye : Nat) (bv : Value), MB B M w ye 130 [bv, .bool bad] → Sl M w bv l → Low M w → B ≤ w.heap.size → l.length < k → l.length ≤ 1000000 →
  Calls Try.prog 77 #[.pointer (some ⟨ye, 0, none⟩)] w (Ret fun r w' => Rep.R M w' r ((kindE k l bad).1) ∧ (∃ bv', MB B M w' ye 130 [bv', .bool ((kindE k l bad).2.2)] ∧ Sl M w' bv' ((kindE k l bad).2.1)) ∧ Stp B M M w w' ∧ Kept w w' (Out (fun x => x = ye) w)) := by
 intro k
 induction k with
 | zero => intro l bad M w B ye bv he hb hlow hB hlk; exact absurd hlk (Nat.not_lt_zero _)
 | succ k ih =>
  intro l bad M w B ye bv he hb hlow hB hlk hll
  have hT : Stp B M M w w := Stp.refl hlow
  have hlow0 := hlow
  have he0 := he
  have hfr : Kept w w (Out (fun x => x = ye) w) := Kept.refl (fun x hx => hx.1)
  have d_hfr_he : ∀ x, (Out (fun x => x = ye) w) x → x ≠ ye := fun x hx => hx.2
  have hc8 : (l.headD 0).toNat < 256 := (l.headD 0).toNat_lt
  have hk2 : kcnt (l.headD 0) ≤ 2 := (by unfold kcnt; (repeat' split) <;> omega)
  have hkh := kheadE_less (l.headD 0) l.tail (bad || l.isEmpty)
  have htl : l.tail.length ≤ l.length := by simp
  refine c_enter (n := 44) Try.func77 rfl rfl rfl ?_
  refine q0 ?_
  refine lC (o_new tK rfl rfl rfl ?_)
  intro b2 w1 qb2 ew1 hb2
  have ne_he_h2 : ye ≠ b2 := by have := he.lt; omega
  have d_hfr_h2 : ∀ x, (Out (fun x => x = ye) w) x → x ≠ b2 := fun x hx => by have := (hfr.lt x hx).2; omega
  have sw1 := Stp.add ew1 hlow hB (Nat.le_of_eq qb2.symm) hb2.lt
  have h2 : MB B (Rw.Add M b2) w1 b2 40 [.int .u8 0, .string ⟨#[]⟩, .int .i64 0, .slice none 0 0] := MB.mk' hb2 qb2 hB
  replace hT := hT.then sw1
  replace hfr := hfr.stp sw1 (fun x hx => ew1.block x (hfr.lt x hx).2)
  replace he := he.stp sw1 (ew1.block ye he.lt)
  replace hb := hb.stp sw1
  replace hlow := sw1.low
  replace hB := sw1.z hB
  refine q1 (q0 (l_p 1 tK rfl ?_))
  refine lC (o_call fo103 rfl rfl rfl (eyeOne_spec _ _ B ye _ _ _ he hb hlow hB) ?_)
  rintro _ w2 ⟨rfl, bvw2, hew2, hbw2, uw2⟩
  have sw2 := uw2.stp he.inM hlow he.ge
  have frw2 := uw2.upd.2
  replace hT := hT.then sw2
  replace hfr := hfr.stp sw2 (fun x hx => frw2 x (hfr.lt x hx).2 (d_hfr_he x hx))
  replace h2 := h2.stp sw2 (frw2 b2 h2.lt ne_he_h2.symm)
  replace hlow := sw2.low
  replace hB := sw2.z hB
  replace he := hew2
  replace hb := hbw2
  clear hew2 hbw2
  refine lC (o_build (cells := [.int .u8 (l.headD 0).toNat, .string ⟨#[]⟩, .int .i64 0, .slice none 0 0]) (css := [[.int .u8 (l.headD 0).toNat]]) bd40 rfl rfl rfl rfl rfl ?_)
  refine lC (o_new tK rfl rfl rfl ?_)
  intro b3 w3 qb3 ew3 hb3
  have ne_he_h3 : ye ≠ b3 := by have := he.lt; omega
  have d_hfr_h3 : ∀ x, (Out (fun x => x = ye) w) x → x ≠ b3 := fun x hx => by have := (hfr.lt x hx).2; omega
  have ne_h2_h3 : b2 ≠ b3 := by have := h2.lt; omega
  have sw3 := Stp.add ew3 hlow hB (Nat.le_of_eq qb3.symm) hb3.lt
  have h3 : MB B (Rw.Add (Rw.Add M b2) b3) w3 b3 40 [.int .u8 0, .string ⟨#[]⟩, .int .i64 0, .slice none 0 0] := MB.mk' hb3 qb3 hB
  replace hT := hT.then sw3
  replace hfr := hfr.stp sw3 (fun x hx => ew3.block x (hfr.lt x hx).2)
  replace he := he.stp sw3 (ew3.block ye he.lt)
  replace h2 := h2.stp sw3 (ew3.block b2 h2.lt)
  replace hb := hb.stp sw3
  replace hlow := sw3.low
  replace hB := sw3.z hB
  refine lC (o_st tK h3.box rfl rfl rfl rfl (by intro u hu; simp [Value.cells] at hu; rcases hu with rfl | rfl | rfl | rfl <;> rfl) rfl rfl ?_)
  intro w4 hw4 qw4 bew4
  have uw4 : UpdB _ _ _ := ⟨qw4, bew4⟩
  have sw4 := uw4.stp h3.inM hlow h3.ge
  have frw4 := qw4.2
  replace hT := hT.then sw4
  replace hfr := hfr.stp sw4 (fun x hx => frw4 x (hfr.lt x hx).2 (d_hfr_h3 x hx))
  replace he := he.stp sw4 (frw4 ye he.lt ne_he_h3)
  replace h2 := h2.stp sw4 (frw4 b2 h2.lt ne_h2_h3)
  replace hb := hb.stp sw4
  replace hlow := sw4.low
  replace hB := sw4.z hB
  replace h3 : MB B _ w4 b3 _ [.int .u8 (l.headD 0).toNat, .string ⟨#[]⟩, .int .i64 0, .slice none 0 0] := ⟨hw4, h3.inM, h3.ge⟩
  refine q1 (q0 (l_p 1 tK rfl (q1 ?_)))
  refine c_cut (X := Value) (fun bv => [(0, .pointer (some ⟨ye, 0, none⟩)), (2, .pointer (some ⟨b2, 0, none⟩)), (3, .pointer (some ⟨b3, 0, none⟩)), (4, .int .i64 (kcnt (l.headD 0) : Int))]) (fun bv w' => MB B (Rw.Add (Rw.Add M b2) b3) w' ye 130 [bv, .bool (kheadE (l.headD 0) l.tail (bad || l.isEmpty)).2.2.2] ∧ Sl (Rw.Add (Rw.Add M b2) b3) w' bv (kheadE (l.headD 0) l.tail (bad || l.isEmpty)).2.2.1 ∧ MB B (Rw.Add (Rw.Add M b2) b3) w' b2 40 [.int .u8 0, .string ⟨#[]⟩, .int .i64 0, .slice none 0 0] ∧ MB B (Rw.Add (Rw.Add M b2) b3) w' b3 40 [.int .u8 (l.headD 0).toNat, .string (kheadE (l.headD 0) l.tail (bad || l.isEmpty)).2.1, .int .i64 (kheadE (l.headD 0) l.tail (bad || l.isEmpty)).1, .slice none 0 0] ∧ Stp B M (Rw.Add (Rw.Add M b2) b3) w w' ∧ Kept w w' (Out (fun x => x = ye) w) ∧ Low (Rw.Add (Rw.Add M b2) b3) w' ∧ B ≤ w'.heap.size) ?_ ?_
  ·refine q0 (l_p 1 tK rfl ?_)
   refine lC (o_ld tK (h3.cell 0 _ rfl) rfl rfl rfl rfl rfl ?_)
   refine q1 (c_blk (c_seq (q0 (l_p 2 tK rfl (q1 ?_)))))
   refine c_splitP 10 _ rfl (fun c1 => c_ifT rfl ?_) (fun c1 => c_ifF rfl ?_)
   ·refine c_skip (x_seq (c_ifT rfl (c_reg (l_p 1 tK rfl ?_))))
    refine lC (o_call fo101 rfl rfl rfl (eyeNum_spec _ _ B ye _ _ _ he hb hlow hB) ?_)
    rintro _ w5 ⟨rfl, bvw5, hew5, hbw5, uw5⟩
    have sw5 := uw5.stp he.inM hlow he.ge
    have frw5 := uw5.upd.2
    replace hT := hT.then sw5
    replace hfr := hfr.stp sw5 (fun x hx => frw5 x (hfr.lt x hx).2 (d_hfr_he x hx))
    replace h2 := h2.stp sw5 (frw5 b2 h2.lt ne_he_h2.symm)
    replace h3 := h3.stp sw5 (frw5 b3 h3.lt ne_he_h3.symm)
    replace hlow := sw5.low
    replace hB := sw5.z hB
    replace he := hew5
    replace hb := hbw5
    clear hew5 hbw5
    have hnl := numE_less l.tail (bad || l.isEmpty)
    refine lC (o_conv (y := (((numE l.tail (bad || l.isEmpty)).1 : Nat) : Int)) tK rfl rfl rfl rfl rfl (IntWalk.i64_in _ (by omega)) rfl rfl ?_)
    refine l_p 1 tK rfl ?_
    refine lC (o_st tK h3.box rfl rfl rfl rfl (by intro u hu; simp [Value.cells] at hu; subst hu; rfl) rfl rfl ?_)
    intro w6 hw6 qw6 bew6
    have uw6 : UpdB _ _ _ := ⟨qw6, bew6⟩
    have sw6 := uw6.stp h3.inM hlow h3.ge
    have frw6 := qw6.2
    replace hT := hT.then sw6
    replace hfr := hfr.stp sw6 (fun x hx => frw6 x (hfr.lt x hx).2 (d_hfr_h3 x hx))
    replace he := he.stp sw6 (frw6 ye he.lt ne_he_h3)
    replace h2 := h2.stp sw6 (frw6 b2 h2.lt ne_h2_h3)
    replace hb := hb.stp sw6
    replace hlow := sw6.low
    replace hB := sw6.z hB
    replace h3 : MB B _ w6 b3 _ [.int .u8 (l.headD 0).toNat, .string ⟨#[]⟩, .int .i64 (((numE l.tail (bad || l.isEmpty)).1 : Nat) : Int), .slice none 0 0] := ⟨hw6, h3.inM, h3.ge⟩
    refine q2 ?_
    have ekh : (kheadE (l.headD 0) l.tail (bad || l.isEmpty)) = (((numE l.tail (bad || l.isEmpty)).1 : Int), ⟨#[]⟩, (numE l.tail (bad || l.isEmpty)).2) := by unfold kheadE; rw [if_pos (by omega)]
    exact x_cut (bvw5) (s4 rfl rfl rfl (get_num rfl (by unfold kcnt; (repeat' split) <;> omega))) (by rw [ekh]; exact ⟨he, hb, h2, h3, hT, hfr, hlow, hB⟩)
   refine c_reg (l_p 2 tK rfl (q1 ?_))
   refine c_splitP 10 _ rfl (fun c2 => c_ifT rfl ?_) (fun c2 => c_ifF rfl ?_)
   ·refine c_reg (l_p 1 tK rfl ?_)
    refine lC (o_call fo101 rfl rfl rfl (eyeNum_spec _ _ B ye _ _ _ he hb hlow hB) ?_)
    rintro _ w7 ⟨rfl, bvw7, hew7, hbw7, uw7⟩
    have sw7 := uw7.stp he.inM hlow he.ge
    have frw7 := uw7.upd.2
    replace hT := hT.then sw7
    replace hfr := hfr.stp sw7 (fun x hx => frw7 x (hfr.lt x hx).2 (d_hfr_he x hx))
    replace h2 := h2.stp sw7 (frw7 b2 h2.lt ne_he_h2.symm)
    replace h3 := h3.stp sw7 (frw7 b3 h3.lt ne_he_h3.symm)
    replace hlow := sw7.low
    replace hB := sw7.z hB
    replace he := hew7
    replace hb := hbw7
    clear hew7 hbw7
    have hnl := numE_less l.tail (bad || l.isEmpty)
    refine lC (o_conv (y := (((numE l.tail (bad || l.isEmpty)).1 : Nat) : Int)) tK rfl rfl rfl rfl rfl (IntWalk.i64_in _ (by omega)) rfl rfl ?_)
    refine l_p 1 tK rfl ?_
    refine lC (o_st tK h3.box rfl rfl rfl rfl (by intro u hu; simp [Value.cells] at hu; subst hu; rfl) rfl rfl ?_)
    intro w8 hw8 qw8 bew8
    have uw8 : UpdB _ _ _ := ⟨qw8, bew8⟩
    have sw8 := uw8.stp h3.inM hlow h3.ge
    have frw8 := qw8.2
    replace hT := hT.then sw8
    replace hfr := hfr.stp sw8 (fun x hx => frw8 x (hfr.lt x hx).2 (d_hfr_h3 x hx))
    replace he := he.stp sw8 (frw8 ye he.lt ne_he_h3)
    replace h2 := h2.stp sw8 (frw8 b2 h2.lt ne_h2_h3)
    replace hb := hb.stp sw8
    replace hlow := sw8.low
    replace hB := sw8.z hB
    replace h3 : MB B _ w8 b3 _ [.int .u8 (l.headD 0).toNat, .string ⟨#[]⟩, .int .i64 (((numE l.tail (bad || l.isEmpty)).1 : Nat) : Int), .slice none 0 0] := ⟨hw8, h3.inM, h3.ge⟩
    refine q2 ?_
    have ekh : (kheadE (l.headD 0) l.tail (bad || l.isEmpty)) = (((numE l.tail (bad || l.isEmpty)).1 : Int), ⟨#[]⟩, (numE l.tail (bad || l.isEmpty)).2) := by unfold kheadE; rw [if_pos (by omega)]
    exact x_cut (bvw7) (s4 rfl rfl rfl (get_num rfl (by unfold kcnt; (repeat' split) <;> omega))) (by rw [ekh]; exact ⟨he, hb, h2, h3, hT, hfr, hlow, hB⟩)
   refine q0 (l_p 2 tK rfl (q1 ?_))
   refine c_ifP _ rfl (fun c3 => ?_) (fun c3 => ?_)
   ·refine q0 (l_p 1 tK rfl ?_)
    refine lC (o_call fo73 rfl rfl rfl (eyeText_spec _ _ B ye _ _ _ he hb hlow hB) ?_)
    rintro _ w9 ⟨rfl, bvw9, hew9, hbw9, uw9⟩
    have sw9 := uw9.stp he.inM hlow he.ge
    have frw9 := uw9.upd.2
    replace hT := hT.then sw9
    replace hfr := hfr.stp sw9 (fun x hx => frw9 x (hfr.lt x hx).2 (d_hfr_he x hx))
    replace h2 := h2.stp sw9 (frw9 b2 h2.lt ne_he_h2.symm)
    replace h3 := h3.stp sw9 (frw9 b3 h3.lt ne_he_h3.symm)
    replace hlow := sw9.low
    replace hB := sw9.z hB
    replace he := hew9
    replace hb := hbw9
    clear hew9 hbw9
    refine l_p 1 tK rfl ?_
    refine lC (o_st tK h3.box rfl rfl rfl rfl (by intro u hu; simp [Value.cells] at hu; subst hu; rfl) rfl rfl ?_)
    intro w10 hw10 qw10 bew10
    have uw10 : UpdB _ _ _ := ⟨qw10, bew10⟩
    have sw10 := uw10.stp h3.inM hlow h3.ge
    have frw10 := qw10.2
    replace hT := hT.then sw10
    replace hfr := hfr.stp sw10 (fun x hx => frw10 x (hfr.lt x hx).2 (d_hfr_h3 x hx))
    replace he := he.stp sw10 (frw10 ye he.lt ne_he_h3)
    replace h2 := h2.stp sw10 (frw10 b2 h2.lt ne_h2_h3)
    replace hb := hb.stp sw10
    replace hlow := sw10.low
    replace hB := sw10.z hB
    replace h3 : MB B _ w10 b3 _ [.int .u8 (l.headD 0).toNat, .string (textE l.tail (bad || l.isEmpty)).1, .int .i64 0, .slice none 0 0] := ⟨hw10, h3.inM, h3.ge⟩
    refine q1 (c_reg (l_p 1 tK rfl (q2 ?_)))
    have ekh : (kheadE (l.headD 0) l.tail (bad || l.isEmpty)) = (0, textE l.tail (bad || l.isEmpty)) := by unfold kheadE; rw [if_neg (by omega), if_pos (by omega)]
    exact x_cut (bvw9) (s4 rfl rfl rfl (get_num rfl (by unfold kcnt; (repeat' split) <;> omega))) (by rw [ekh]; exact ⟨he, hb, h2, h3, hT, hfr, hlow, hB⟩)
   refine q0 (l_p 2 tK rfl (q1 ?_))
   refine c_ifP _ rfl (fun c4 => ?_) (fun c4 => ?_)
   ·refine c_reg (l_p 1 tK rfl (q2 ?_))
    have ekh : (kheadE (l.headD 0) l.tail (bad || l.isEmpty)) = (0, ⟨#[]⟩, l.tail, (bad || l.isEmpty)) := by unfold kheadE; rw [if_neg (by omega), if_neg (by omega)]
    exact x_cut (bvw2) (s4 rfl rfl rfl (get_num rfl (by unfold kcnt; (repeat' split) <;> omega))) (by rw [ekh]; exact ⟨he, hb, h2, h3, hT, hfr, hlow, hB⟩)
   refine c_seq (q0 (l_p 2 tK rfl (q1 ?_)))
   refine c_splitP 24 _ rfl (fun c5 => c_ifT rfl ?_) (fun c5 => c_ifF rfl ?_)
   ·refine c_skip (x_seq (c_ifT rfl (c_reg (l_p 1 tK rfl (q2 ?_)))))
    have ekh : (kheadE (l.headD 0) l.tail (bad || l.isEmpty)) = (0, ⟨#[]⟩, l.tail, (bad || l.isEmpty)) := by unfold kheadE; rw [if_neg (by omega), if_neg (by omega)]
    exact x_cut (bvw2) (s4 rfl rfl rfl (get_num rfl (by unfold kcnt; (repeat' split) <;> omega))) (by rw [ekh]; exact ⟨he, hb, h2, h3, hT, hfr, hlow, hB⟩)
   refine c_reg (l_p 2 tK rfl (q1 ?_))
   refine c_splitP 24 _ rfl (fun c6 => c_ifT rfl ?_) (fun c6 => c_ifF rfl ?_)
   ·refine c_reg (l_p 1 tK rfl (q2 ?_))
    have ekh : (kheadE (l.headD 0) l.tail (bad || l.isEmpty)) = (0, ⟨#[]⟩, l.tail, (bad || l.isEmpty)) := by unfold kheadE; rw [if_neg (by omega), if_neg (by omega)]
    exact x_cut (bvw2) (s4 rfl rfl rfl (get_num rfl (by unfold kcnt; (repeat' split) <;> omega))) (by rw [ekh]; exact ⟨he, hb, h2, h3, hT, hfr, hlow, hB⟩)
   refine c_skip (x_blk ?_)
   have ekh : (kheadE (l.headD 0) l.tail (bad || l.isEmpty)) = (0, ⟨#[]⟩, l.tail, (bad || l.isEmpty)) := by unfold kheadE; rw [if_neg (by omega), if_neg (by omega)]
   exact x_cut (bvw2) (s4 rfl rfl rfl (get_num rfl (by unfold kcnt; (repeat' split) <;> omega))) (by rw [ekh]; exact ⟨he, hb, h2, h3, hT, hfr, hlow, hB⟩)
  clear he hb h2 h3 hT hfr hlow hB
  rintro bv w80 ⟨he, hb, h2, h3, hT, hfr, hlow, hB⟩
  refine c_seq (q0 (l_p 2 tK rfl (q1 (c_blk ?_))))
  have d_ho_he : ∀ x, (.slice none 0 0 : Value).ownBlock = some x → x ≠ ye := fun x hx => by simp [Value.ownBlock] at hx
  have dd_ho_hfr : ∀ x y, (.slice none 0 0 : Value).ownBlock = some x → (Out (fun x => x = ye) w) y → x ≠ y := fun x y hx => by simp [Value.ownBlock] at hx
  have d_ho_h2 : ∀ x, (.slice none 0 0 : Value).ownBlock = some x → x ≠ b2 := fun x hx => by simp [Value.ownBlock] at hx
  have d_ho_h3 : ∀ x, (.slice none 0 0 : Value).ownBlock = some x → x ≠ b3 := fun x hx => by simp [Value.ownBlock] at hx
  refine c_loop6 (X := Nat) (Y := Value) (Z := Nat → Prop) (U := Value) (V := List Ty) (T := List UInt8 × Bool) (fun i wv M1 bv ks st => [(0, .pointer (some ⟨ye, 0, none⟩)), (2, .pointer (some ⟨b2, 0, none⟩)), (3, .pointer (some ⟨b3, 0, none⟩)), (27, .int .i64 (kcnt (l.headD 0) : Int)), (28, .int .i64 (i : Nat))]) (fun i wv M1 bv ks st w' => i ≤ kcnt (l.headD 0) ∧ kidsE (kindE k) (kcnt (l.headD 0)) (kheadE (l.headD 0) l.tail (bad || l.isEmpty)).2.2.1 (kheadE (l.headD 0) l.tail (bad || l.isEmpty)).2.2.2 = (ks ++ (kidsE (kindE k) (kcnt (l.headD 0) - i) st.1 st.2).1, (kidsE (kindE k) (kcnt (l.headD 0) - i) st.1 st.2).2) ∧ ks.length = i ∧ st.1.length ≤ l.length ∧ (st.2 = false → st.1.length < k) ∧ OwnSl 40 B M1 w' wv ks ∧ MB B M1 w' ye 130 [bv, .bool st.2] ∧ Sl M1 w' bv st.1 ∧ MB B M1 w' b2 40 [.int .u8 0, .string ⟨#[]⟩, .int .i64 0, .slice none 0 0] ∧ MB B M1 w' b3 40 [.int .u8 (l.headD 0).toNat, .string (kheadE (l.headD 0) l.tail (bad || l.isEmpty)).2.1, .int .i64 (kheadE (l.headD 0) l.tail (bad || l.isEmpty)).1, wv] ∧ Stp B M M1 w w' ∧ Kept w w' (Out (fun x => x = ye) w) ∧ Low M1 w' ∧ B ≤ w'.heap.size ∧ (∀ x, (Out (fun x => x = ye) w) x → x ≠ ye) ∧ (∀ x, (Out (fun x => x = ye) w) x → x ≠ b2) ∧ (∀ x, (Out (fun x => x = ye) w) x → x ≠ b3) ∧ (∀ x, (wv : Value).ownBlock = some x → x ≠ ye) ∧ (∀ x y, (wv : Value).ownBlock = some x → (Out (fun x => x = ye) w) y → x ≠ y) ∧ (∀ x, (wv : Value).ownBlock = some x → x ≠ b2) ∧ (∀ x, (wv : Value).ownBlock = some x → x ≠ b3)) (fun i wv M1 bv ks st => kcnt (l.headD 0) - i) (0) (.slice none 0 0) ((Rw.Add (Rw.Add M b2) b3)) (bv) ([]) (((kheadE (l.headD 0) l.tail (bad || l.isEmpty)).2.2.1, (kheadE (l.headD 0) l.tail (bad || l.isEmpty)).2.2.2)) (s5 rfl rfl rfl rfl rfl) ?_ ?_
  ·refine ⟨Nat.zero_le _, rfl, rfl, by simp only; omega, fun h => ?_, own_nil, he, hb, h2, h3, hT, hfr, hlow, hB, d_hfr_he, d_hfr_h2, d_hfr_h3, d_ho_he, dd_ho_hfr, d_ho_h2, d_ho_h3⟩
   have h1 := kheadE_ok (show (kheadE (l.headD 0) l.tail (bad || l.isEmpty)).2.2.2 = false from h)
   have h2 := congrArg List.length (isEmpty_cons (l := l) (by cases bad <;> simp_all))
   simp only [List.length_cons] at h2
   show (kheadE (l.headD 0) l.tail (bad || l.isEmpty)).2.2.1.length < k
   omega
  clear he hb h2 h3 hT hfr hlow hB d_ho_he dd_ho_hfr d_ho_h2 d_ho_h3
  rintro i wv M1 bv ks st w11 ⟨hi, hinv, hks, hsl, hsk, ho, he, hb, h2, h3, hT, hfr, hlow, hB, d_hfr_he, d_hfr_h2, d_hfr_h3, d_ho_he, dd_ho_hfr, d_ho_h2, d_ho_h3⟩
  refine q0 (l_p 1 tK rfl (q1 (c_seq ?_)))
  refine c_ifP _ rfl (fun c7 => ?_) (fun c7 => ?_)
  ·refine c_skip (x_seq (c_seq (c_blk (c_seq (q0 (l_p 3 tK rfl ?_))))))
   refine lC (o_ld tK (he.cell 1 _ rfl) rfl rfl rfl rfl rfl ?_)
   refine q1 ?_
   refine c_if _ rfl (fun hbt => ?_) (fun hbt => ?_)
   ·refine q0 ?_
    refine lC (o_lds tK (fun j v hv => h3.cell j v hv) rfl rfl rfl rfl rfl rfl ?_)
    obtain ⟨av, cv, rfl, _⟩ := ho.val
    refine lC (o_st tK h2.box rfl rfl rfl rfl (by intro u hu; simp [Value.cells] at hu; rcases hu with rfl | rfl | rfl | rfl <;> rfl) rfl rfl ?_)
    intro w12 hw12 qw12 bew12
    have uw12 : UpdB _ _ _ := ⟨qw12, bew12⟩
    have sw12 := uw12.stp h2.inM hlow h2.ge
    have frw12 := qw12.2
    replace hT := hT.then sw12
    replace hfr := hfr.stp sw12 (fun x hx => frw12 x (hfr.lt x hx).2 (d_hfr_h2 x hx))
    replace he := he.stp sw12 (frw12 ye he.lt ne_he_h2)
    replace ho := ho.stp sw12 (fun x hx => frw12 x (ho.lt x hx).2 (d_ho_h2 x hx))
    replace h3 := h3.stp sw12 (frw12 b3 h3.lt ne_h2_h3.symm)
    replace hb := hb.stp sw12
    replace hlow := sw12.low
    replace hB := sw12.z hB
    replace h2 : MB B _ w12 b2 _ [.int .u8 (l.headD 0).toNat, .string (kheadE (l.headD 0) l.tail (bad || l.isEmpty)).2.1, .int .i64 (kheadE (l.headD 0) l.tail (bad || l.isEmpty)).1, (.slice av ks.length cv)] := ⟨hw12, h2.inM, h2.ge⟩
    refine q1 (c_ret (x_seqR (x_blkR (x_seqR (x_seqR (x_blkR (x_seqR ?_)))))))
    refine x_ret1s tK (fun j v hv => h2.cell j v hv) rfl rfl rfl rfl rfl ?_
    have hsl2 : Sl M w12 (.slice av ks.length cv) ks := ho.slM (by omega) (fun b hb => new_of dd_ho_hfr d_ho_he hlow0 hb) hT.sub
    rw [show st.2 = true from hbt, kidsE_bad, List.append_nil] at hinv
    rw [show st.2 = true from hbt] at he
    rw [kindE, hinv]
    exact ⟨ty_mk (by omega) (by omega) (by unfold I64; omega) hsl2, ⟨_, ⟨he.box, he0.inM, he0.ge⟩, Sl.wk hb (fun b _ h => hT.sub b h)⟩, hT.drop hlow0, hfr⟩
   have hbf : st.2 = false := hbt
   refine c_skip (x_seq ?_)
   refine a_beg (Sof2 B M1 b3) rfl ?_
   intro w13 ew13
   replace hT := hT.then (Stp.ext ew13 hlow hB)
   replace hfr := hfr.ext hlow hB ew13
   replace he := he.ext hlow hB ew13
   replace ho := ho.ext hlow hB ew13
   replace h2 := h2.ext hlow hB ew13
   replace h3 := h3.ext hlow hB ew13
   replace hb := hb.ext ew13
   replace hlow := hlow.ext ew13
   replace hB := ew13.z hB
   have hS : Stp B M1 M1 w13 w13 := Stp.refl hlow
   have D_he := he.box
   have D_hb := hb
   have D_h2 := h2.box
   have D_h3 := h3.box
   refine a_p 0 tK rfl rfl rfl rfl (by kernel_rfl) (fun _ _ _ h => h) ⟨⟨_, hS⟩, h3.box.heap.trans D_h3.heap.symm⟩ ?_
   refine a_ld 1 tK (fun _ hs => (D_h3.so2 hs).cell 3 _ rfl) rfl rfl rfl rfl rfl rfl (by kernel_rfl) (fun _ _ _ h => h) ⟨⟨_, hS⟩, h3.box.heap.trans D_h3.heap.symm⟩ ?_
   refine a_p 2 tK rfl rfl rfl rfl (by kernel_rfl) (fun _ _ _ h => h) ⟨⟨_, hS⟩, h3.box.heap.trans D_h3.heap.symm⟩ ?_
   refine a_one 3 rfl (by kernel_rfl) (o_call fo77 rfl rfl rfl (ih st.1 st.2 _ _ B ye _ he hb hlow hB (hsk hbf) (by omega)) ?_)
   rintro vhc w14 ⟨hc, ⟨bvw14, hew14, hbw14⟩, sw14, kw14⟩
   have frw14 : ∀ x, x < w13.heap.size → x ≠ ye → w14.heap[x]? = w13.heap[x]? := fun x hx hn => kw14.blk x ⟨hx, hn⟩
   replace hT := hT.then sw14
   replace hS := hS.then sw14
   replace hfr := hfr.stp sw14 (fun x hx => frw14 x (hfr.lt x hx).2 (d_hfr_he x hx))
   replace ho := ho.stp sw14 (fun x hx => frw14 x (ho.lt x hx).2 (d_ho_he x hx))
   replace h2 := h2.stp sw14 (frw14 b2 h2.lt ne_he_h2.symm)
   replace h3 := h3.stp sw14 (frw14 b3 h3.lt ne_he_h3.symm)
   replace hlow := sw14.low
   replace hB := sw14.z hB
   refine ⟨⟨⟨_, hS⟩, h3.box.heap.trans D_h3.heap.symm⟩, ?_⟩
   replace he := hew14
   replace hb := hbw14
   clear hew14 hbw14
   refine a_one 4 rfl (by kernel_rfl) (o_bs tK rfl rfl rfl rfl rfl rfl rfl (sz1 (Rep.size hc)) rfl rfl rfl ?_)
   intro bw15 w15 qbw15 ew15 hbw15
   have nbw15 := nM_of hlow qbw15
   replace hT := hT.then (Stp.ext ew15 hlow hB)
   replace hS := hS.then (Stp.ext ew15 hlow hB)
   replace hfr := hfr.ext hlow hB ew15
   replace he := he.ext hlow hB ew15
   replace ho := ho.ext hlow hB ew15
   replace h2 := h2.ext hlow hB ew15
   replace h3 := h3.ext hlow hB ew15
   replace hb := hb.ext ew15
   replace hc := Rep.ext hc ew15
   replace hlow := hlow.ext ew15
   replace hB := ew15.z hB
   refine ⟨⟨⟨_, hS⟩, h3.box.heap.trans D_h3.heap.symm⟩, ?_⟩
   refine a_one 5 rfl (by kernel_rfl) (o_app1 tK ho hbw15 nbw15 hc hlow hB rfl rfl rfl rfl rfl rfl rfl (by omega) (by show (_ + _) * 56 ≤ _; omega) rfl rfl ?_)
   intro vw16 w16 Mw16 hw16 sw16 frw16 blw16
   have zd_ho_he := d_ho_he
   replace d_ho_he : ∀ x, (vw16 : Value).ownBlock = some x → x ≠ ye := fun x hx => (blw16 x hx).elim (d_ho_he x) (fun h e => by have := he.lt; omega)
   have zdd_ho_hfr := dd_ho_hfr
   replace dd_ho_hfr : ∀ x y, (vw16 : Value).ownBlock = some x → (Out (fun x => x = ye) w) y → x ≠ y := fun x y hx hy => (blw16 x hx).elim (fun h => dd_ho_hfr x y h hy) (fun h e => by have := (hfr.lt y hy).2; omega)
   have zd_ho_h2 := d_ho_h2
   replace d_ho_h2 : ∀ x, (vw16 : Value).ownBlock = some x → x ≠ b2 := fun x hx => (blw16 x hx).elim (d_ho_h2 x) (fun h e => by have := h2.lt; omega)
   have zd_ho_h3 := d_ho_h3
   replace d_ho_h3 : ∀ x, (vw16 : Value).ownBlock = some x → x ≠ b3 := fun x hx => (blw16 x hx).elim (d_ho_h3 x) (fun h e => by have := h3.lt; omega)
   replace hT := hT.then sw16
   replace hS := hS.then sw16
   replace hfr := hfr.stp sw16 (fun x hx => frw16 x (hfr.lt x hx).2 (fun e => zdd_ho_hfr x x e.symm hx rfl))
   replace he := he.stp sw16 (frw16 ye he.lt (fun e => zd_ho_he _ e.symm rfl))
   replace h2 := h2.stp sw16 (frw16 b2 h2.lt (fun e => zd_ho_h2 _ e.symm rfl))
   replace h3 := h3.stp sw16 (frw16 b3 h3.lt (fun e => zd_ho_h3 _ e.symm rfl))
   replace hb := hb.stp sw16
   replace hc := Rep.stp hc sw16
   replace hlow := sw16.low
   replace hB := sw16.z hB
   refine ⟨⟨⟨_, hS⟩, h3.box.heap.trans D_h3.heap.symm⟩, ?_⟩
   replace ho := hw16
   clear hw16
   refine a_p 6 tK rfl rfl rfl rfl (by kernel_rfl) (fun _ _ _ h => h) ⟨⟨_, hS⟩, h3.box.heap.trans D_h3.heap.symm⟩ ?_
   obtain ⟨av6, cv6, rfl, _⟩ := ho.val
   refine a_bar 7 rfl (by kernel_rfl) (by kernel_rfl) (o_st tK h3.box rfl rfl rfl rfl (by intro u hu; simp [Value.cells] at hu; subst hu; rfl) rfl rfl ?_)
   intro w17 hw17 qw17 bew17
   have uw17 : UpdB _ _ _ := ⟨qw17, bew17⟩
   have sw17 := uw17.stp h3.inM hlow h3.ge
   have frw17 := qw17.2
   replace hT := hT.then sw17
   replace hS := hS.then sw17
   replace hfr := hfr.stp sw17 (fun x hx => frw17 x (hfr.lt x hx).2 (d_hfr_h3 x hx))
   replace he := he.stp sw17 (frw17 ye he.lt ne_he_h3)
   replace ho := ho.stp sw17 (fun x hx => frw17 x (ho.lt x hx).2 (d_ho_h3 x hx))
   replace h2 := h2.stp sw17 (frw17 b2 h2.lt ne_h2_h3)
   replace hb := hb.stp sw17
   replace hc := Rep.stp hc sw17
   replace hlow := sw17.low
   replace hB := sw17.z hB
   replace h3 : MB B _ w17 b3 _ [.int .u8 (l.headD 0).toNat, .string (kheadE (l.headD 0) l.tail (bad || l.isEmpty)).2.1, .int .i64 (kheadE (l.headD 0) l.tail (bad || l.isEmpty)).1, (.slice av6 (ks ++ [(kindE k st.1 st.2).1]).length cv6)] := ⟨hw17, h3.inM, h3.ge⟩
   refine a_end (by kernel_rfl) ?_
   refine x_blk (x_seq (c_reg ?_))
   refine lC (o_ai rfl rfl rfl (by omega) rfl rfl ?_)
   refine l_p 1 tK rfl (l_nil ?_)
   exact x_round6 (i + 1) ((.slice av6 (ks ++ [(kindE k st.1 st.2).1]).length cv6)) (Mw16) (bvw14) (ks ++ [(kindE k st.1 st.2).1]) (((kindE k st.1 st.2).2.1, (kindE k st.1 st.2).2.2)) (s5 rfl rfl rfl rfl (get_num rfl (by omega))) ⟨by omega, by rw [hinv, show kcnt (l.headD 0) - i = (kcnt (l.headD 0) - (i + 1)) + 1 by omega, kidsE_step (k := kcnt (l.headD 0) - (i + 1)) hbf, hbf]; simp, by simp [hks], by have := kindE_less k st.1 st.2; simp only; omega, fun _ => by have := kindE_less k st.1 st.2; have := hsk hbf; simp only; omega, ho, he, hb, h2, h3, hT, hfr, hlow, hB, d_hfr_he, d_hfr_h2, d_hfr_h3, d_ho_he, dd_ho_hfr, d_ho_h2, d_ho_h3⟩ (by omega)
  refine c_exit (x_seqE (x_seqE (x_blkE (x_seq (q0 ?_)))))
  refine lC (o_lds tK (fun j v hv => h3.cell j v hv) rfl rfl rfl rfl rfl rfl ?_)
  obtain ⟨av, cv, rfl, _⟩ := ho.val
  refine lC (o_st tK h2.box rfl rfl rfl rfl (by intro u hu; simp [Value.cells] at hu; rcases hu with rfl | rfl | rfl | rfl <;> rfl) rfl rfl ?_)
  intro w18 hw18 qw18 bew18
  have uw18 : UpdB _ _ _ := ⟨qw18, bew18⟩
  have sw18 := uw18.stp h2.inM hlow h2.ge
  have frw18 := qw18.2
  replace hT := hT.then sw18
  replace hfr := hfr.stp sw18 (fun x hx => frw18 x (hfr.lt x hx).2 (d_hfr_h2 x hx))
  replace he := he.stp sw18 (frw18 ye he.lt ne_he_h2)
  replace ho := ho.stp sw18 (fun x hx => frw18 x (ho.lt x hx).2 (d_ho_h2 x hx))
  replace h3 := h3.stp sw18 (frw18 b3 h3.lt ne_h2_h3.symm)
  replace hb := hb.stp sw18
  replace hlow := sw18.low
  replace hB := sw18.z hB
  replace h2 : MB B _ w18 b2 _ [.int .u8 (l.headD 0).toNat, .string (kheadE (l.headD 0) l.tail (bad || l.isEmpty)).2.1, .int .i64 (kheadE (l.headD 0) l.tail (bad || l.isEmpty)).1, (.slice av ks.length cv)] := ⟨hw18, h2.inM, h2.ge⟩
  refine q1 (c_ret ?_)
  refine x_ret1s tK (fun j v hv => h2.cell j v hv) rfl rfl rfl rfl rfl ?_
  have hsl2 : Sl M w18 (.slice av ks.length cv) ks := ho.slM (by omega) (fun b hb => new_of dd_ho_hfr d_ho_he hlow0 hb) hT.sub
  rw [show kcnt (l.headD 0) - i = 0 by omega] at hinv
  replace hinv := hinv.trans (by rw [show (kidsE (kindE k) 0 st.1 st.2) = ([], st.1, st.2) from rfl, List.append_nil])
  rw [kindE, hinv]
  exact ⟨ty_mk (by omega) (by omega) (by unfold I64; omega) hsl2, ⟨_, ⟨he.box, he0.inM, he0.ge⟩, Sl.wk hb (fun b _ h => hT.sub b h)⟩, hT.drop hlow0, hfr⟩
theorem u8_one (c : UInt8) : decide ((c.toNat : Int) = 1) = decide (c = 1) := by
 rw [decide_eq_decide]
 exact ⟨fun h => UInt8.toNat_inj.1 (show c.toNat = 1 by omega), fun h => by subst h; rfl⟩
theorem eyeTerm_spec : ∀ (k : Nat) (l : List UInt8) (bad : Bool) (M : Nat → Prop) (w : World) (B ye : Nat) (bv : Value), MB B M w ye 130 [bv, .bool bad] → Sl M w bv l → Low M w → B ≤ w.heap.size → l.length < k → l.length ≤ 1000000 →
  Calls Try.prog 75 #[.pointer (some ⟨ye, 0, none⟩)] w (Ret fun r w' => Rep.R M w' r ((termE k l bad).1) ∧ (∃ bv', MB B M w' ye 130 [bv', .bool ((termE k l bad).2.2)] ∧ Sl M w' bv' ((termE k l bad).2.1)) ∧ Stp B M M w w' ∧ Kept w w' (Out (fun x => x = ye) w)) := by
 intro k
 induction k with
 | zero => intro l bad M w B ye bv he hb hlow hB hlk; exact absurd hlk (Nat.not_lt_zero _)
 | succ k ih =>
  intro l bad M w B ye bv he hb hlow hB hlk hll
  have hT : Stp B M M w w := Stp.refl hlow
  have hlow0 := hlow
  have he0 := he
  have hfr : Kept w w (Out (fun x => x = ye) w) := Kept.refl (fun x hx => hx.1)
  have d_hfr_he : ∀ x, (Out (fun x => x = ye) w) x → x ≠ ye := fun x hx => hx.2
  have hc8 : (l.headD 0).toNat < 256 := (l.headD 0).toNat_lt
  have hle := e_less l bad
  have htl : l.tail.length ≤ l.length := by simp
  refine c_enter (n := 91) Try.func75 rfl rfl rfl ?_
  refine q0 ?_
  refine lC (o_new tK rfl rfl rfl ?_)
  intro b2 w1 qb2 ew1 hb2
  have ne_he_h2 : ye ≠ b2 := by have := he.lt; omega
  have d_hfr_h2 : ∀ x, (Out (fun x => x = ye) w) x → x ≠ b2 := fun x hx => by have := (hfr.lt x hx).2; omega
  have sw1 := Stp.add ew1 hlow hB (Nat.le_of_eq qb2.symm) hb2.lt
  have h2 : MB B (Rw.Add M b2) w1 b2 84 [.int .u8 0, .string ⟨#[]⟩, .string ⟨#[]⟩, .int .i64 0, .bool false, .int .u8 0, .string ⟨#[]⟩, .int .i64 0, .slice none 0 0, .slice none 0 0] := MB.mk' hb2 qb2 hB
  replace hT := hT.then sw1
  replace hfr := hfr.stp sw1 (fun x hx => ew1.block x (hfr.lt x hx).2)
  replace he := he.stp sw1 (ew1.block ye he.lt)
  replace hb := hb.stp sw1
  replace hlow := sw1.low
  replace hB := sw1.z hB
  refine q1 (q0 (l_p 1 tK rfl ?_))
  refine lC (o_call fo103 rfl rfl rfl (eyeOne_spec _ _ B ye _ _ _ he hb hlow hB) ?_)
  rintro _ w2 ⟨rfl, bvw2, hew2, hbw2, uw2⟩
  have sw2 := uw2.stp he.inM hlow he.ge
  have frw2 := uw2.upd.2
  replace hT := hT.then sw2
  replace hfr := hfr.stp sw2 (fun x hx => frw2 x (hfr.lt x hx).2 (d_hfr_he x hx))
  replace h2 := h2.stp sw2 (frw2 b2 h2.lt ne_he_h2.symm)
  replace hlow := sw2.low
  replace hB := sw2.z hB
  replace he := hew2
  replace hb := hbw2
  clear hew2 hbw2
  refine lC (o_build (cells := [.int .u8 (e0 l bad).1, .string ⟨#[]⟩, .string ⟨#[]⟩, .int .i64 0, .bool false, .int .u8 0, .string ⟨#[]⟩, .int .i64 0, .slice none 0 0, .slice none 0 0]) (css := [[.int .u8 (e0 l bad).1]]) bd84 rfl rfl rfl rfl rfl ?_)
  refine lC (o_new tK rfl rfl rfl ?_)
  intro b3 w3 qb3 ew3 hb3
  have ne_he_h3 : ye ≠ b3 := by have := he.lt; omega
  have d_hfr_h3 : ∀ x, (Out (fun x => x = ye) w) x → x ≠ b3 := fun x hx => by have := (hfr.lt x hx).2; omega
  have ne_h2_h3 : b2 ≠ b3 := by have := h2.lt; omega
  have sw3 := Stp.add ew3 hlow hB (Nat.le_of_eq qb3.symm) hb3.lt
  have h3 : MB B (Rw.Add (Rw.Add M b2) b3) w3 b3 84 [.int .u8 0, .string ⟨#[]⟩, .string ⟨#[]⟩, .int .i64 0, .bool false, .int .u8 0, .string ⟨#[]⟩, .int .i64 0, .slice none 0 0, .slice none 0 0] := MB.mk' hb3 qb3 hB
  replace hT := hT.then sw3
  replace hfr := hfr.stp sw3 (fun x hx => ew3.block x (hfr.lt x hx).2)
  replace he := he.stp sw3 (ew3.block ye he.lt)
  replace h2 := h2.stp sw3 (ew3.block b2 h2.lt)
  replace hb := hb.stp sw3
  replace hlow := sw3.low
  replace hB := sw3.z hB
  refine lC (o_st tK h3.box rfl rfl rfl rfl (by intro u hu; simp [Value.cells] at hu; rcases hu with rfl | rfl | rfl | rfl | rfl | rfl | rfl | rfl | rfl | rfl <;> rfl) rfl rfl ?_)
  intro w4 hw4 qw4 bew4
  have uw4 : UpdB _ _ _ := ⟨qw4, bew4⟩
  have sw4 := uw4.stp h3.inM hlow h3.ge
  have frw4 := qw4.2
  replace hT := hT.then sw4
  replace hfr := hfr.stp sw4 (fun x hx => frw4 x (hfr.lt x hx).2 (d_hfr_h3 x hx))
  replace he := he.stp sw4 (frw4 ye he.lt ne_he_h3)
  replace h2 := h2.stp sw4 (frw4 b2 h2.lt ne_h2_h3)
  replace hb := hb.stp sw4
  replace hlow := sw4.low
  replace hB := sw4.z hB
  replace h3 : MB B _ w4 b3 _ [.int .u8 (e0 l bad).1, .string ⟨#[]⟩, .string ⟨#[]⟩, .int .i64 0, .bool false, .int .u8 0, .string ⟨#[]⟩, .int .i64 0, .slice none 0 0, .slice none 0 0] := ⟨hw4, h3.inM, h3.ge⟩
  refine q1 (q0 (l_p 1 tK rfl ?_))
  refine lC (o_ld tK (h3.cell 0 _ rfl) rfl rfl rfl rfl rfl ?_)
  refine lC (o_call fo104 rfl rfl rfl (prt_spec (e0 l bad).1 _) ?_)
  rintro _ _ ⟨rfl, rfl⟩
  refine l_p 9 tK rfl (q1 ?_)
  refine c_cut (X := Value) (fun bv => [(0, .pointer (some ⟨ye, 0, none⟩)), (2, .pointer (some ⟨b2, 0, none⟩)), (3, .pointer (some ⟨b3, 0, none⟩)), (5, .bool (prt (e0 l bad).1).2.1), (6, .bool (prt (e0 l bad).1).2.2.1), (7, .int .i64 (prt (e0 l bad).1).2.2.2)]) (fun bv w' => MB B (Rw.Add (Rw.Add M b2) b3) w' ye 130 [bv, .bool (e1 l bad).2.2] ∧ Sl (Rw.Add (Rw.Add M b2) b3) w' bv (e1 l bad).2.1 ∧ MB B (Rw.Add (Rw.Add M b2) b3) w' b2 84 [.int .u8 0, .string ⟨#[]⟩, .string ⟨#[]⟩, .int .i64 0, .bool false, .int .u8 0, .string ⟨#[]⟩, .int .i64 0, .slice none 0 0, .slice none 0 0] ∧ MB B (Rw.Add (Rw.Add M b2) b3) w' b3 84 [.int .u8 (e0 l bad).1, .string (e1 l bad).1, .string ⟨#[]⟩, .int .i64 0, .bool false, .int .u8 0, .string ⟨#[]⟩, .int .i64 0, .slice none 0 0, .slice none 0 0] ∧ Stp B M (Rw.Add (Rw.Add M b2) b3) w w' ∧ Kept w w' (Out (fun x => x = ye) w) ∧ Low (Rw.Add (Rw.Add M b2) b3) w' ∧ B ≤ w'.heap.size) ?_ ?_
  ·refine q0 (l_p 1 tK rfl (q1 ?_))
   refine c_if _ rfl (fun c1 => ?_) (fun c1 => ?_)
   ·refine c_reg (l_p 1 tK rfl ?_)
    refine lC (o_call fo73 rfl rfl rfl (eyeText_spec _ _ B ye _ _ _ he hb hlow hB) ?_)
    rintro _ w5 ⟨rfl, bvw5, hew5, hbw5, uw5⟩
    have sw5 := uw5.stp he.inM hlow he.ge
    have frw5 := uw5.upd.2
    replace hT := hT.then sw5
    replace hfr := hfr.stp sw5 (fun x hx => frw5 x (hfr.lt x hx).2 (d_hfr_he x hx))
    replace h2 := h2.stp sw5 (frw5 b2 h2.lt ne_he_h2.symm)
    replace h3 := h3.stp sw5 (frw5 b3 h3.lt ne_he_h3.symm)
    replace hlow := sw5.low
    replace hB := sw5.z hB
    replace he := hew5
    replace hb := hbw5
    clear hew5 hbw5
    refine l_p 1 tK rfl ?_
    refine lC (o_st tK h3.box rfl rfl rfl rfl (by intro u hu; simp [Value.cells] at hu; subst hu; rfl) rfl rfl ?_)
    intro w6 hw6 qw6 bew6
    have uw6 : UpdB _ _ _ := ⟨qw6, bew6⟩
    have sw6 := uw6.stp h3.inM hlow h3.ge
    have frw6 := qw6.2
    replace hT := hT.then sw6
    replace hfr := hfr.stp sw6 (fun x hx => frw6 x (hfr.lt x hx).2 (d_hfr_h3 x hx))
    replace he := he.stp sw6 (frw6 ye he.lt ne_he_h3)
    replace h2 := h2.stp sw6 (frw6 b2 h2.lt ne_h2_h3)
    replace hb := hb.stp sw6
    replace hlow := sw6.low
    replace hB := sw6.z hB
    replace h3 : MB B _ w6 b3 _ [.int .u8 (e0 l bad).1, .string (textE (e0 l bad).2.1 (e0 l bad).2.2).1, .string ⟨#[]⟩, .int .i64 0, .bool false, .int .u8 0, .string ⟨#[]⟩, .int .i64 0, .slice none 0 0, .slice none 0 0] := ⟨hw6, h3.inM, h3.ge⟩
    refine l_nil ?_
    have ee : e1 l bad = textE (e0 l bad).2.1 (e0 l bad).2.2 := by unfold e1 eT; rw [c1]; rfl
    exact x_cut (bvw5) (s6 rfl rfl rfl rfl rfl rfl) (by rw [ee]; exact ⟨he, hb, h2, h3, hT, hfr, hlow, hB⟩)
   refine c_skip ?_
   have ee : e1 l bad = (⟨#[]⟩, (e0 l bad).2.1, (e0 l bad).2.2) := by unfold e1 eT; rw [c1]; rfl
   exact x_cut (bvw2) (s6 rfl rfl rfl rfl rfl rfl) (by rw [ee]; exact ⟨he, hb, h2, h3, hT, hfr, hlow, hB⟩)
  clear he hb h2 h3 hT hfr hlow hB
  rintro bv w81 ⟨he, hb, h2, h3, hT, hfr, hlow, hB⟩
  refine c_cut (X := Value) (fun bv => [(0, .pointer (some ⟨ye, 0, none⟩)), (2, .pointer (some ⟨b2, 0, none⟩)), (3, .pointer (some ⟨b3, 0, none⟩)), (6, .bool (prt (e0 l bad).1).2.2.1), (7, .int .i64 (prt (e0 l bad).1).2.2.2)]) (fun bv w' => MB B (Rw.Add (Rw.Add M b2) b3) w' ye 130 [bv, .bool (e2 l bad).2.2] ∧ Sl (Rw.Add (Rw.Add M b2) b3) w' bv (e2 l bad).2.1 ∧ MB B (Rw.Add (Rw.Add M b2) b3) w' b2 84 [.int .u8 0, .string ⟨#[]⟩, .string ⟨#[]⟩, .int .i64 0, .bool false, .int .u8 0, .string ⟨#[]⟩, .int .i64 0, .slice none 0 0, .slice none 0 0] ∧ MB B (Rw.Add (Rw.Add M b2) b3) w' b3 84 [.int .u8 (e0 l bad).1, .string (e1 l bad).1, .string (e2 l bad).1, .int .i64 0, .bool false, .int .u8 0, .string ⟨#[]⟩, .int .i64 0, .slice none 0 0, .slice none 0 0] ∧ Stp B M (Rw.Add (Rw.Add M b2) b3) w w' ∧ Kept w w' (Out (fun x => x = ye) w) ∧ Low (Rw.Add (Rw.Add M b2) b3) w' ∧ B ≤ w'.heap.size) ?_ ?_
  ·refine q0 (l_p 1 tK rfl (q1 ?_))
   refine c_if _ rfl (fun c2 => ?_) (fun c2 => ?_)
   ·refine c_reg (l_p 1 tK rfl ?_)
    refine lC (o_call fo73 rfl rfl rfl (eyeText_spec _ _ B ye _ _ _ he hb hlow hB) ?_)
    rintro _ w7 ⟨rfl, bvw7, hew7, hbw7, uw7⟩
    have sw7 := uw7.stp he.inM hlow he.ge
    have frw7 := uw7.upd.2
    replace hT := hT.then sw7
    replace hfr := hfr.stp sw7 (fun x hx => frw7 x (hfr.lt x hx).2 (d_hfr_he x hx))
    replace h2 := h2.stp sw7 (frw7 b2 h2.lt ne_he_h2.symm)
    replace h3 := h3.stp sw7 (frw7 b3 h3.lt ne_he_h3.symm)
    replace hlow := sw7.low
    replace hB := sw7.z hB
    replace he := hew7
    replace hb := hbw7
    clear hew7 hbw7
    refine l_p 1 tK rfl ?_
    refine lC (o_st tK h3.box rfl rfl rfl rfl (by intro u hu; simp [Value.cells] at hu; subst hu; rfl) rfl rfl ?_)
    intro w8 hw8 qw8 bew8
    have uw8 : UpdB _ _ _ := ⟨qw8, bew8⟩
    have sw8 := uw8.stp h3.inM hlow h3.ge
    have frw8 := qw8.2
    replace hT := hT.then sw8
    replace hfr := hfr.stp sw8 (fun x hx => frw8 x (hfr.lt x hx).2 (d_hfr_h3 x hx))
    replace he := he.stp sw8 (frw8 ye he.lt ne_he_h3)
    replace h2 := h2.stp sw8 (frw8 b2 h2.lt ne_h2_h3)
    replace hb := hb.stp sw8
    replace hlow := sw8.low
    replace hB := sw8.z hB
    replace h3 : MB B _ w8 b3 _ [.int .u8 (e0 l bad).1, .string (e1 l bad).1, .string (textE (e1 l bad).2.1 (e1 l bad).2.2).1, .int .i64 0, .bool false, .int .u8 0, .string ⟨#[]⟩, .int .i64 0, .slice none 0 0, .slice none 0 0] := ⟨hw8, h3.inM, h3.ge⟩
    refine l_nil ?_
    have ee : e2 l bad = textE (e1 l bad).2.1 (e1 l bad).2.2 := by unfold e2 eT; rw [c2]; rfl
    exact x_cut (bvw7) (s5 rfl rfl rfl rfl rfl) (by rw [ee]; exact ⟨he, hb, h2, h3, hT, hfr, hlow, hB⟩)
   refine c_skip ?_
   have ee : e2 l bad = (⟨#[]⟩, (e1 l bad).2.1, (e1 l bad).2.2) := by unfold e2 eT; rw [c2]; rfl
   exact x_cut (bv) (s5 rfl rfl rfl rfl rfl) (by rw [ee]; exact ⟨he, hb, h2, h3, hT, hfr, hlow, hB⟩)
  clear he hb h2 h3 hT hfr hlow hB
  rintro bv w82 ⟨he, hb, h2, h3, hT, hfr, hlow, hB⟩
  refine c_cut (X := Value) (fun bv => [(0, .pointer (some ⟨ye, 0, none⟩)), (2, .pointer (some ⟨b2, 0, none⟩)), (3, .pointer (some ⟨b3, 0, none⟩)), (7, .int .i64 (prt (e0 l bad).1).2.2.2)]) (fun bv w' => MB B (Rw.Add (Rw.Add M b2) b3) w' ye 130 [bv, .bool (e3 l bad).2.2] ∧ Sl (Rw.Add (Rw.Add M b2) b3) w' bv (e3 l bad).2.1 ∧ MB B (Rw.Add (Rw.Add M b2) b3) w' b2 84 [.int .u8 0, .string ⟨#[]⟩, .string ⟨#[]⟩, .int .i64 0, .bool false, .int .u8 0, .string ⟨#[]⟩, .int .i64 0, .slice none 0 0, .slice none 0 0] ∧ MB B (Rw.Add (Rw.Add M b2) b3) w' b3 84 [.int .u8 (e0 l bad).1, .string (e1 l bad).1, .string (e2 l bad).1, .int .i64 ((e3 l bad).1 : Int), .bool false, .int .u8 0, .string ⟨#[]⟩, .int .i64 0, .slice none 0 0, .slice none 0 0] ∧ Stp B M (Rw.Add (Rw.Add M b2) b3) w w' ∧ Kept w w' (Out (fun x => x = ye) w) ∧ Low (Rw.Add (Rw.Add M b2) b3) w' ∧ B ≤ w'.heap.size) ?_ ?_
  ·refine q0 (l_p 1 tK rfl (q1 ?_))
   refine c_if _ rfl (fun c3 => ?_) (fun c3 => ?_)
   ·refine c_reg (l_p 1 tK rfl ?_)
    refine lC (o_call fo101 rfl rfl rfl (eyeNum_spec _ _ B ye _ _ _ he hb hlow hB) ?_)
    rintro _ w9 ⟨rfl, bvw9, hew9, hbw9, uw9⟩
    have sw9 := uw9.stp he.inM hlow he.ge
    have frw9 := uw9.upd.2
    replace hT := hT.then sw9
    replace hfr := hfr.stp sw9 (fun x hx => frw9 x (hfr.lt x hx).2 (d_hfr_he x hx))
    replace h2 := h2.stp sw9 (frw9 b2 h2.lt ne_he_h2.symm)
    replace h3 := h3.stp sw9 (frw9 b3 h3.lt ne_he_h3.symm)
    replace hlow := sw9.low
    replace hB := sw9.z hB
    replace he := hew9
    replace hb := hbw9
    clear hew9 hbw9
    have hnl := numE_less (e2 l bad).2.1 (e2 l bad).2.2
    refine lC (o_conv (y := (((numE (e2 l bad).2.1 (e2 l bad).2.2).1 : Nat) : Int)) tK rfl rfl rfl rfl rfl (IntWalk.i64_in _ (by omega)) rfl rfl ?_)
    refine l_p 1 tK rfl ?_
    refine lC (o_st tK h3.box rfl rfl rfl rfl (by intro u hu; simp [Value.cells] at hu; subst hu; rfl) rfl rfl ?_)
    intro w10 hw10 qw10 bew10
    have uw10 : UpdB _ _ _ := ⟨qw10, bew10⟩
    have sw10 := uw10.stp h3.inM hlow h3.ge
    have frw10 := qw10.2
    replace hT := hT.then sw10
    replace hfr := hfr.stp sw10 (fun x hx => frw10 x (hfr.lt x hx).2 (d_hfr_h3 x hx))
    replace he := he.stp sw10 (frw10 ye he.lt ne_he_h3)
    replace h2 := h2.stp sw10 (frw10 b2 h2.lt ne_h2_h3)
    replace hb := hb.stp sw10
    replace hlow := sw10.low
    replace hB := sw10.z hB
    replace h3 : MB B _ w10 b3 _ [.int .u8 (e0 l bad).1, .string (e1 l bad).1, .string (e2 l bad).1, .int .i64 (((numE (e2 l bad).2.1 (e2 l bad).2.2).1 : Nat) : Int), .bool false, .int .u8 0, .string ⟨#[]⟩, .int .i64 0, .slice none 0 0, .slice none 0 0] := ⟨hw10, h3.inM, h3.ge⟩
    refine l_nil ?_
    have ee : e3 l bad = numE (e2 l bad).2.1 (e2 l bad).2.2 := by unfold e3 eN; rw [c3]; rfl
    exact x_cut (bvw9) (s4 rfl rfl rfl rfl) (by rw [ee]; exact ⟨he, hb, h2, h3, hT, hfr, hlow, hB⟩)
   refine c_skip ?_
   have ee : e3 l bad = (0, (e2 l bad).2.1, (e2 l bad).2.2) := by unfold e3 eN; rw [c3]; rfl
   exact x_cut (bv) (s4 rfl rfl rfl rfl) (by rw [ee]; exact ⟨he, hb, h2, h3, hT, hfr, hlow, hB⟩)
  clear he hb h2 h3 hT hfr hlow hB
  rintro bv w83 ⟨he, hb, h2, h3, hT, hfr, hlow, hB⟩
  refine q0 (l_p 3 tK rfl ?_)
  refine lC (o_st tK h3.box rfl rfl rfl rfl (by intro u hu; simp [Value.cells] at hu; subst hu; rfl) rfl rfl ?_)
  intro w11 hw11 qw11 bew11
  have uw11 : UpdB _ _ _ := ⟨qw11, bew11⟩
  have sw11 := uw11.stp h3.inM hlow h3.ge
  have frw11 := qw11.2
  replace hT := hT.then sw11
  replace hfr := hfr.stp sw11 (fun x hx => frw11 x (hfr.lt x hx).2 (d_hfr_h3 x hx))
  replace he := he.stp sw11 (frw11 ye he.lt ne_he_h3)
  replace h2 := h2.stp sw11 (frw11 b2 h2.lt ne_h2_h3)
  replace hb := hb.stp sw11
  replace hlow := sw11.low
  replace hB := sw11.z hB
  replace h3 : MB B _ w11 b3 _ [.int .u8 (e0 l bad).1, .string (e1 l bad).1, .string (e2 l bad).1, .int .i64 ((e3 l bad).1 : Int), .bool (decide ((prt (e0 l bad).1).2.2.2 = 2)), .int .u8 0, .string ⟨#[]⟩, .int .i64 0, .slice none 0 0, .slice none 0 0] := ⟨hw11, h3.inM, h3.ge⟩
  refine q1 ?_
  refine c_cut (X := Value) (fun bv => [(0, .pointer (some ⟨ye, 0, none⟩)), (2, .pointer (some ⟨b2, 0, none⟩)), (3, .pointer (some ⟨b3, 0, none⟩))]) (fun bv w' => MB B (Rw.Add (Rw.Add M b2) b3) w' ye 130 [bv, .bool (e4 l bad).2.2] ∧ Sl (Rw.Add (Rw.Add M b2) b3) w' bv (e4 l bad).2.1 ∧ MB B (Rw.Add (Rw.Add M b2) b3) w' b2 84 [.int .u8 0, .string ⟨#[]⟩, .string ⟨#[]⟩, .int .i64 0, .bool false, .int .u8 0, .string ⟨#[]⟩, .int .i64 0, .slice none 0 0, .slice none 0 0] ∧ MB B (Rw.Add (Rw.Add M b2) b3) w' b3 84 [.int .u8 (e0 l bad).1, .string (e1 l bad).1, .string (e2 l bad).1, .int .i64 ((e3 l bad).1 : Int), .bool (e4 l bad).1, .int .u8 0, .string ⟨#[]⟩, .int .i64 0, .slice none 0 0, .slice none 0 0] ∧ Stp B M (Rw.Add (Rw.Add M b2) b3) w w' ∧ Kept w w' (Out (fun x => x = ye) w) ∧ Low (Rw.Add (Rw.Add M b2) b3) w' ∧ B ≤ w'.heap.size) ?_ ?_
  ·refine q0 (l_p 2 tK rfl (q1 ?_))
   refine c_ifP _ rfl (fun c4 => ?_) (fun c4 => ?_)
   ·refine q0 (l_p 1 tK rfl ?_)
    refine lC (o_call fo103 rfl rfl rfl (eyeOne_spec _ _ B ye _ _ _ he hb hlow hB) ?_)
    rintro _ w12 ⟨rfl, bvw12, hew12, hbw12, uw12⟩
    have sw12 := uw12.stp he.inM hlow he.ge
    have frw12 := uw12.upd.2
    replace hT := hT.then sw12
    replace hfr := hfr.stp sw12 (fun x hx => frw12 x (hfr.lt x hx).2 (d_hfr_he x hx))
    replace h2 := h2.stp sw12 (frw12 b2 h2.lt ne_he_h2.symm)
    replace h3 := h3.stp sw12 (frw12 b3 h3.lt ne_he_h3.symm)
    replace hlow := sw12.low
    replace hB := sw12.z hB
    replace he := hew12
    replace hb := hbw12
    clear hew12 hbw12
    refine l_p 1 tK rfl (q1 (c_seq (q0 (l_p 2 tK rfl (q1 ?_)))))
    refine c_ifP _ rfl (fun c5 => ?_) (fun c5 => ?_)
    ·refine c_reg (l_p 1 tK rfl ?_)
     refine lC (o_call fo102 rfl rfl rfl (eyeFail_spec _ _ B ye _ _ _ he hb hlow hB) ?_)
     rintro _ w13 ⟨rfl, bvw13, hew13, hbw13, uw13⟩
     have sw13 := uw13.stp he.inM hlow he.ge
     have frw13 := uw13.upd.2
     replace hT := hT.then sw13
     replace hfr := hfr.stp sw13 (fun x hx => frw13 x (hfr.lt x hx).2 (d_hfr_he x hx))
     replace h2 := h2.stp sw13 (frw13 b2 h2.lt ne_he_h2.symm)
     replace h3 := h3.stp sw13 (frw13 b3 h3.lt ne_he_h3.symm)
     replace hlow := sw13.low
     replace hB := sw13.z hB
     replace he := hew13
     replace hb := hbw13
     clear hew13 hbw13
     refine q1 (c_reg (l_p 3 tK rfl ?_))
     refine lC (o_st tK h3.box rfl rfl rfl rfl (by intro u hu; simp [Value.cells] at hu; subst hu; rfl) rfl rfl ?_)
     intro w14 hw14 qw14 bew14
     have uw14 : UpdB _ _ _ := ⟨qw14, bew14⟩
     have sw14 := uw14.stp h3.inM hlow h3.ge
     have frw14 := qw14.2
     replace hT := hT.then sw14
     replace hfr := hfr.stp sw14 (fun x hx => frw14 x (hfr.lt x hx).2 (d_hfr_h3 x hx))
     replace he := he.stp sw14 (frw14 ye he.lt ne_he_h3)
     replace h2 := h2.stp sw14 (frw14 b2 h2.lt ne_h2_h3)
     replace hb := hb.stp sw14
     replace hlow := sw14.low
     replace hB := sw14.z hB
     replace h3 : MB B _ w14 b3 _ [.int .u8 (e0 l bad).1, .string (e1 l bad).1, .string (e2 l bad).1, .int .i64 ((e3 l bad).1 : Int), .bool (decide ((((e3 l bad).2.1.headD 0).toNat : Int) = 1)), .int .u8 0, .string ⟨#[]⟩, .int .i64 0, .slice none 0 0, .slice none 0 0] := ⟨hw14, h3.inM, h3.ge⟩
     refine l_nil ?_
     have ee : e4 l bad = (decide ((((e3 l bad).2.1.headD 0).toNat : Int) = 1), [], true) := by unfold e4 eH; rw [decide_eq_true c4, u8_one]; simp only [cond_true]; rw [decide_eq_true (show 1 < ((e3 l bad).2.1.headD 0).toNat by omega)]; simp
     exact x_cut (bvw13) (s3 rfl rfl rfl) (by rw [ee]; exact ⟨he, hb, h2, h3, hT, hfr, hlow, hB⟩)
    refine c_skip (x_seq (c_reg (l_p 3 tK rfl ?_)))
    refine lC (o_st tK h3.box rfl rfl rfl rfl (by intro u hu; simp [Value.cells] at hu; subst hu; rfl) rfl rfl ?_)
    intro w15 hw15 qw15 bew15
    have uw15 : UpdB _ _ _ := ⟨qw15, bew15⟩
    have sw15 := uw15.stp h3.inM hlow h3.ge
    have frw15 := qw15.2
    replace hT := hT.then sw15
    replace hfr := hfr.stp sw15 (fun x hx => frw15 x (hfr.lt x hx).2 (d_hfr_h3 x hx))
    replace he := he.stp sw15 (frw15 ye he.lt ne_he_h3)
    replace h2 := h2.stp sw15 (frw15 b2 h2.lt ne_h2_h3)
    replace hb := hb.stp sw15
    replace hlow := sw15.low
    replace hB := sw15.z hB
    replace h3 : MB B _ w15 b3 _ [.int .u8 (e0 l bad).1, .string (e1 l bad).1, .string (e2 l bad).1, .int .i64 ((e3 l bad).1 : Int), .bool (decide ((((e3 l bad).2.1.headD 0).toNat : Int) = 1)), .int .u8 0, .string ⟨#[]⟩, .int .i64 0, .slice none 0 0, .slice none 0 0] := ⟨hw15, h3.inM, h3.ge⟩
    refine l_nil ?_
    have ee : e4 l bad = (decide ((((e3 l bad).2.1.headD 0).toNat : Int) = 1), (e3 l bad).2.1.tail, ((e3 l bad).2.2 || (e3 l bad).2.1.isEmpty)) := by unfold e4 eH; rw [decide_eq_true c4, u8_one]; simp only [cond_true]; rw [decide_eq_false (show ¬ 1 < ((e3 l bad).2.1.headD 0).toNat by omega)]; simp
    exact x_cut (bvw12) (s3 rfl rfl rfl) (by rw [ee]; exact ⟨he, hb, h2, h3, hT, hfr, hlow, hB⟩)
   refine c_skip ?_
   have ee : e4 l bad = (decide ((prt (e0 l bad).1).2.2.2 = 2), (e3 l bad).2.1, (e3 l bad).2.2) := by unfold e4 eH; rw [decide_eq_false c4]; rfl
   exact x_cut (bv) (s3 rfl rfl rfl) (by rw [ee]; exact ⟨he, hb, h2, h3, hT, hfr, hlow, hB⟩)
  clear he hb h2 h3 hT hfr hlow hB
  rintro bv w84 ⟨he, hb, h2, h3, hT, hfr, hlow, hB⟩
  refine c_cut2 (X := Value) (Y := Value) (fun bv akv => [(0, .pointer (some ⟨ye, 0, none⟩)), (2, .pointer (some ⟨b2, 0, none⟩)), (3, .pointer (some ⟨b3, 0, none⟩))]) (fun bv akv w' => MB B (Rw.Add (Rw.Add M b2) b3) w' ye 130 [bv, .bool (e5 l bad).2.2] ∧ Sl (Rw.Add (Rw.Add M b2) b3) w' bv (e5 l bad).2.1 ∧ MB B (Rw.Add (Rw.Add M b2) b3) w' b2 84 [.int .u8 0, .string ⟨#[]⟩, .string ⟨#[]⟩, .int .i64 0, .bool false, .int .u8 0, .string ⟨#[]⟩, .int .i64 0, .slice none 0 0, .slice none 0 0] ∧ MB B (Rw.Add (Rw.Add M b2) b3) w' b3 84 [.int .u8 (e0 l bad).1, .string (e1 l bad).1, .string (e2 l bad).1, .int .i64 ((e3 l bad).1 : Int), .bool (e4 l bad).1, .int .u8 (e5 l bad).1.op, .string (e5 l bad).1.name, .int .i64 (e5 l bad).1.n, akv, .slice none 0 0] ∧ Stp B M (Rw.Add (Rw.Add M b2) b3) w w' ∧ Kept w w' (Out (fun x => x = ye) w) ∧ Low (Rw.Add (Rw.Add M b2) b3) w' ∧ B ≤ w'.heap.size ∧ Rep.R (Rw.Add (Rw.Add M b2) b3) w' (.agg #[.int .u8 (e5 l bad).1.op, .string (e5 l bad).1.name, .int .i64 (e5 l bad).1.n, akv]) (e5 l bad).1) ?_ ?_
  ·refine q0 (l_p 1 tK rfl ?_)
   refine lC (o_ld tK (h3.cell 4 _ rfl) rfl rfl rfl rfl rfl ?_)
   refine q1 ?_
   refine c_if _ rfl (fun c6 => ?_) (fun c6 => ?_)
   ·refine c_reg (l_p 1 tK rfl ?_)
    refine lC (o_call fo77 rfl rfl rfl (eyeKind_spec ((e4 l bad).2.1.length + 1) (e4 l bad).2.1 (e4 l bad).2.2 _ _ B ye _ he hb hlow hB (by omega) (by omega)) ?_)
    rintro vhc w16 ⟨hc, ⟨bvw16, hew16, hbw16⟩, sw16, kw16⟩
    have frw16 : ∀ x, x < w84.heap.size → x ≠ ye → w16.heap[x]? = w84.heap[x]? := fun x hx hn => kw16.blk x ⟨hx, hn⟩
    replace hT := hT.then sw16
    replace hfr := hfr.stp sw16 (fun x hx => frw16 x (hfr.lt x hx).2 (d_hfr_he x hx))
    replace h2 := h2.stp sw16 (frw16 b2 h2.lt ne_he_h2.symm)
    replace h3 := h3.stp sw16 (frw16 b3 h3.lt ne_he_h3.symm)
    replace hlow := sw16.low
    replace hB := sw16.z hB
    replace he := hew16
    replace hb := hbw16
    clear hew16 hbw16
    have ee : e5 l bad = kindE ((e4 l bad).2.1.length + 1) (e4 l bad).2.1 (e4 l bad).2.2 := by unfold e5 eA; rw [c6]; rfl
    rw [← ee] at hc he hb
    obtain ⟨kvc, rfl, opc, nmc, n64c, hkc⟩ := ty_open hc
    refine l_p 1 tK rfl ?_
    refine lC (o_st tK h3.box rfl rfl rfl rfl (Rep.one hc) rfl rfl ?_)
    intro w17 hw17 qw17 bew17
    have uw17 : UpdB _ _ _ := ⟨qw17, bew17⟩
    have sw17 := uw17.stp h3.inM hlow h3.ge
    have frw17 := qw17.2
    replace hT := hT.then sw17
    replace hfr := hfr.stp sw17 (fun x hx => frw17 x (hfr.lt x hx).2 (d_hfr_h3 x hx))
    replace he := he.stp sw17 (frw17 ye he.lt ne_he_h3)
    replace h2 := h2.stp sw17 (frw17 b2 h2.lt ne_h2_h3)
    replace hb := hb.stp sw17
    replace hc := Rep.stp hc sw17
    replace hlow := sw17.low
    replace hB := sw17.z hB
    replace h3 : MB B _ w17 b3 _ [.int .u8 (e0 l bad).1, .string (e1 l bad).1, .string (e2 l bad).1, .int .i64 ((e3 l bad).1 : Int), .bool (e4 l bad).1, .int .u8 (e5 l bad).1.op, .string (e5 l bad).1.name, .int .i64 (e5 l bad).1.n, kvc, .slice none 0 0] := ⟨hw17, h3.inM, h3.ge⟩
    refine l_nil ?_
    have ha := hc
    exact x_cut2 (bvw16) (kvc) (s3 rfl rfl rfl) ⟨he, hb, h2, h3, hT, hfr, hlow, hB, ha⟩
   refine c_skip ?_
   have ha : Rep.R (Rw.Add (Rw.Add M b2) b3) w84 (.agg #[.int .u8 0, .string ⟨#[]⟩, .int .i64 0, .slice none 0 0]) (.mk 0 ⟨#[]⟩ 0 [] : Ty) := ty_mk (by decide) (by decide) ⟨by decide, by decide⟩ sl_nil
   have ee : e5 l bad = ((.mk 0 ⟨#[]⟩ 0 [] : Ty), (e4 l bad).2.1, (e4 l bad).2.2) := by unfold e5 eA; rw [c6]; rfl
   exact x_cut2 (bv) (.slice none 0 0) (s3 rfl rfl rfl) (by rw [ee]; exact ⟨he, hb, h2, h3, hT, hfr, hlow, hB, ha⟩)
  clear he hb h2 h3 hT hfr hlow hB
  rintro bv akv w85 ⟨he, hb, h2, h3, hT, hfr, hlow, hB, ha⟩
  refine q0 (l_p 1 tK rfl ?_)
  refine lC (o_ld tK (h3.cell 0 _ rfl) rfl rfl rfl rfl rfl ?_)
  refine lC (o_call fo105 rfl rfl rfl (cnt_spec (e0 l bad).1 _) ?_)
  rintro _ _ ⟨rfl, rfl⟩
  refine l_p 1 tK rfl (q1 ?_)
  refine c_cut2 (X := Value) (Y := Value) (fun bv akv => [(0, .pointer (some ⟨ye, 0, none⟩)), (2, .pointer (some ⟨b2, 0, none⟩)), (3, .pointer (some ⟨b3, 0, none⟩)), (9, .int .i64 ((e6 l bad).1 : Int))]) (fun bv akv w' => MB B (Rw.Add (Rw.Add M b2) b3) w' ye 130 [bv, .bool (e6 l bad).2.2] ∧ Sl (Rw.Add (Rw.Add M b2) b3) w' bv (e6 l bad).2.1 ∧ MB B (Rw.Add (Rw.Add M b2) b3) w' b2 84 [.int .u8 0, .string ⟨#[]⟩, .string ⟨#[]⟩, .int .i64 0, .bool false, .int .u8 0, .string ⟨#[]⟩, .int .i64 0, .slice none 0 0, .slice none 0 0] ∧ MB B (Rw.Add (Rw.Add M b2) b3) w' b3 84 [.int .u8 (e0 l bad).1, .string (e1 l bad).1, .string (e2 l bad).1, .int .i64 ((e3 l bad).1 : Int), .bool (e4 l bad).1, .int .u8 (e5 l bad).1.op, .string (e5 l bad).1.name, .int .i64 (e5 l bad).1.n, akv, .slice none 0 0] ∧ Stp B M (Rw.Add (Rw.Add M b2) b3) w w' ∧ Kept w w' (Out (fun x => x = ye) w) ∧ Low (Rw.Add (Rw.Add M b2) b3) w' ∧ B ≤ w'.heap.size ∧ Rep.R (Rw.Add (Rw.Add M b2) b3) w' (.agg #[.int .u8 (e5 l bad).1.op, .string (e5 l bad).1.name, .int .i64 (e5 l bad).1.n, akv]) (e5 l bad).1) ?_ ?_
  ·refine q0 (l_p 2 tK rfl (q1 ?_))
   refine c_ifP _ rfl (fun c7 => ?_) (fun c7 => ?_)
   ·refine q0 (l_p 1 tK rfl ?_)
    refine lC (o_call fo101 rfl rfl rfl (eyeNum_spec _ _ B ye _ _ _ he hb hlow hB) ?_)
    rintro _ w18 ⟨rfl, bvw18, hew18, hbw18, uw18⟩
    have sw18 := uw18.stp he.inM hlow he.ge
    have frw18 := uw18.upd.2
    replace hT := hT.then sw18
    replace hfr := hfr.stp sw18 (fun x hx => frw18 x (hfr.lt x hx).2 (d_hfr_he x hx))
    replace h2 := h2.stp sw18 (frw18 b2 h2.lt ne_he_h2.symm)
    replace h3 := h3.stp sw18 (frw18 b3 h3.lt ne_he_h3.symm)
    replace ha := Rep.stp ha sw18
    replace hlow := sw18.low
    replace hB := sw18.z hB
    replace he := hew18
    replace hb := hbw18
    clear hew18 hbw18
    have hnl := numE_less (e5 l bad).2.1 (e5 l bad).2.2
    refine l_p 1 tK rfl (q1 (c_seq (q0 (l_p 4 tK rfl ?_))))
    refine lC (o_ld tK (he.cell 0 _ rfl) rfl rfl rfl rfl rfl ?_)
    refine lC (o_len tK hb rfl rfl rfl rfl rfl ?_)
    have hlt2 := hb.lt
    refine lC (o_conv (y := (((numE (e5 l bad).2.1 (e5 l bad).2.2).2.1.length : Nat) : Int)) tK rfl rfl rfl rfl rfl ((wrap_u64 _).trans (by rw [u64_nat (by omega)])) rfl rfl ?_)
    refine l_p 1 tK rfl (q1 ?_)
    refine c_ifP _ rfl (fun c8 => ?_) (fun c8 => ?_)
    ·refine q0 (l_p 1 tK rfl ?_)
     refine lC (o_call fo102 rfl rfl rfl (eyeFail_spec _ _ B ye _ _ _ he hb hlow hB) ?_)
     rintro _ w19 ⟨rfl, bvw19, hew19, hbw19, uw19⟩
     have sw19 := uw19.stp he.inM hlow he.ge
     have frw19 := uw19.upd.2
     replace hT := hT.then sw19
     replace hfr := hfr.stp sw19 (fun x hx => frw19 x (hfr.lt x hx).2 (d_hfr_he x hx))
     replace h2 := h2.stp sw19 (frw19 b2 h2.lt ne_he_h2.symm)
     replace h3 := h3.stp sw19 (frw19 b3 h3.lt ne_he_h3.symm)
     replace ha := Rep.stp ha sw19
     replace hlow := sw19.low
     replace hB := sw19.z hB
     replace he := hew19
     replace hb := hbw19
     clear hew19 hbw19
     refine q1 (q0 ?_)
     refine lC (o_lds tK (fun j v hv => h3.cell j v hv) rfl rfl rfl rfl rfl rfl ?_)
     refine lC (o_st tK h2.box rfl rfl rfl rfl (by intro u hu; simp [Value.cells] at hu; have := Rep.one ha; simp [Value.cells] at this; rcases hu with rfl | rfl | rfl | rfl | rfl | rfl | rfl | rfl | rfl | rfl <;> first | rfl | exact this.2.2.2) rfl rfl ?_)
     intro w20 hw20 qw20 bew20
     have uw20 : UpdB _ _ _ := ⟨qw20, bew20⟩
     have sw20 := uw20.stp h2.inM hlow h2.ge
     have frw20 := qw20.2
     replace hT := hT.then sw20
     replace hfr := hfr.stp sw20 (fun x hx => frw20 x (hfr.lt x hx).2 (d_hfr_h2 x hx))
     replace he := he.stp sw20 (frw20 ye he.lt ne_he_h2)
     replace h3 := h3.stp sw20 (frw20 b3 h3.lt ne_h2_h3.symm)
     replace hb := hb.stp sw20
     replace ha := Rep.stp ha sw20
     replace hlow := sw20.low
     replace hB := sw20.z hB
     replace h2 : MB B _ w20 b2 _ [.int .u8 (e0 l bad).1, .string (e1 l bad).1, .string (e2 l bad).1, .int .i64 ((e3 l bad).1 : Int), .bool (e4 l bad).1, .int .u8 (e5 l bad).1.op, .string (e5 l bad).1.name, .int .i64 (e5 l bad).1.n, akv, .slice none 0 0] := ⟨hw20, h2.inM, h2.ge⟩
     refine q1 (c_ret (x_seqR (x_seqR ?_)))
     refine x_ret1s tK (fun j v hv => h2.cell j v hv) rfl rfl rfl rfl rfl ?_
     have ee : e6 l bad = (0, [], true) := by unfold e6 eC; rw [decide_eq_true c7, cond_true, decide_eq_true (by omega), cond_true]
     have hsl2 : Sl M w20 (.slice none 0 0) ([] : List Tm) := sl_nil
     rw [termE, ee]
     exact ⟨tm_mk (by unfold e0; simp only; omega) (by omega) (by omega) (by unfold I64; omega) (Rep.wk ha (fun b _ h => hT.sub b h)) hsl2, ⟨_, ⟨he.box, he0.inM, he0.ge⟩, Sl.wk hb (fun b _ h => hT.sub b h)⟩, hT.drop hlow0, hfr⟩
    refine c_skip (x_seq (c_reg (l_p 1 tK rfl ?_)))
    refine lC (o_conv (y := (((numE (e5 l bad).2.1 (e5 l bad).2.2).1 : Nat) : Int)) tK rfl rfl rfl rfl rfl (IntWalk.i64_in _ (by omega)) rfl rfl ?_)
    refine l_p 1 tK rfl (l_nil ?_)
    have ee : e6 l bad = numE (e5 l bad).2.1 (e5 l bad).2.2 := by unfold e6 eC; rw [decide_eq_true c7, cond_true, decide_eq_false (by omega), cond_false]
    exact x_cut2 (bvw18) (akv) (s4 rfl rfl rfl (get_num rfl (by rw [ee]))) (by rw [ee]; exact ⟨he, hb, h2, h3, hT, hfr, hlow, hB, ha⟩)
   refine c_skip ?_
   have ee : e6 l bad = ((cnt (e0 l bad).1).toNat, (e5 l bad).2.1, (e5 l bad).2.2) := by unfold e6 eC; rw [decide_eq_false c7]; rfl
   exact x_cut2 (bv) (akv) (s4 rfl rfl rfl (get_num rfl (by rw [ee]; show cnt _ = ((cnt _).toNat : Int); omega))) (by rw [ee]; exact ⟨he, hb, h2, h3, hT, hfr, hlow, hB, ha⟩)
  clear he hb h2 h3 hT hfr hlow hB ha
  rintro bv akv w86 ⟨he, hb, h2, h3, hT, hfr, hlow, hB, ha⟩
  refine c_seq (q0 (l_p 2 tK rfl (q1 (c_blk ?_))))
  have d_ho_he : ∀ x, (.slice none 0 0 : Value).ownBlock = some x → x ≠ ye := fun x hx => by simp [Value.ownBlock] at hx
  have dd_ho_hfr : ∀ x y, (.slice none 0 0 : Value).ownBlock = some x → (Out (fun x => x = ye) w) y → x ≠ y := fun x y hx => by simp [Value.ownBlock] at hx
  have d_ho_h2 : ∀ x, (.slice none 0 0 : Value).ownBlock = some x → x ≠ b2 := fun x hx => by simp [Value.ownBlock] at hx
  have d_ho_h3 : ∀ x, (.slice none 0 0 : Value).ownBlock = some x → x ≠ b3 := fun x hx => by simp [Value.ownBlock] at hx
  refine c_loop6 (X := Nat) (Y := Value) (Z := Nat → Prop) (U := Value) (V := List Tm) (T := List UInt8 × Bool) (fun i wv M1 bv ks st => [(0, .pointer (some ⟨ye, 0, none⟩)), (2, .pointer (some ⟨b2, 0, none⟩)), (3, .pointer (some ⟨b3, 0, none⟩)), (74, .int .i64 ((e6 l bad).1 : Int)), (75, .int .i64 (i : Nat))]) (fun i wv M1 bv ks st w' => i ≤ (e6 l bad).1 ∧ kidsE (termE k) (e6 l bad).1 (e6 l bad).2.1 (e6 l bad).2.2 = (ks ++ (kidsE (termE k) ((e6 l bad).1 - i) st.1 st.2).1, (kidsE (termE k) ((e6 l bad).1 - i) st.1 st.2).2) ∧ ks.length = i ∧ st.1.length ≤ l.length ∧ (st.2 = false → st.1.length < k) ∧ OwnSl 84 B M1 w' wv ks ∧ MB B M1 w' ye 130 [bv, .bool st.2] ∧ Sl M1 w' bv st.1 ∧ MB B M1 w' b2 84 [.int .u8 0, .string ⟨#[]⟩, .string ⟨#[]⟩, .int .i64 0, .bool false, .int .u8 0, .string ⟨#[]⟩, .int .i64 0, .slice none 0 0, .slice none 0 0] ∧ MB B M1 w' b3 84 [.int .u8 (e0 l bad).1, .string (e1 l bad).1, .string (e2 l bad).1, .int .i64 ((e3 l bad).1 : Int), .bool (e4 l bad).1, .int .u8 (e5 l bad).1.op, .string (e5 l bad).1.name, .int .i64 (e5 l bad).1.n, akv, wv] ∧ Stp B M M1 w w' ∧ Kept w w' (Out (fun x => x = ye) w) ∧ Low M1 w' ∧ B ≤ w'.heap.size ∧ Rep.R M1 w' (.agg #[.int .u8 (e5 l bad).1.op, .string (e5 l bad).1.name, .int .i64 (e5 l bad).1.n, akv]) (e5 l bad).1 ∧ (∀ x, (Out (fun x => x = ye) w) x → x ≠ ye) ∧ (∀ x, (Out (fun x => x = ye) w) x → x ≠ b2) ∧ (∀ x, (Out (fun x => x = ye) w) x → x ≠ b3) ∧ (∀ x, (wv : Value).ownBlock = some x → x ≠ ye) ∧ (∀ x y, (wv : Value).ownBlock = some x → (Out (fun x => x = ye) w) y → x ≠ y) ∧ (∀ x, (wv : Value).ownBlock = some x → x ≠ b2) ∧ (∀ x, (wv : Value).ownBlock = some x → x ≠ b3)) (fun i wv M1 bv ks st => (e6 l bad).1 - i) (0) (.slice none 0 0) ((Rw.Add (Rw.Add M b2) b3)) (bv) ([]) (((e6 l bad).2.1, (e6 l bad).2.2)) (s5 rfl rfl rfl rfl rfl) ?_ ?_
  ·refine ⟨Nat.zero_le _, rfl, rfl, by simp only; omega, fun h => ?_, own_nil, he, hb, h2, h3, hT, hfr, hlow, hB, ha, d_hfr_he, d_hfr_h2, d_hfr_h3, d_ho_he, dd_ho_hfr, d_ho_h2, d_ho_h3⟩
   have b0 : (bad || l.isEmpty) = false := eT_ok (eT_ok (eN_ok (eH_ok (eA_ok (eC_ok (show (e6 l bad).2.2 = false from h))))))
   have h2 := congrArg List.length (isEmpty_cons (l := l) (by cases bad <;> simp_all))
   simp only [List.length_cons] at h2
   show (e6 l bad).2.1.length < k
   omega
  clear he hb h2 h3 hT hfr hlow hB ha d_ho_he dd_ho_hfr d_ho_h2 d_ho_h3
  rintro i wv M1 bv ks st w21 ⟨hi, hinv, hks, hsl, hsk, ho, he, hb, h2, h3, hT, hfr, hlow, hB, ha, d_hfr_he, d_hfr_h2, d_hfr_h3, d_ho_he, dd_ho_hfr, d_ho_h2, d_ho_h3⟩
  refine q0 (l_p 1 tK rfl (q1 (c_seq ?_)))
  refine c_ifP _ rfl (fun c9 => ?_) (fun c9 => ?_)
  ·refine c_skip (x_seq (c_seq (c_blk (c_seq (q0 (l_p 3 tK rfl ?_))))))
   refine lC (o_ld tK (he.cell 1 _ rfl) rfl rfl rfl rfl rfl ?_)
   refine q1 ?_
   refine c_if _ rfl (fun hbt => ?_) (fun hbt => ?_)
   ·refine q0 ?_
    refine lC (o_lds tK (fun j v hv => h3.cell j v hv) rfl rfl rfl rfl rfl rfl ?_)
    obtain ⟨av, cv, rfl, _⟩ := ho.val
    refine lC (o_st tK h2.box rfl rfl rfl rfl (by intro u hu; simp [Value.cells] at hu; have := Rep.one ha; simp [Value.cells] at this; rcases hu with rfl | rfl | rfl | rfl | rfl | rfl | rfl | rfl | rfl | rfl <;> first | rfl | exact this.2.2.2) rfl rfl ?_)
    intro w22 hw22 qw22 bew22
    have uw22 : UpdB _ _ _ := ⟨qw22, bew22⟩
    have sw22 := uw22.stp h2.inM hlow h2.ge
    have frw22 := qw22.2
    replace hT := hT.then sw22
    replace hfr := hfr.stp sw22 (fun x hx => frw22 x (hfr.lt x hx).2 (d_hfr_h2 x hx))
    replace he := he.stp sw22 (frw22 ye he.lt ne_he_h2)
    replace ho := ho.stp sw22 (fun x hx => frw22 x (ho.lt x hx).2 (d_ho_h2 x hx))
    replace h3 := h3.stp sw22 (frw22 b3 h3.lt ne_h2_h3.symm)
    replace hb := hb.stp sw22
    replace ha := Rep.stp ha sw22
    replace hlow := sw22.low
    replace hB := sw22.z hB
    replace h2 : MB B _ w22 b2 _ [.int .u8 (e0 l bad).1, .string (e1 l bad).1, .string (e2 l bad).1, .int .i64 ((e3 l bad).1 : Int), .bool (e4 l bad).1, .int .u8 (e5 l bad).1.op, .string (e5 l bad).1.name, .int .i64 (e5 l bad).1.n, akv, (.slice av ks.length cv)] := ⟨hw22, h2.inM, h2.ge⟩
    refine q1 (c_ret (x_seqR (x_blkR (x_seqR (x_seqR (x_blkR (x_seqR ?_)))))))
    refine x_ret1s tK (fun j v hv => h2.cell j v hv) rfl rfl rfl rfl rfl ?_
    have hsl2 : Sl M w22 (.slice av ks.length cv) ks := ho.slM (by omega) (fun b hb => new_of dd_ho_hfr d_ho_he hlow0 hb) hT.sub
    rw [show st.2 = true from hbt, kidsE_bad, List.append_nil] at hinv
    rw [show st.2 = true from hbt] at he
    rw [termE, hinv]
    exact ⟨tm_mk (by unfold e0; simp only; omega) (by omega) (by omega) (by unfold I64; omega) (Rep.wk ha (fun b _ h => hT.sub b h)) hsl2, ⟨_, ⟨he.box, he0.inM, he0.ge⟩, Sl.wk hb (fun b _ h => hT.sub b h)⟩, hT.drop hlow0, hfr⟩
   have hbf : st.2 = false := hbt
   refine c_skip (x_seq ?_)
   refine a_beg (Sof2 B M1 b3) rfl ?_
   intro w23 ew23
   replace hT := hT.then (Stp.ext ew23 hlow hB)
   replace hfr := hfr.ext hlow hB ew23
   replace he := he.ext hlow hB ew23
   replace ho := ho.ext hlow hB ew23
   replace h2 := h2.ext hlow hB ew23
   replace h3 := h3.ext hlow hB ew23
   replace hb := hb.ext ew23
   replace ha := Rep.ext ha ew23
   replace hlow := hlow.ext ew23
   replace hB := ew23.z hB
   have hS : Stp B M1 M1 w23 w23 := Stp.refl hlow
   have D_he := he.box
   have D_hb := hb
   have D_h2 := h2.box
   have D_h3 := h3.box
   refine a_p 0 tK rfl rfl rfl rfl (by kernel_rfl) (fun _ _ _ h => h) ⟨⟨_, hS⟩, h3.box.heap.trans D_h3.heap.symm⟩ ?_
   refine a_ld 1 tK (fun _ hs => (D_h3.so2 hs).cell 9 _ rfl) rfl rfl rfl rfl rfl rfl (by kernel_rfl) (fun _ _ _ h => h) ⟨⟨_, hS⟩, h3.box.heap.trans D_h3.heap.symm⟩ ?_
   refine a_p 2 tK rfl rfl rfl rfl (by kernel_rfl) (fun _ _ _ h => h) ⟨⟨_, hS⟩, h3.box.heap.trans D_h3.heap.symm⟩ ?_
   refine a_one 3 rfl (by kernel_rfl) (o_call fo75 rfl rfl rfl (ih st.1 st.2 _ _ B ye _ he hb hlow hB (hsk hbf) (by omega)) ?_)
   rintro vhc w24 ⟨hc, ⟨bvw24, hew24, hbw24⟩, sw24, kw24⟩
   have frw24 : ∀ x, x < w23.heap.size → x ≠ ye → w24.heap[x]? = w23.heap[x]? := fun x hx hn => kw24.blk x ⟨hx, hn⟩
   replace hT := hT.then sw24
   replace hS := hS.then sw24
   replace hfr := hfr.stp sw24 (fun x hx => frw24 x (hfr.lt x hx).2 (d_hfr_he x hx))
   replace ho := ho.stp sw24 (fun x hx => frw24 x (ho.lt x hx).2 (d_ho_he x hx))
   replace h2 := h2.stp sw24 (frw24 b2 h2.lt ne_he_h2.symm)
   replace h3 := h3.stp sw24 (frw24 b3 h3.lt ne_he_h3.symm)
   replace ha := Rep.stp ha sw24
   replace hlow := sw24.low
   replace hB := sw24.z hB
   refine ⟨⟨⟨_, hS⟩, h3.box.heap.trans D_h3.heap.symm⟩, ?_⟩
   replace he := hew24
   replace hb := hbw24
   clear hew24 hbw24
   refine a_one 4 rfl (by kernel_rfl) (o_bs tK rfl rfl rfl rfl rfl rfl rfl (sz1 (Rep.size hc)) rfl rfl rfl ?_)
   intro bw25 w25 qbw25 ew25 hbw25
   have nbw25 := nM_of hlow qbw25
   replace hT := hT.then (Stp.ext ew25 hlow hB)
   replace hS := hS.then (Stp.ext ew25 hlow hB)
   replace hfr := hfr.ext hlow hB ew25
   replace he := he.ext hlow hB ew25
   replace ho := ho.ext hlow hB ew25
   replace h2 := h2.ext hlow hB ew25
   replace h3 := h3.ext hlow hB ew25
   replace hb := hb.ext ew25
   replace ha := Rep.ext ha ew25
   replace hc := Rep.ext hc ew25
   replace hlow := hlow.ext ew25
   replace hB := ew25.z hB
   refine ⟨⟨⟨_, hS⟩, h3.box.heap.trans D_h3.heap.symm⟩, ?_⟩
   refine a_one 5 rfl (by kernel_rfl) (o_app1 tK ho hbw25 nbw25 hc hlow hB rfl rfl rfl rfl rfl rfl rfl (by omega) (by show (_ + _) * 136 ≤ _; omega) rfl rfl ?_)
   intro vw26 w26 Mw26 hw26 sw26 frw26 blw26
   have zd_ho_he := d_ho_he
   replace d_ho_he : ∀ x, (vw26 : Value).ownBlock = some x → x ≠ ye := fun x hx => (blw26 x hx).elim (d_ho_he x) (fun h e => by have := he.lt; omega)
   have zdd_ho_hfr := dd_ho_hfr
   replace dd_ho_hfr : ∀ x y, (vw26 : Value).ownBlock = some x → (Out (fun x => x = ye) w) y → x ≠ y := fun x y hx hy => (blw26 x hx).elim (fun h => dd_ho_hfr x y h hy) (fun h e => by have := (hfr.lt y hy).2; omega)
   have zd_ho_h2 := d_ho_h2
   replace d_ho_h2 : ∀ x, (vw26 : Value).ownBlock = some x → x ≠ b2 := fun x hx => (blw26 x hx).elim (d_ho_h2 x) (fun h e => by have := h2.lt; omega)
   have zd_ho_h3 := d_ho_h3
   replace d_ho_h3 : ∀ x, (vw26 : Value).ownBlock = some x → x ≠ b3 := fun x hx => (blw26 x hx).elim (d_ho_h3 x) (fun h e => by have := h3.lt; omega)
   replace hT := hT.then sw26
   replace hS := hS.then sw26
   replace hfr := hfr.stp sw26 (fun x hx => frw26 x (hfr.lt x hx).2 (fun e => zdd_ho_hfr x x e.symm hx rfl))
   replace he := he.stp sw26 (frw26 ye he.lt (fun e => zd_ho_he _ e.symm rfl))
   replace h2 := h2.stp sw26 (frw26 b2 h2.lt (fun e => zd_ho_h2 _ e.symm rfl))
   replace h3 := h3.stp sw26 (frw26 b3 h3.lt (fun e => zd_ho_h3 _ e.symm rfl))
   replace hb := hb.stp sw26
   replace ha := Rep.stp ha sw26
   replace hc := Rep.stp hc sw26
   replace hlow := sw26.low
   replace hB := sw26.z hB
   refine ⟨⟨⟨_, hS⟩, h3.box.heap.trans D_h3.heap.symm⟩, ?_⟩
   replace ho := hw26
   clear hw26
   refine a_p 6 tK rfl rfl rfl rfl (by kernel_rfl) (fun _ _ _ h => h) ⟨⟨_, hS⟩, h3.box.heap.trans D_h3.heap.symm⟩ ?_
   obtain ⟨av6, cv6, rfl, _⟩ := ho.val
   refine a_bar 7 rfl (by kernel_rfl) (by kernel_rfl) (o_st tK h3.box rfl rfl rfl rfl (by intro u hu; simp [Value.cells] at hu; subst hu; rfl) rfl rfl ?_)
   intro w27 hw27 qw27 bew27
   have uw27 : UpdB _ _ _ := ⟨qw27, bew27⟩
   have sw27 := uw27.stp h3.inM hlow h3.ge
   have frw27 := qw27.2
   replace hT := hT.then sw27
   replace hS := hS.then sw27
   replace hfr := hfr.stp sw27 (fun x hx => frw27 x (hfr.lt x hx).2 (d_hfr_h3 x hx))
   replace he := he.stp sw27 (frw27 ye he.lt ne_he_h3)
   replace ho := ho.stp sw27 (fun x hx => frw27 x (ho.lt x hx).2 (d_ho_h3 x hx))
   replace h2 := h2.stp sw27 (frw27 b2 h2.lt ne_h2_h3)
   replace hb := hb.stp sw27
   replace ha := Rep.stp ha sw27
   replace hc := Rep.stp hc sw27
   replace hlow := sw27.low
   replace hB := sw27.z hB
   replace h3 : MB B _ w27 b3 _ [.int .u8 (e0 l bad).1, .string (e1 l bad).1, .string (e2 l bad).1, .int .i64 ((e3 l bad).1 : Int), .bool (e4 l bad).1, .int .u8 (e5 l bad).1.op, .string (e5 l bad).1.name, .int .i64 (e5 l bad).1.n, akv, (.slice av6 (ks ++ [(termE k st.1 st.2).1]).length cv6)] := ⟨hw27, h3.inM, h3.ge⟩
   refine a_end (by kernel_rfl) ?_
   refine x_blk (x_seq (c_reg ?_))
   refine lC (o_ai rfl rfl rfl (by omega) rfl rfl ?_)
   refine l_p 1 tK rfl (l_nil ?_)
   exact x_round6 (i + 1) ((.slice av6 (ks ++ [(termE k st.1 st.2).1]).length cv6)) (Mw26) (bvw24) (ks ++ [(termE k st.1 st.2).1]) (((termE k st.1 st.2).2.1, (termE k st.1 st.2).2.2)) (s5 rfl rfl rfl rfl (get_num rfl (by omega))) ⟨by omega, by rw [hinv, show (e6 l bad).1 - i = ((e6 l bad).1 - (i + 1)) + 1 by omega, kidsE_step (k := (e6 l bad).1 - (i + 1)) hbf, hbf]; simp, by simp [hks], by have := termE_less k st.1 st.2; simp only; omega, fun _ => by have := termE_less k st.1 st.2; have := hsk hbf; simp only; omega, ho, he, hb, h2, h3, hT, hfr, hlow, hB, ha, d_hfr_he, d_hfr_h2, d_hfr_h3, d_ho_he, dd_ho_hfr, d_ho_h2, d_ho_h3⟩ (by omega)
  refine c_exit (x_seqE (x_seqE (x_blkE (x_seq (q0 ?_)))))
  refine lC (o_lds tK (fun j v hv => h3.cell j v hv) rfl rfl rfl rfl rfl rfl ?_)
  obtain ⟨av, cv, rfl, _⟩ := ho.val
  refine lC (o_st tK h2.box rfl rfl rfl rfl (by intro u hu; simp [Value.cells] at hu; have := Rep.one ha; simp [Value.cells] at this; rcases hu with rfl | rfl | rfl | rfl | rfl | rfl | rfl | rfl | rfl | rfl <;> first | rfl | exact this.2.2.2) rfl rfl ?_)
  intro w28 hw28 qw28 bew28
  have uw28 : UpdB _ _ _ := ⟨qw28, bew28⟩
  have sw28 := uw28.stp h2.inM hlow h2.ge
  have frw28 := qw28.2
  replace hT := hT.then sw28
  replace hfr := hfr.stp sw28 (fun x hx => frw28 x (hfr.lt x hx).2 (d_hfr_h2 x hx))
  replace he := he.stp sw28 (frw28 ye he.lt ne_he_h2)
  replace ho := ho.stp sw28 (fun x hx => frw28 x (ho.lt x hx).2 (d_ho_h2 x hx))
  replace h3 := h3.stp sw28 (frw28 b3 h3.lt ne_h2_h3.symm)
  replace hb := hb.stp sw28
  replace ha := Rep.stp ha sw28
  replace hlow := sw28.low
  replace hB := sw28.z hB
  replace h2 : MB B _ w28 b2 _ [.int .u8 (e0 l bad).1, .string (e1 l bad).1, .string (e2 l bad).1, .int .i64 ((e3 l bad).1 : Int), .bool (e4 l bad).1, .int .u8 (e5 l bad).1.op, .string (e5 l bad).1.name, .int .i64 (e5 l bad).1.n, akv, (.slice av ks.length cv)] := ⟨hw28, h2.inM, h2.ge⟩
  refine q1 (c_ret ?_)
  refine x_ret1s tK (fun j v hv => h2.cell j v hv) rfl rfl rfl rfl rfl ?_
  have hsl2 : Sl M w28 (.slice av ks.length cv) ks := ho.slM (by omega) (fun b hb => new_of dd_ho_hfr d_ho_he hlow0 hb) hT.sub
  rw [show (e6 l bad).1 - i = 0 by omega] at hinv
  replace hinv := hinv.trans (by rw [show (kidsE (termE k) 0 st.1 st.2) = ([], st.1, st.2) from rfl, List.append_nil])
  rw [termE, hinv]
  exact ⟨tm_mk (by unfold e0; simp only; omega) (by omega) (by omega) (by unfold I64; omega) (Rep.wk ha (fun b _ h => hT.sub b h)) hsl2, ⟨_, ⟨he.box, he0.inM, he0.ge⟩, Sl.wk hb (fun b _ h => hT.sub b h)⟩, hT.drop hlow0, hfr⟩
end Go.Proofs.Ytohfnpmehgpphaa
namespace Go.Proofs.Ytohfnpmehgpphaa
open Go Rw Go.RowKit
set_option maxRecDepth 100000
def tmF : Tm := .mk 32 ⟨#[102]⟩ ⟨#[]⟩ 0 false tyZ []
def tmN : Tm := .mk 33 ⟨#[]⟩ ⟨#[]⟩ 1 false tyZ []
def tmA : Tm := .mk 37 ⟨#[]⟩ ⟨#[]⟩ 0 false tyZ [tmF, tmN]
theorem tmF_right : rightT tmF false = true := by rw [rightT_eq]; rfl
theorem tmN_right : rightT tmN false = true := by rw [rightT_eq]; rfl
theorem tmA_right : rightT tmA false = true := by
 have hF := tmF_right
 have hN := tmN_right
 rw [rightT_eq, show kidL tmA.kids = [(32, rightT tmF), (33, rightT tmN)] from rfl]
 simp only [kidsT]
 rw [show innerB tmA.op 0 = false from rfl, show innerB tmA.op (0 + 1) = false from rfl, hF, hN]
 rfl
theorem tmF_bytes : termB tmF = [32, 1, 102] := by rw [termB_eq]; rfl
theorem tmN_bytes : termB tmN = [33, 1] := by rw [termB_eq]; rfl
theorem tmA_bytes : termB tmA = [37, 32, 1, 102, 33, 1] := by
 have hF := tmF_bytes
 have hN := tmN_bytes
 rw [termB_eq, show tmA.kids = [tmF, tmN] from rfl, List.flatMap_cons, List.flatMap_cons, List.flatMap_nil, hF, hN]
 rfl
theorem tyZ_psz : psz tyZ = 1 := by rw [psz_eq]; rfl
theorem tmA_ann : AnnS tmA := by
 have hF : nodesL tmF = [tmF] := by rw [nodesL_eq]; rfl
 have hN : nodesL tmN = [tmN] := by rw [nodesL_eq]; rfl
 intro x hx
 rw [nodesL_eq, show tmA.kids = [tmF, tmN] from rfl, List.flatMap_cons, List.flatMap_cons, List.flatMap_nil, hF, hN] at hx
 have hz := tyZ_psz
 simp at hx
 rcases hx with rfl | rfl | rfl
 ·show psz tyZ ≤ _; omega
 ·show psz tyZ ≤ _; omega
 ·show psz tyZ ≤ _; omega
theorem alive27_spec (M : Nat → Prop) (w : World) (hlow : Low M w) :
  Calls Try.prog 27 #[] w (Ret fun r w' => r = .bool true ∧ Ext w w') := by
 have hE : Below w.heap.size w w := Below.refl _ _
 have hB : w.heap.size ≤ w.heap.size := Nat.le_refl _
 refine c_enter (n := 19) Try.func27 rfl rfl rfl ?_
 refine q0 (l_p 1 tK rfl (q1 (q0 ?_)))
 refine lC (o_build (cells := [.int .u8 32, .string ⟨#[102]⟩, .string ⟨#[]⟩, .int .i64 0, .bool false, .int .u8 0, .string ⟨#[]⟩, .int .i64 0, .slice none 0 0, .slice none 0 0]) (css := [[.int .u8 32], [.string ⟨#[102]⟩]]) bd84 rfl rfl rfl rfl rfl ?_)
 have hn0 : Rep.R M w (.agg #[.int .u8 32, .string ⟨#[102]⟩, .string ⟨#[]⟩, .int .i64 0, .bool false, .int .u8 0, .string ⟨#[]⟩, .int .i64 0, .slice none 0 0, .slice none 0 0]) tmF := tm_mk (ann := tyZ) (by decide) (by decide) (by decide) ⟨by decide, by decide⟩ (ty_mk (by decide) (by decide) ⟨by decide, by decide⟩ sl_nil) sl_nil
 refine lC (o_build (cells := [.int .u8 33, .string ⟨#[]⟩, .string ⟨#[]⟩, .int .i64 1, .bool false, .int .u8 0, .string ⟨#[]⟩, .int .i64 0, .slice none 0 0, .slice none 0 0]) (css := [[.int .u8 33], [.int .i64 1]]) bd84 rfl rfl rfl rfl rfl ?_)
 have hn1 : Rep.R M w (.agg #[.int .u8 33, .string ⟨#[]⟩, .string ⟨#[]⟩, .int .i64 1, .bool false, .int .u8 0, .string ⟨#[]⟩, .int .i64 0, .slice none 0 0, .slice none 0 0]) tmN := tm_mk (ann := tyZ) (by decide) (by decide) (by decide) ⟨by decide, by decide⟩ (ty_mk (by decide) (by decide) ⟨by decide, by decide⟩ sl_nil) sl_nil
 refine lC (o_bs tK rfl rfl rfl rfl rfl rfl rfl (by intro v hv; simp at hv; rcases hv with rfl | rfl <;> rfl) rfl rfl rfl ?_)
 intro bl0 w1 qbl0 ew1 hbl0
 have nbl0 := nM_of hlow qbl0
 replace hE := ew1.bl hE hB
 replace hn0 := Rep.ext hn0 ew1
 replace hn1 := Rep.ext hn1 ew1
 replace hlow := hlow.ext ew1
 replace hB := ew1.z hB
 have hsl0 : Sl M w1 (.slice (some ⟨bl0, 0, none⟩) 2 2) [tmF, tmN] := lit_sl hbl0 nbl0 (show Rs _ _ [_, _] [tmF, tmN] from ⟨hn0, hn1, trivial⟩) (by decide)
 refine lC (o_build (cells := [.int .u8 37, .string ⟨#[]⟩, .string ⟨#[]⟩, .int .i64 0, .bool false, .int .u8 0, .string ⟨#[]⟩, .int .i64 0, .slice none 0 0, .slice (some ⟨bl0, 0, none⟩) 2 2]) (css := [[.int .u8 37], [.slice (some ⟨bl0, 0, none⟩) 2 2]]) bd84 rfl rfl rfl rfl rfl ?_)
 have hn2 : Rep.R M w1 (.agg #[.int .u8 37, .string ⟨#[]⟩, .string ⟨#[]⟩, .int .i64 0, .bool false, .int .u8 0, .string ⟨#[]⟩, .int .i64 0, .slice none 0 0, .slice (some ⟨bl0, 0, none⟩) 2 2]) tmA := tm_mk (ann := tyZ) (by decide) (by decide) (by decide) ⟨by decide, by decide⟩ (ty_mk (by decide) (by decide) ⟨by decide, by decide⟩ sl_nil) hsl0
 have hpt := putTerm_spec tmA _ _ _ hn2 hlow tmA_ann (by rw [tmA_bytes]; decide)
 rw [tmA_right, tmA_bytes] at hpt
 refine lC (o_call fo41 rfl rfl rfl (hpt) ?_)
 rintro _ w2 ⟨⟨x, rfl, hx⟩, ew2⟩
 replace hx : Sl M w2 x ([37, 32, 1, 102, 33, 1] : List UInt8) := hx
 replace hE := ew2.bl hE hB
 replace hn0 := Rep.ext hn0 ew2
 replace hn1 := Rep.ext hn1 ew2
 replace hsl0 := hsl0.ext ew2
 replace hn2 := Rep.ext hn2 ew2
 replace hlow := hlow.ext ew2
 replace hB := ew2.z hB
 refine l_p 5 tK rfl (q1 (q0 (l_p 1 tK rfl ?_)))
 refine lC (o_conv (y := 0) tK rfl rfl rfl rfl rfl rfl rfl rfl ?_)
 refine l_p 3 tK rfl ?_
 refine lC (o_bs tK rfl rfl rfl rfl rfl rfl rfl (by intro v hv; simp at hv; rcases hv with rfl | rfl | rfl | rfl | rfl | rfl <;> rfl) rfl rfl rfl ?_)
 intro bl1 w3 qbl1 ew3 hbl1
 have nbl1 := nM_of hlow qbl1
 replace hE := ew3.bl hE hB
 replace hn0 := Rep.ext hn0 ew3
 replace hn1 := Rep.ext hn1 ew3
 replace hsl0 := hsl0.ext ew3
 replace hn2 := Rep.ext hn2 ew3
 replace hx := hx.ext ew3
 replace hlow := hlow.ext ew3
 replace hB := ew3.z hB
 have hsl1 : Sl M w3 (.slice (some ⟨bl1, 0, none⟩) 6 6) ([37, 32, 1, 102, 33, 1] : List UInt8) := lit_sl hbl1 nbl1 (show Rs _ _ [_, _, _, _, _, _] ([37, 32, 1, 102, 33, 1] : List UInt8) from ⟨rfl, rfl, rfl, rfl, rfl, rfl, trivial⟩) (by decide)
 refine lC (o_call fo29 rfl rfl rfl (sameB_spec _ _ M _ _ _ hx hsl1) ?_)
 rintro _ w4 ⟨rfl, ew4⟩
 replace hE := ew4.bl hE hB
 replace hn0 := Rep.ext hn0 ew4
 replace hn1 := Rep.ext hn1 ew4
 replace hsl0 := hsl0.ext ew4
 replace hn2 := Rep.ext hn2 ew4
 replace hx := hx.ext ew4
 replace hsl1 := hsl1.ext ew4
 replace hlow := hlow.ext ew4
 replace hB := ew4.z hB
 refine l_p 2 tK rfl (q1 (c_ret (x_ret1 rfl rfl ?_)))
 exact ⟨rfl, hE⟩
end Go.Proofs.Ytohfnpmehgpphaa
namespace Go.Proofs.Ytohfnpmehgpphaa
open Go Rw Go.RowKit
set_option maxRecDepth 100000
theorem getType_spec (l : List UInt8) (hl : l.length ≤ 65536) (M : Nat → Prop) (w : World) (v : Value) (hs : Sl M w v l) (hlow0 : Low M w) :
  Calls Try.prog 34 #[v] w (Ret fun r w' => (∃ x, r = .tuple #[x, .int .u8 (bif okGY l then 0 else 15)] ∧ Rep.R M w' x (bif okGY l then getY l else tyZ)) ∧ Ext w w') := by
 have hlow := hlow0
 have hB : w.heap.size ≤ w.heap.size := Nat.le_refl _
 have hE : Below w.heap.size w w := Below.refl _ _
 have hsub : ∀ b, M b → M b := fun _ h => h
 refine c_enter (n := 33) Try.func34 rfl rfl rfl ?_
 refine q0 ?_
 refine lC (o_new tK rfl rfl rfl ?_)
 intro b2 w1 qb2 ew1 hb2
 have sw1 := Stp.add ew1 hlow hB (Nat.le_of_eq qb2.symm) hb2.lt
 have h2 : MB w.heap.size (Rw.Add M b2) w1 b2 40 [.int .u8 0, .string ⟨#[]⟩, .int .i64 0, .slice none 0 0] := MB.mk' hb2 qb2 hB
 replace hE := hE.trans sw1.below
 replace hs := hs.stp sw1
 replace hsub := sw1.sb hsub
 replace hlow := sw1.low
 replace hB := sw1.z hB
 obtain ⟨ab, cb, rfl, _⟩ := id hs
 have hb := hs
 refine l_p 1 tK rfl (q1 (c_seq (q0 (l_p 1 tK rfl ?_))))
 refine lC (o_len tK hs rfl rfl rfl rfl rfl ?_)
 refine l_p 1 tK rfl (q1 ?_)
 refine c_ifP _ rfl (fun c1 => ?_) (fun c1 => ?_)
 ·exact absurd c1 (by omega)
 refine c_skip (x_seq (q0 (l_p 1 tK rfl ?_)))
 refine lC (o_build (cells := [.slice ab l.length cb, .bool false]) bd130 rfl rfl rfl rfl rfl ?_)
 refine lC (o_new tK rfl rfl rfl ?_)
 intro ye w2 qye ew2 hye
 have ne_h2_he : b2 ≠ ye := by have := h2.lt; omega
 have sw2 := Stp.add ew2 hlow hB (Nat.le_of_eq qye.symm) hye.lt
 have he : MB w.heap.size (Rw.Add (Rw.Add M b2) ye) w2 ye 130 [.slice none 0 0, .bool false] := MB.mk' hye qye hB
 replace h2 := h2.stp sw2 (ew2.block b2 h2.lt)
 replace hE := hE.trans sw2.below
 replace hs := hs.stp sw2
 replace hb := hb.stp sw2
 replace hsub := sw2.sb hsub
 replace hlow := sw2.low
 replace hB := sw2.z hB
 refine lC (o_st tK he.box rfl rfl rfl rfl (by intro u hu; simp [Value.cells] at hu; rcases hu with rfl | rfl <;> rfl) rfl rfl ?_)
 intro w3 hw3 qw3 bew3
 have uw3 : UpdB _ _ _ := ⟨qw3, bew3⟩
 have sw3 := uw3.stp he.inM hlow he.ge
 have frw3 := qw3.2
 replace h2 := h2.stp sw3 (frw3 b2 h2.lt ne_h2_he)
 replace hE := hE.trans sw3.below
 replace hs := hs.stp sw3
 replace hb := hb.stp sw3
 replace hsub := sw3.sb hsub
 replace hlow := sw3.low
 replace hB := sw3.z hB
 replace he : MB w.heap.size _ w3 ye _ [.slice ab l.length cb, .bool false] := ⟨hw3, he.inM, he.ge⟩
 refine q1 (q0 ?_)
 refine lC (o_call fo77 rfl rfl rfl (eyeKind_spec (l.length + 1) l false _ _ w.heap.size ye _ he hb hlow hB (by omega) (by omega)) ?_)
 rintro vc w4 ⟨hc, ⟨bv, he2, hb2⟩, sw4, kw4⟩
 have frw4 : ∀ x, x < w3.heap.size → x ≠ ye → w4.heap[x]? = w3.heap[x]? := fun x hx hn => kw4.blk x ⟨hx, hn⟩
 replace h2 := h2.stp sw4 (frw4 b2 h2.lt ne_h2_he)
 replace hE := hE.trans sw4.below
 replace hs := hs.stp sw4
 replace hsub := sw4.sb hsub
 replace hlow := sw4.low
 replace hB := sw4.z hB
 replace he := he2
 replace hb := hb2
 replace hc : Rep.R _ _ _ (getY l) := hc
 obtain ⟨kvc, rfl, opc, nmc, n64c, hkc⟩ := ty_open hc
 refine lC (o_new tK rfl rfl rfl ?_)
 intro b5 w5 qb5 ew5 hb5
 have nb5 := nM_of hlow qb5
 refine lC (o_st tK hb5 rfl rfl rfl rfl (Rep.one hc) rfl rfl ?_)
 intro w6 h5 uw6 bew6
 have ew6 : Ext w4 w6 := ew5.trans (bew6 _ (Nat.le_of_eq qb5.symm))
 replace h2 := h2.ext hlow hB ew6
 replace he := he.ext hlow hB ew6
 replace hE := ew6.bl hE hB
 replace hs := hs.ext ew6
 replace hb := hb.ext ew6
 replace hc := Rep.ext hc ew6
 replace hkc := hkc.ext ew6
 replace hlow := hlow.ext ew6
 replace hB := ew6.z hB
 replace h5 : Box w6 b5 40 [.int .u8 (getY l).op, .string (getY l).name, .int .i64 (getY l).n, kvc] := h5
 replace h5 := h5.at nb5
 refine q1 (c_seq (q0 (l_p 1 tK rfl ?_)))
 refine lC (o_ld tK (he.cell 1 _ rfl) rfl rfl rfl rfl rfl ?_)
 refine l_p 1 tK rfl ?_
 refine l_split 15 _ rfl (fun c2 => ?_) (fun c2 => ?_)
 ·refine l_p 15 tK rfl (q1 (c_ifT rfl (q0 ?_)))
  refine lC (o_build (cells := [.int .u8 0, .string ⟨#[]⟩, .int .i64 0, .slice none 0 0]) (css := []) bd40 rfl rfl rfl rfl rfl ?_)
  refine lC (o_st tK h2.box rfl rfl rfl rfl (by intro u hu; simp [Value.cells] at hu; rcases hu with rfl | rfl | rfl | rfl <;> rfl) rfl rfl ?_)
  intro w7 hw7 qw7 bew7
  have uw7 : UpdB _ _ _ := ⟨qw7, bew7⟩
  have sw7 := uw7.stp h2.inM hlow h2.ge
  have frw7 := qw7.2
  replace he := he.stp sw7 (frw7 ye he.lt ne_h2_he.symm)
  replace hE := hE.trans sw7.below
  replace hs := hs.stp sw7
  replace hb := hb.stp sw7
  replace hc := Rep.stp hc sw7
  replace hkc := hkc.stp sw7
  replace h5 := h5.stp sw7
  replace hsub := sw7.sb hsub
  replace hlow := sw7.low
  replace hB := sw7.z hB
  replace h2 : MB w.heap.size _ w7 b2 _ [.int .u8 0, .string ⟨#[]⟩, .int .i64 0, .slice none 0 0] := ⟨hw7, h2.inM, h2.ge⟩
  refine l_p 1 tK rfl (q1 (c_ret (x_seqR ?_)))
  refine x_ret2st tK (fun j v hv => h2.cell j v hv) rfl rfl rfl rfl rfl rfl ?_
  have hok : okGY l = false := by
   cases hq : okGY l with
   | false => rfl
   | true =>
    unfold okGY at hq
    simp only [Bool.and_eq_true, Bool.not_eq_true', List.isEmpty_iff] at hq
    have hz : (kindE (l.length + 1) l false).2.1.length = 0 := by rw [hq.2.1]; rfl
    exfalso
    first | omega | simp_all
  rw [hok]
  exact ⟨⟨_, rfl, ty_mk (by decide) (by decide) ⟨by decide, by decide⟩ sl_nil⟩, hE⟩
 refine l_p 1 tK rfl ?_
 refine lC (o_ld tK (he.cell 0 _ rfl) rfl rfl rfl rfl rfl ?_)
 refine lC (o_len tK hb rfl rfl rfl rfl rfl ?_)
 refine l_p 3 tK rfl ?_
 refine l_splitP 21 _ rfl (fun c3 => ?_) (fun c3 => ?_)
 ·refine l_p 9 tK rfl (q1 (c_ifT rfl (q0 ?_)))
  refine lC (o_build (cells := [.int .u8 0, .string ⟨#[]⟩, .int .i64 0, .slice none 0 0]) (css := []) bd40 rfl rfl rfl rfl rfl ?_)
  refine lC (o_st tK h2.box rfl rfl rfl rfl (by intro u hu; simp [Value.cells] at hu; rcases hu with rfl | rfl | rfl | rfl <;> rfl) rfl rfl ?_)
  intro w8 hw8 qw8 bew8
  have uw8 : UpdB _ _ _ := ⟨qw8, bew8⟩
  have sw8 := uw8.stp h2.inM hlow h2.ge
  have frw8 := qw8.2
  replace he := he.stp sw8 (frw8 ye he.lt ne_h2_he.symm)
  replace hE := hE.trans sw8.below
  replace hs := hs.stp sw8
  replace hb := hb.stp sw8
  replace hc := Rep.stp hc sw8
  replace hkc := hkc.stp sw8
  replace h5 := h5.stp sw8
  replace hsub := sw8.sb hsub
  replace hlow := sw8.low
  replace hB := sw8.z hB
  replace h2 : MB w.heap.size _ w8 b2 _ [.int .u8 0, .string ⟨#[]⟩, .int .i64 0, .slice none 0 0] := ⟨hw8, h2.inM, h2.ge⟩
  refine l_p 1 tK rfl (q1 (c_ret (x_seqR ?_)))
  refine x_ret2st tK (fun j v hv => h2.cell j v hv) rfl rfl rfl rfl rfl rfl ?_
  have hok : okGY l = false := by
   cases hq : okGY l with
   | false => rfl
   | true =>
    unfold okGY at hq
    simp only [Bool.and_eq_true, Bool.not_eq_true', List.isEmpty_iff] at hq
    have hz : (kindE (l.length + 1) l false).2.1.length = 0 := by rw [hq.2.1]; rfl
    exfalso
    first | omega | simp_all
  rw [hok]
  exact ⟨⟨_, rfl, ty_mk (by decide) (by decide) ⟨by decide, by decide⟩ sl_nil⟩, hE⟩
 refine lC (o_lds tK (fun j v hv => h5.cell j v hv) rfl rfl rfl rfl rfl rfl ?_)
 refine lC (o_call fo78 rfl rfl rfl (kRight_specB _ _ _ _ hc hlow) ?_)
 rintro _ w9 ⟨rfl, ew9⟩
 replace h2 := h2.ext hlow hB ew9
 replace he := he.ext hlow hB ew9
 replace hE := ew9.bl hE hB
 replace hs := hs.ext ew9
 replace hb := hb.ext ew9
 replace hc := Rep.ext hc ew9
 replace hkc := hkc.ext ew9
 replace h5 := h5.ext ew9
 replace hlow := hlow.ext ew9
 replace hB := ew9.z hB
 refine l_p 2 tK rfl ?_
 refine l_splitB 25 _ rfl (fun c4 => ?_) (fun c4 => ?_)
 ·refine lC (o_lds tK (fun j v hv => h5.cell j v hv) rfl rfl rfl rfl rfl rfl ?_)
  refine lC (o_call fo55 rfl rfl rfl (kRow_specB _ _ _ _ hc hlow) ?_)
  rintro _ w10 ⟨rfl, ew10⟩
  replace h2 := h2.ext hlow hB ew10
  replace he := he.ext hlow hB ew10
  replace hE := ew10.bl hE hB
  replace hs := hs.ext ew10
  replace hb := hb.ext ew10
  replace hc := Rep.ext hc ew10
  replace hkc := hkc.ext ew10
  replace h5 := h5.ext ew10
  replace hlow := hlow.ext ew10
  replace hB := ew10.z hB
  refine l_p 3 tK rfl (q1 ?_)
  refine c_ifB _ rfl (fun c5 => ?_) (fun c5 => ?_)
  ·refine q0 ?_
   refine lC (o_build (cells := [.int .u8 0, .string ⟨#[]⟩, .int .i64 0, .slice none 0 0]) (css := []) bd40 rfl rfl rfl rfl rfl ?_)
   refine lC (o_st tK h2.box rfl rfl rfl rfl (by intro u hu; simp [Value.cells] at hu; rcases hu with rfl | rfl | rfl | rfl <;> rfl) rfl rfl ?_)
   intro w11 hw11 qw11 bew11
   have uw11 : UpdB _ _ _ := ⟨qw11, bew11⟩
   have sw11 := uw11.stp h2.inM hlow h2.ge
   have frw11 := qw11.2
   replace he := he.stp sw11 (frw11 ye he.lt ne_h2_he.symm)
   replace hE := hE.trans sw11.below
   replace hs := hs.stp sw11
   replace hb := hb.stp sw11
   replace hc := Rep.stp hc sw11
   replace hkc := hkc.stp sw11
   replace h5 := h5.stp sw11
   replace hsub := sw11.sb hsub
   replace hlow := sw11.low
   replace hB := sw11.z hB
   replace h2 : MB w.heap.size _ w11 b2 _ [.int .u8 0, .string ⟨#[]⟩, .int .i64 0, .slice none 0 0] := ⟨hw11, h2.inM, h2.ge⟩
   refine l_p 1 tK rfl (q1 (c_ret (x_seqR ?_)))
   refine x_ret2st tK (fun j v hv => h2.cell j v hv) rfl rfl rfl rfl rfl rfl ?_
   have hok : okGY l = false := by
    cases hq : okGY l with
    | false => rfl
    | true =>
     unfold okGY at hq
     simp only [Bool.and_eq_true, Bool.not_eq_true', List.isEmpty_iff] at hq
     have hz : (kindE (l.length + 1) l false).2.1.length = 0 := by rw [hq.2.1]; rfl
     exfalso
     first | omega | simp_all
   rw [hok]
   exact ⟨⟨_, rfl, ty_mk (by decide) (by decide) ⟨by decide, by decide⟩ sl_nil⟩, hE⟩
  refine c_skip (x_seq (q0 ?_))
  refine lC (o_lds tK (fun j v hv => h5.cell j v hv) rfl rfl rfl rfl rfl rfl ?_)
  refine lC (o_st tK h2.box rfl rfl rfl rfl (Rep.one hc) rfl rfl ?_)
  intro w12 hw12 qw12 bew12
  have uw12 : UpdB _ _ _ := ⟨qw12, bew12⟩
  have sw12 := uw12.stp h2.inM hlow h2.ge
  have frw12 := qw12.2
  replace he := he.stp sw12 (frw12 ye he.lt ne_h2_he.symm)
  replace hE := hE.trans sw12.below
  replace hs := hs.stp sw12
  replace hb := hb.stp sw12
  replace hc := Rep.stp hc sw12
  replace hkc := hkc.stp sw12
  replace h5 := h5.stp sw12
  replace hsub := sw12.sb hsub
  replace hlow := sw12.low
  replace hB := sw12.z hB
  replace h2 : MB w.heap.size _ w12 b2 _ [.int .u8 (getY l).op, .string (getY l).name, .int .i64 (getY l).n, kvc] := ⟨hw12, h2.inM, h2.ge⟩
  refine l_p 1 tK rfl (q1 (c_ret ?_))
  refine x_ret2st tK (fun j v hv => h2.cell j v hv) rfl rfl rfl rfl rfl rfl ?_
  have hok : okGY l = true := by
   have hem : (kindE (l.length + 1) l false).2.1.isEmpty = true := by rw [List.isEmpty_iff]; exact List.eq_nil_of_length_eq_zero (by omega)
   unfold okGY; rw [hem]; simp_all
  rw [hok]
  exact ⟨⟨_, rfl, Rep.wk hc (fun b _ h => hsub b h)⟩, hE⟩
 refine l_p 5 tK rfl (q1 (c_ifF rfl (c_skip (x_seq (q0 ?_)))))
 refine lC (o_lds tK (fun j v hv => h5.cell j v hv) rfl rfl rfl rfl rfl rfl ?_)
 refine lC (o_st tK h2.box rfl rfl rfl rfl (Rep.one hc) rfl rfl ?_)
 intro w13 hw13 qw13 bew13
 have uw13 : UpdB _ _ _ := ⟨qw13, bew13⟩
 have sw13 := uw13.stp h2.inM hlow h2.ge
 have frw13 := qw13.2
 replace he := he.stp sw13 (frw13 ye he.lt ne_h2_he.symm)
 replace hE := hE.trans sw13.below
 replace hs := hs.stp sw13
 replace hb := hb.stp sw13
 replace hc := Rep.stp hc sw13
 replace hkc := hkc.stp sw13
 replace h5 := h5.stp sw13
 replace hsub := sw13.sb hsub
 replace hlow := sw13.low
 replace hB := sw13.z hB
 replace h2 : MB w.heap.size _ w13 b2 _ [.int .u8 (getY l).op, .string (getY l).name, .int .i64 (getY l).n, kvc] := ⟨hw13, h2.inM, h2.ge⟩
 refine l_p 1 tK rfl (q1 (c_ret ?_))
 refine x_ret2st tK (fun j v hv => h2.cell j v hv) rfl rfl rfl rfl rfl rfl ?_
 have hok : okGY l = true := by
  have hem : (kindE (l.length + 1) l false).2.1.isEmpty = true := by rw [List.isEmpty_iff]; exact List.eq_nil_of_length_eq_zero (by omega)
  unfold okGY; rw [hem]; simp_all
 rw [hok]
 exact ⟨⟨_, rfl, Rep.wk hc (fun b _ h => hsub b h)⟩, hE⟩
theorem getTerm_spec (l : List UInt8) (hl : l.length ≤ 65536) (M : Nat → Prop) (w : World) (v : Value) (hs : Sl M w v l) (hlow0 : Low M w) :
  Calls Try.prog 33 #[v] w (Ret fun r w' => (∃ x, r = .tuple #[x, .int .u8 (bif okGT l then 0 else 15)] ∧ Rep.R M w' x (bif okGT l then getT l else tmZ)) ∧ Ext w w') := by
 have hlow := hlow0
 have hB : w.heap.size ≤ w.heap.size := Nat.le_refl _
 have hE : Below w.heap.size w w := Below.refl _ _
 have hsub : ∀ b, M b → M b := fun _ h => h
 refine c_enter (n := 28) Try.func33 rfl rfl rfl ?_
 refine q0 ?_
 refine lC (o_new tK rfl rfl rfl ?_)
 intro b2 w1 qb2 ew1 hb2
 have sw1 := Stp.add ew1 hlow hB (Nat.le_of_eq qb2.symm) hb2.lt
 have h2 : MB w.heap.size (Rw.Add M b2) w1 b2 84 [.int .u8 0, .string ⟨#[]⟩, .string ⟨#[]⟩, .int .i64 0, .bool false, .int .u8 0, .string ⟨#[]⟩, .int .i64 0, .slice none 0 0, .slice none 0 0] := MB.mk' hb2 qb2 hB
 replace hE := hE.trans sw1.below
 replace hs := hs.stp sw1
 replace hsub := sw1.sb hsub
 replace hlow := sw1.low
 replace hB := sw1.z hB
 obtain ⟨ab, cb, rfl, _⟩ := id hs
 have hb := hs
 refine l_p 1 tK rfl (q1 (c_seq (q0 (l_p 1 tK rfl ?_))))
 refine lC (o_len tK hs rfl rfl rfl rfl rfl ?_)
 refine l_p 1 tK rfl (q1 ?_)
 refine c_ifP _ rfl (fun c1 => ?_) (fun c1 => ?_)
 ·exact absurd c1 (by omega)
 refine c_skip (x_seq (q0 (l_p 1 tK rfl ?_)))
 refine lC (o_build (cells := [.slice ab l.length cb, .bool false]) bd130 rfl rfl rfl rfl rfl ?_)
 refine lC (o_new tK rfl rfl rfl ?_)
 intro ye w2 qye ew2 hye
 have ne_h2_he : b2 ≠ ye := by have := h2.lt; omega
 have sw2 := Stp.add ew2 hlow hB (Nat.le_of_eq qye.symm) hye.lt
 have he : MB w.heap.size (Rw.Add (Rw.Add M b2) ye) w2 ye 130 [.slice none 0 0, .bool false] := MB.mk' hye qye hB
 replace h2 := h2.stp sw2 (ew2.block b2 h2.lt)
 replace hE := hE.trans sw2.below
 replace hs := hs.stp sw2
 replace hb := hb.stp sw2
 replace hsub := sw2.sb hsub
 replace hlow := sw2.low
 replace hB := sw2.z hB
 refine lC (o_st tK he.box rfl rfl rfl rfl (by intro u hu; simp [Value.cells] at hu; rcases hu with rfl | rfl <;> rfl) rfl rfl ?_)
 intro w3 hw3 qw3 bew3
 have uw3 : UpdB _ _ _ := ⟨qw3, bew3⟩
 have sw3 := uw3.stp he.inM hlow he.ge
 have frw3 := qw3.2
 replace h2 := h2.stp sw3 (frw3 b2 h2.lt ne_h2_he)
 replace hE := hE.trans sw3.below
 replace hs := hs.stp sw3
 replace hb := hb.stp sw3
 replace hsub := sw3.sb hsub
 replace hlow := sw3.low
 replace hB := sw3.z hB
 replace he : MB w.heap.size _ w3 ye _ [.slice ab l.length cb, .bool false] := ⟨hw3, he.inM, he.ge⟩
 refine q1 (q0 ?_)
 refine lC (o_call fo75 rfl rfl rfl (eyeTerm_spec (l.length + 1) l false _ _ w.heap.size ye _ he hb hlow hB (by omega) (by omega)) ?_)
 rintro vc w4 ⟨hc, ⟨bv, he2, hb2⟩, sw4, kw4⟩
 have frw4 : ∀ x, x < w3.heap.size → x ≠ ye → w4.heap[x]? = w3.heap[x]? := fun x hx hn => kw4.blk x ⟨hx, hn⟩
 replace h2 := h2.stp sw4 (frw4 b2 h2.lt ne_h2_he)
 replace hE := hE.trans sw4.below
 replace hs := hs.stp sw4
 replace hsub := sw4.sb hsub
 replace hlow := sw4.low
 replace hB := sw4.z hB
 replace he := he2
 replace hb := hb2
 replace hc : Rep.R _ _ _ (getT l) := hc
 obtain ⟨akvc, kvc, rfl, opc, nmc, agc, n64c, hac, hkc⟩ := tm_open hc
 refine lC (o_new tK rfl rfl rfl ?_)
 intro b5 w5 qb5 ew5 hb5
 have nb5 := nM_of hlow qb5
 refine lC (o_st tK hb5 rfl rfl rfl rfl (Rep.one hc) rfl rfl ?_)
 intro w6 h5 uw6 bew6
 have ew6 : Ext w4 w6 := ew5.trans (bew6 _ (Nat.le_of_eq qb5.symm))
 replace h2 := h2.ext hlow hB ew6
 replace he := he.ext hlow hB ew6
 replace hE := ew6.bl hE hB
 replace hs := hs.ext ew6
 replace hb := hb.ext ew6
 replace hc := Rep.ext hc ew6
 replace hac := Rep.ext hac ew6
 replace hkc := hkc.ext ew6
 replace hlow := hlow.ext ew6
 replace hB := ew6.z hB
 replace h5 : Box w6 b5 84 [.int .u8 (getT l).op, .string (getT l).name, .string (getT l).arg, .int .i64 (getT l).n, .bool (getT l).has, .int .u8 (getT l).ann.op, .string (getT l).ann.name, .int .i64 (getT l).ann.n, akvc, kvc] := h5
 replace h5 := h5.at nb5
 refine q1 (c_seq (q0 (l_p 1 tK rfl ?_)))
 refine lC (o_ld tK (he.cell 1 _ rfl) rfl rfl rfl rfl rfl ?_)
 refine l_p 1 tK rfl ?_
 refine l_split 15 _ rfl (fun c2 => ?_) (fun c2 => ?_)
 ·refine l_p 10 tK rfl (q1 (c_ifT rfl (q0 ?_)))
  refine lC (o_build (cells := [.int .u8 0, .string ⟨#[]⟩, .string ⟨#[]⟩, .int .i64 0, .bool false, .int .u8 0, .string ⟨#[]⟩, .int .i64 0, .slice none 0 0, .slice none 0 0]) (css := []) bd84 rfl rfl rfl rfl rfl ?_)
  refine lC (o_st tK h2.box rfl rfl rfl rfl (by intro u hu; simp [Value.cells] at hu; rcases hu with rfl | rfl | rfl | rfl | rfl | rfl | rfl | rfl | rfl | rfl <;> rfl) rfl rfl ?_)
  intro w7 hw7 qw7 bew7
  have uw7 : UpdB _ _ _ := ⟨qw7, bew7⟩
  have sw7 := uw7.stp h2.inM hlow h2.ge
  have frw7 := qw7.2
  replace he := he.stp sw7 (frw7 ye he.lt ne_h2_he.symm)
  replace hE := hE.trans sw7.below
  replace hs := hs.stp sw7
  replace hb := hb.stp sw7
  replace hc := Rep.stp hc sw7
  replace hac := Rep.stp hac sw7
  replace hkc := hkc.stp sw7
  replace h5 := h5.stp sw7
  replace hsub := sw7.sb hsub
  replace hlow := sw7.low
  replace hB := sw7.z hB
  replace h2 : MB w.heap.size _ w7 b2 _ [.int .u8 0, .string ⟨#[]⟩, .string ⟨#[]⟩, .int .i64 0, .bool false, .int .u8 0, .string ⟨#[]⟩, .int .i64 0, .slice none 0 0, .slice none 0 0] := ⟨hw7, h2.inM, h2.ge⟩
  refine l_p 1 tK rfl (q1 (c_ret (x_seqR ?_)))
  refine x_ret2st tK (fun j v hv => h2.cell j v hv) rfl rfl rfl rfl rfl rfl ?_
  have hok : okGT l = false := by
   cases hq : okGT l with
   | false => rfl
   | true =>
    unfold okGT at hq
    simp only [Bool.and_eq_true, Bool.not_eq_true', List.isEmpty_iff] at hq
    have hz : (termE (l.length + 1) l false).2.1.length = 0 := by rw [hq.2.1]; rfl
    exfalso
    first | omega | simp_all
  rw [hok]
  exact ⟨⟨_, rfl, tm_mk (ann := .mk 0 ⟨#[]⟩ 0 []) (by decide) (by decide) (by decide) ⟨by decide, by decide⟩ (ty_mk (by decide) (by decide) ⟨by decide, by decide⟩ sl_nil) sl_nil⟩, hE⟩
 refine l_p 1 tK rfl ?_
 refine lC (o_ld tK (he.cell 0 _ rfl) rfl rfl rfl rfl rfl ?_)
 refine lC (o_len tK hb rfl rfl rfl rfl rfl ?_)
 refine l_p 3 tK rfl ?_
 refine l_splitP 21 _ rfl (fun c3 => ?_) (fun c3 => ?_)
 ·refine l_p 4 tK rfl (q1 (c_ifT rfl (q0 ?_)))
  refine lC (o_build (cells := [.int .u8 0, .string ⟨#[]⟩, .string ⟨#[]⟩, .int .i64 0, .bool false, .int .u8 0, .string ⟨#[]⟩, .int .i64 0, .slice none 0 0, .slice none 0 0]) (css := []) bd84 rfl rfl rfl rfl rfl ?_)
  refine lC (o_st tK h2.box rfl rfl rfl rfl (by intro u hu; simp [Value.cells] at hu; rcases hu with rfl | rfl | rfl | rfl | rfl | rfl | rfl | rfl | rfl | rfl <;> rfl) rfl rfl ?_)
  intro w8 hw8 qw8 bew8
  have uw8 : UpdB _ _ _ := ⟨qw8, bew8⟩
  have sw8 := uw8.stp h2.inM hlow h2.ge
  have frw8 := qw8.2
  replace he := he.stp sw8 (frw8 ye he.lt ne_h2_he.symm)
  replace hE := hE.trans sw8.below
  replace hs := hs.stp sw8
  replace hb := hb.stp sw8
  replace hc := Rep.stp hc sw8
  replace hac := Rep.stp hac sw8
  replace hkc := hkc.stp sw8
  replace h5 := h5.stp sw8
  replace hsub := sw8.sb hsub
  replace hlow := sw8.low
  replace hB := sw8.z hB
  replace h2 : MB w.heap.size _ w8 b2 _ [.int .u8 0, .string ⟨#[]⟩, .string ⟨#[]⟩, .int .i64 0, .bool false, .int .u8 0, .string ⟨#[]⟩, .int .i64 0, .slice none 0 0, .slice none 0 0] := ⟨hw8, h2.inM, h2.ge⟩
  refine l_p 1 tK rfl (q1 (c_ret (x_seqR ?_)))
  refine x_ret2st tK (fun j v hv => h2.cell j v hv) rfl rfl rfl rfl rfl rfl ?_
  have hok : okGT l = false := by
   cases hq : okGT l with
   | false => rfl
   | true =>
    unfold okGT at hq
    simp only [Bool.and_eq_true, Bool.not_eq_true', List.isEmpty_iff] at hq
    have hz : (termE (l.length + 1) l false).2.1.length = 0 := by rw [hq.2.1]; rfl
    exfalso
    first | omega | simp_all
  rw [hok]
  exact ⟨⟨_, rfl, tm_mk (ann := .mk 0 ⟨#[]⟩ 0 []) (by decide) (by decide) (by decide) ⟨by decide, by decide⟩ (ty_mk (by decide) (by decide) ⟨by decide, by decide⟩ sl_nil) sl_nil⟩, hE⟩
 refine lC (o_lds tK (fun j v hv => h5.cell j v hv) rfl rfl rfl rfl rfl rfl ?_)
 refine lC (o_call fo76 rfl rfl rfl (tRight_spec _ _ _ _ hc hlow (getT_ann (by omega))) ?_)
 rintro _ w9 ⟨rfl, ew9⟩
 replace h2 := h2.ext hlow hB ew9
 replace he := he.ext hlow hB ew9
 replace hE := ew9.bl hE hB
 replace hs := hs.ext ew9
 replace hb := hb.ext ew9
 replace hc := Rep.ext hc ew9
 replace hac := Rep.ext hac ew9
 replace hkc := hkc.ext ew9
 replace h5 := h5.ext ew9
 replace hlow := hlow.ext ew9
 replace hB := ew9.z hB
 refine l_p 2 tK rfl (q1 ?_)
 refine c_ifB _ rfl (fun c4 => ?_) (fun c4 => ?_)
 ·refine q0 ?_
  refine lC (o_build (cells := [.int .u8 0, .string ⟨#[]⟩, .string ⟨#[]⟩, .int .i64 0, .bool false, .int .u8 0, .string ⟨#[]⟩, .int .i64 0, .slice none 0 0, .slice none 0 0]) (css := []) bd84 rfl rfl rfl rfl rfl ?_)
  refine lC (o_st tK h2.box rfl rfl rfl rfl (by intro u hu; simp [Value.cells] at hu; rcases hu with rfl | rfl | rfl | rfl | rfl | rfl | rfl | rfl | rfl | rfl <;> rfl) rfl rfl ?_)
  intro w10 hw10 qw10 bew10
  have uw10 : UpdB _ _ _ := ⟨qw10, bew10⟩
  have sw10 := uw10.stp h2.inM hlow h2.ge
  have frw10 := qw10.2
  replace he := he.stp sw10 (frw10 ye he.lt ne_h2_he.symm)
  replace hE := hE.trans sw10.below
  replace hs := hs.stp sw10
  replace hb := hb.stp sw10
  replace hc := Rep.stp hc sw10
  replace hac := Rep.stp hac sw10
  replace hkc := hkc.stp sw10
  replace h5 := h5.stp sw10
  replace hsub := sw10.sb hsub
  replace hlow := sw10.low
  replace hB := sw10.z hB
  replace h2 : MB w.heap.size _ w10 b2 _ [.int .u8 0, .string ⟨#[]⟩, .string ⟨#[]⟩, .int .i64 0, .bool false, .int .u8 0, .string ⟨#[]⟩, .int .i64 0, .slice none 0 0, .slice none 0 0] := ⟨hw10, h2.inM, h2.ge⟩
  refine l_p 1 tK rfl (q1 (c_ret (x_seqR ?_)))
  refine x_ret2st tK (fun j v hv => h2.cell j v hv) rfl rfl rfl rfl rfl rfl ?_
  have hok : okGT l = false := by
   cases hq : okGT l with
   | false => rfl
   | true =>
    unfold okGT at hq
    simp only [Bool.and_eq_true, Bool.not_eq_true', List.isEmpty_iff] at hq
    have hz : (termE (l.length + 1) l false).2.1.length = 0 := by rw [hq.2.1]; rfl
    exfalso
    first | omega | simp_all
  rw [hok]
  exact ⟨⟨_, rfl, tm_mk (ann := .mk 0 ⟨#[]⟩ 0 []) (by decide) (by decide) (by decide) ⟨by decide, by decide⟩ (ty_mk (by decide) (by decide) ⟨by decide, by decide⟩ sl_nil) sl_nil⟩, hE⟩
 refine c_skip (x_seq (q0 ?_))
 refine lC (o_lds tK (fun j v hv => h5.cell j v hv) rfl rfl rfl rfl rfl rfl ?_)
 refine lC (o_st tK h2.box rfl rfl rfl rfl (Rep.one hc) rfl rfl ?_)
 intro w11 hw11 qw11 bew11
 have uw11 : UpdB _ _ _ := ⟨qw11, bew11⟩
 have sw11 := uw11.stp h2.inM hlow h2.ge
 have frw11 := qw11.2
 replace he := he.stp sw11 (frw11 ye he.lt ne_h2_he.symm)
 replace hE := hE.trans sw11.below
 replace hs := hs.stp sw11
 replace hb := hb.stp sw11
 replace hc := Rep.stp hc sw11
 replace hac := Rep.stp hac sw11
 replace hkc := hkc.stp sw11
 replace h5 := h5.stp sw11
 replace hsub := sw11.sb hsub
 replace hlow := sw11.low
 replace hB := sw11.z hB
 replace h2 : MB w.heap.size _ w11 b2 _ [.int .u8 (getT l).op, .string (getT l).name, .string (getT l).arg, .int .i64 (getT l).n, .bool (getT l).has, .int .u8 (getT l).ann.op, .string (getT l).ann.name, .int .i64 (getT l).ann.n, akvc, kvc] := ⟨hw11, h2.inM, h2.ge⟩
 refine l_p 1 tK rfl (q1 (c_ret ?_))
 refine x_ret2st tK (fun j v hv => h2.cell j v hv) rfl rfl rfl rfl rfl rfl ?_
 have hok : okGT l = true := by
  have hem : (termE (l.length + 1) l false).2.1.isEmpty = true := by rw [List.isEmpty_iff]; exact List.eq_nil_of_length_eq_zero (by omega)
  unfold okGT; rw [hem]; simp_all
 rw [hok]
 exact ⟨⟨_, rfl, Rep.wk hc (fun b _ h => hsub b h)⟩, hE⟩
end Go.Proofs.Ytohfnpmehgpphaa
namespace Go.Proofs.Ytohfnpmehgpphaa
open Go Rw Go.RowKit
set_option maxRecDepth 100000
end Go.Proofs.Ytohfnpmehgpphaa
namespace Go.Proofs.Ytohfnpmehgpphaa
open Go Rw Go.RowKit
set_option maxRecDepth 100000
theorem at_spec (M : Nat → Prop) (w : World) (v : Value) (l : List Int) (n : Int) (hl : Sl M w v l) :
  Calls Try.prog 134 #[v, .int .i64 n] w (Ret fun r w' => r = .int .i64 (atOf l n) ∧ w = w') := by
 have hlt := hl.lt
 refine c_enter (n := 19) Try.func134 rfl rfl rfl ?_
 refine q0 (l_p 1 tK rfl (q1 (c_seq (q0 (l_p 1 tK rfl (q1 (c_blk ?_)))))))
 refine c_loop (X := Nat) (fun x => [(0, v), (1, .int .i64 n), (5, .int .i64 (x : Nat))]) (fun x w' => w = w' ∧ x ≤ l.length ∧ ∀ j, j < x → l[j]? ≠ some n) (fun x => l.length - x) (0) (s3 rfl rfl rfl) ?_ ?_
 ·exact ⟨rfl, Nat.zero_le _, fun j hj => absurd hj (Nat.not_lt_zero _)⟩
 rintro k _ ⟨rfl, hk, hno⟩
 refine c_seq (q0 (l_p 2 tK rfl ?_))
 refine lC (o_len tK hl rfl rfl rfl rfl rfl ?_)
 refine l_p 1 tK rfl (q1 ?_)
 refine c_ifP _ rfl (fun h => ?_) (fun h => ?_)
 ·have hkl : k < l.length := by omega
  refine c_skip (x_seq (c_seq (c_blk (q0 (l_p 2 tK rfl ?_)))))
  refine lC (o_ixS tK hl (List.getElem?_eq_getElem hkl) rfl rfl rfl rfl rfl rfl rfl rfl rfl ?_)
  intro b o u hr hat
  obtain ⟨rfl, hb⟩ := hr
  refine lC (o_ld tK (hat.cell 0 _ rfl) rfl rfl rfl rfl rfl ?_)
  refine l_p 2 tK rfl (q1 ?_)
  refine c_ifP _ rfl (fun h2 => ?_) (fun h2 => ?_)
  ·refine q0 (l_p 2 tK rfl (q1 (c_ret (x_blkR (x_seqR (x_seqR (x_blkR (x_seqR (x_ret1 rfl rfl ?_)))))))))
   exact ⟨by rw [atOf_found hkl h2 hno], rfl⟩
  refine c_skip (x_blk (x_seq (c_reg (l_p 1 tK rfl ?_))))
  refine lC (o_ai rfl rfl rfl (by omega) rfl rfl ?_)
  refine l_p 1 tK rfl (l_nil ?_)
  exact x_round (k + 1) (s3 rfl rfl rfl) ⟨rfl, by omega, step_no hno hkl h2⟩ (by omega)
 refine c_exit (x_seqE (x_seqE (x_blkE (x_seq (q0 (l_p 1 tK rfl (q1 (c_ret (x_ret1 rfl rfl ?_)))))))))
 exact ⟨by rw [atOf_none (by omega) hno], rfl⟩
theorem in_spec (M : Nat → Prop) (w : World) (v : Value) (l : List Int) (n : Int) (hl : Sl M w v l) :
  Calls Try.prog 125 #[v, .int .i64 n] w (Ret fun r w' => r = .bool (decide (n ∈ l)) ∧ w = w') := by
 refine c_enter (n := 9) Try.func125 rfl rfl rfl ?_
 refine q0 (l_p 1 tK rfl (q1 (q0 (l_p 2 tK rfl ?_))))
 refine lC (o_call fo134 rfl rfl rfl (at_spec M _ _ l n hl) ?_)
 rintro _ _ ⟨rfl, rfl⟩
 refine l_p 2 tK rfl (q1 (c_ret (x_ret1 rfl rfl ?_)))
 exact ⟨by rw [inOf_at], rfl⟩
theorem refVars_spec (t : Ty) (c : UInt8) (M : Nat → Prop) (w : World) (v : Value) (hsh : shapeF t c = true) (ht : Rep.R M w v t) (hlow0 : Low M w) (hz : psz t ≤ 2000000) :
  Calls Try.prog 109 #[v] w (Ret fun r w' => Sl M w' r (varsF t) ∧ Ext w w') := by
 have hlow := hlow0
 have hB : w.heap.size ≤ w.heap.size := Nat.le_refl _
 have hE : Below w.heap.size w w := Below.refl _ _
 have hsub : ∀ b, M b → M b := fun _ h => h
 obtain ⟨kv, rfl, op, nm, n64, hk⟩ := ty_open ht
 have hpc := psz_canon _ t (Nat.le_refl _)
 have hpl : (partsL (canonF t)).length = psz (canonF t) := rfl
 refine c_enter (n := 48) Try.func109 rfl rfl rfl ?_
 refine q0 ?_
 refine lC (o_box rfl rfl rfl ?_)
 intro b1 w1 hb_b1 ew1 h1
 replace h1 : Box _ b1 40 [.int .u8 t.op, .string t.name, .int .i64 t.n, kv] := h1
 replace h1 := h1.at (nM_of hlow hb_b1)
 replace hE := ew1.bl hE hB
 replace ht := Rep.ext ht ew1
 replace hk := hk.ext ew1
 replace hlow := hlow.ext ew1
 replace hB := ew1.z hB
 refine l_p 1 tK rfl (q1 (q0 (l_p 1 tK rfl (q1 (q0 ?_)))))
 refine lC (o_lds tK (fun j v hv => h1.cell j v hv) rfl rfl rfl rfl rfl rfl ?_)
 refine lC (o_call fo68 rfl rfl rfl (refCanon_all _ t c _ _ _ (Nat.le_refl _) hsh ht hlow hz) ?_)
 rintro vc w2 ⟨hc, ew2⟩
 replace hE := ew2.bl hE hB
 replace ht := Rep.ext ht ew2
 replace hk := hk.ext ew2
 replace h1 := h1.ext ew2
 replace hlow := hlow.ext ew2
 replace hB := ew2.z hB
 refine lC (o_call fo40 rfl rfl rfl (parts_spec (canonF t) _ _ _ hc hlow (by omega)) ?_)
 rintro vhp w3 ⟨hp, ew3⟩
 replace hE := ew3.bl hE hB
 replace ht := Rep.ext ht ew3
 replace hk := hk.ext ew3
 replace h1 := h1.ext ew3
 replace hc := Rep.ext hc ew3
 replace hlow := hlow.ext ew3
 replace hB := ew3.z hB
 refine l_p 1 tK rfl (q1 (c_seq (q0 (l_p 1 tK rfl (q1 (c_blk ?_))))))
 refine c_loop3 (X := Nat) (Y := Value) (Z := Nat → Prop) (fun i v M1 => [(3, v), (4, vhp), (5, .int .i64 (i : Nat))]) (fun i v M1 w' => i ≤ (partsL (canonF t)).length ∧ OwnSl 3 w.heap.size M1 w' v (varsTo [] ((partsL (canonF t)).take i)) ∧ Sl M1 w' vhp (partsL (canonF t)) ∧ Low M1 w' ∧ (∀ b, M b → M1 b) ∧ Below w.heap.size w w' ∧ w.heap.size ≤ w'.heap.size) (fun i v M1 => (partsL (canonF t)).length - i) (0) (.slice none 0 0) (M) (s3 rfl rfl rfl) ?_ ?_
 ·exact ⟨Nat.zero_le _, own_nil, hp, hlow, hsub, hE, hB⟩
 rintro i v M1 w4 ⟨hi, ho, hp, hlow, hsub, hE, hB⟩
 have hvl := varsTo_len [] ((partsL (canonF t)).take i)
 rw [List.length_nil, List.length_take] at hvl
 refine c_seq (q0 (l_p 2 tK rfl ?_))
 refine lC (o_len tK hp rfl rfl rfl rfl rfl ?_)
 refine l_p 1 tK rfl (q1 ?_)
 refine c_ifP _ rfl (fun c1 => ?_) (fun c1 => ?_)
 ·refine c_skip (x_seq (c_seq (c_blk (q0 (l_p 2 tK rfl ?_)))))
  have hik : i < (partsL (canonF t)).length := by omega
  refine lC (o_ixS tK hp (List.getElem?_eq_getElem hik) rfl rfl rfl rfl rfl rfl rfl rfl rfl ?_)
  intro ebx0 eox0 eux0 hyx0 hatx0
  obtain ⟨kvx0, rfl, opx0, nmx0, n64x0, hkx0⟩ := ty_open hyx0
  replace hatx0 : At M1 w4 ebx0 eox0 [.int .u8 (partsL (canonF t))[i].op, .string (partsL (canonF t))[i].name, .int .i64 (partsL (canonF t))[i].n, kvx0] := hatx0
  refine l_p 1 tK rfl ?_
  refine lC (o_ld tK (hatx0.cell 0 _ rfl) rfl rfl rfl rfl rfl ?_)
  refine l_p 2 tK rfl ?_
  refine l_splitP 21 _ rfl (fun c2 => ?_) (fun c2 => ?_)
  ·refine l_p 11 tK rfl ?_
   refine lC (o_ixS tK hp (List.getElem?_eq_getElem hik) rfl rfl rfl rfl rfl rfl rfl rfl rfl ?_)
   intro ebx1 eox1 eux1 hyx1 hatx1
   obtain ⟨kvx1, rfl, opx1, nmx1, n64x1, hkx1⟩ := ty_open hyx1
   replace hatx1 : At M1 w4 ebx1 eox1 [.int .u8 (partsL (canonF t))[i].op, .string (partsL (canonF t))[i].name, .int .i64 (partsL (canonF t))[i].n, kvx1] := hatx1
   refine l_p 1 tK rfl ?_
   refine lC (o_ld tK (hatx1.cell 2 _ rfl) rfl rfl rfl rfl rfl ?_)
   have hos : Sl NoM w4 v (varsTo [] ((partsL (canonF t)).take i)) := ho.sl (by omega) (fun _ h => h.elim) (fun _ h => h.elim)
   refine lC (o_call fo125 rfl rfl rfl (in_spec NoM _ _ _ _ hos) ?_)
   rintro _ _ ⟨rfl, rfl⟩
   refine l_p 2 tK rfl (q1 ?_)
   refine c_ifN _ rfl (fun c3 => ?_) (fun c3 => ?_)
   ·refine c_reg (l_p 3 tK rfl ?_)
    refine lC (o_ixS tK hp (List.getElem?_eq_getElem hik) rfl rfl rfl rfl rfl rfl rfl rfl rfl ?_)
    intro ebx2 eox2 eux2 hyx2 hatx2
    obtain ⟨kvx2, rfl, opx2, nmx2, n64x2, hkx2⟩ := ty_open hyx2
    replace hatx2 : At M1 w4 ebx2 eox2 [.int .u8 (partsL (canonF t))[i].op, .string (partsL (canonF t))[i].name, .int .i64 (partsL (canonF t))[i].n, kvx2] := hatx2
    refine l_p 1 tK rfl ?_
    refine lC (o_ld tK (hatx2.cell 2 _ rfl) rfl rfl rfl rfl rfl ?_)
    refine lC (o_bs tK rfl rfl rfl rfl rfl rfl rfl (sz1 rfl) rfl rfl rfl ?_)
    intro bw5 w5 qbw5 ew5 hbw5
    have nbw5 := nM_of hlow qbw5
    replace ho := ho.ext hlow hB ew5
    replace hE := ew5.bl hE hB
    replace hp := hp.ext ew5
    replace hyx0 := Rep.ext hyx0 ew5
    replace hkx0 := hkx0.ext ew5
    replace hatx0 := hatx0.ext ew5
    replace hyx1 := Rep.ext hyx1 ew5
    replace hkx1 := hkx1.ext ew5
    replace hatx1 := hatx1.ext ew5
    replace hyx2 := Rep.ext hyx2 ew5
    replace hkx2 := hkx2.ext ew5
    replace hatx2 := hatx2.ext ew5
    replace hlow := hlow.ext ew5
    replace hB := ew5.z hB
    refine lC (o_app1 tK ho hbw5 nbw5 ⟨rfl, n64x2⟩ hlow hB rfl rfl rfl rfl rfl rfl rfl (by omega) (by show (_ + _) * 8 ≤ _; omega) rfl rfl ?_)
    intro vw6 w6 Mw6 hw6 sw6 frw6 blw6
    replace hE := hE.trans sw6.below
    replace hp := hp.stp sw6
    replace hyx0 := Rep.stp hyx0 sw6
    replace hkx0 := hkx0.stp sw6
    replace hatx0 := hatx0.stp sw6
    replace hyx1 := Rep.stp hyx1 sw6
    replace hkx1 := hkx1.stp sw6
    replace hatx1 := hatx1.stp sw6
    replace hyx2 := Rep.stp hyx2 sw6
    replace hkx2 := hkx2.stp sw6
    replace hatx2 := hatx2.stp sw6
    replace hsub := sw6.sb hsub
    replace hlow := sw6.low
    replace hB := sw6.z hB
    replace ho := hw6
    clear hw6
    refine l_p 1 tK rfl (q2 (x_seq (c_reg (l_p 1 tK rfl ?_))))
    refine lC (o_ai rfl rfl rfl (by omega) rfl rfl ?_)
    refine l_p 1 tK rfl (l_nil ?_)
    have htk : (partsL (canonF t)).take (i + 1) = (partsL (canonF t)).take i ++ [(partsL (canonF t))[i]] := List.take_succ_eq_append_getElem hik
    have hnb : numB (partsL (canonF t))[i].op = true := by unfold numB; simp [*]
    have hni : (partsL (canonF t))[i].n ∉ varsTo [] ((partsL (canonF t)).take i) := by assumption
    exact x_round3 (i + 1) (vw6) (Mw6) (s3 rfl rfl (get_num rfl (by omega))) ⟨by omega, by rw [htk, varsTo_yes hnb hni]; exact ho, hp, hlow, hsub, hE, hB⟩ (by omega)
   refine c_skip (x_blk (x_seq (c_reg (l_p 1 tK rfl ?_))))
   refine lC (o_ai rfl rfl rfl (by omega) rfl rfl ?_)
   refine l_p 1 tK rfl (l_nil ?_)
   have htk : (partsL (canonF t)).take (i + 1) = (partsL (canonF t)).take i ++ [(partsL (canonF t))[i]] := List.take_succ_eq_append_getElem hik
   have hst : varsTo [] ((partsL (canonF t)).take (i + 1)) = varsTo [] ((partsL (canonF t)).take i) := by
    rw [htk]
    cases hnb : numB (partsL (canonF t))[i].op with
    | false => exact varsTo_no hnb
    | true =>
     refine varsTo_old ?_
     unfold numB at hnb
     simp_all
   exact x_round3 (i + 1) (v) (M1) (s3 rfl rfl (get_num rfl (by omega))) ⟨by omega, by rw [hst]; exact ho, hp, hlow, hsub, hE, hB⟩ (by omega)
  refine l_p 2 tK rfl ?_
  refine lC (o_ixS tK hp (List.getElem?_eq_getElem hik) rfl rfl rfl rfl rfl rfl rfl rfl rfl ?_)
  intro ebx1 eox1 eux1 hyx1 hatx1
  obtain ⟨kvx1, rfl, opx1, nmx1, n64x1, hkx1⟩ := ty_open hyx1
  replace hatx1 : At M1 w4 ebx1 eox1 [.int .u8 (partsL (canonF t))[i].op, .string (partsL (canonF t))[i].name, .int .i64 (partsL (canonF t))[i].n, kvx1] := hatx1
  refine l_p 1 tK rfl ?_
  refine lC (o_ld tK (hatx1.cell 0 _ rfl) rfl rfl rfl rfl rfl ?_)
  refine l_p 3 tK rfl ?_
  refine l_splitP 29 _ rfl (fun c4 => ?_) (fun c4 => ?_)
  ·refine l_p 3 tK rfl ?_
   refine lC (o_ixS tK hp (List.getElem?_eq_getElem hik) rfl rfl rfl rfl rfl rfl rfl rfl rfl ?_)
   intro ebx2 eox2 eux2 hyx2 hatx2
   obtain ⟨kvx2, rfl, opx2, nmx2, n64x2, hkx2⟩ := ty_open hyx2
   replace hatx2 : At M1 w4 ebx2 eox2 [.int .u8 (partsL (canonF t))[i].op, .string (partsL (canonF t))[i].name, .int .i64 (partsL (canonF t))[i].n, kvx2] := hatx2
   refine l_p 1 tK rfl ?_
   refine lC (o_ld tK (hatx2.cell 2 _ rfl) rfl rfl rfl rfl rfl ?_)
   have hos : Sl NoM w4 v (varsTo [] ((partsL (canonF t)).take i)) := ho.sl (by omega) (fun _ h => h.elim) (fun _ h => h.elim)
   refine lC (o_call fo125 rfl rfl rfl (in_spec NoM _ _ _ _ hos) ?_)
   rintro _ _ ⟨rfl, rfl⟩
   refine l_p 2 tK rfl (q1 ?_)
   refine c_ifN _ rfl (fun c5 => ?_) (fun c5 => ?_)
   ·refine c_reg (l_p 3 tK rfl ?_)
    refine lC (o_ixS tK hp (List.getElem?_eq_getElem hik) rfl rfl rfl rfl rfl rfl rfl rfl rfl ?_)
    intro ebx3 eox3 eux3 hyx3 hatx3
    obtain ⟨kvx3, rfl, opx3, nmx3, n64x3, hkx3⟩ := ty_open hyx3
    replace hatx3 : At M1 w4 ebx3 eox3 [.int .u8 (partsL (canonF t))[i].op, .string (partsL (canonF t))[i].name, .int .i64 (partsL (canonF t))[i].n, kvx3] := hatx3
    refine l_p 1 tK rfl ?_
    refine lC (o_ld tK (hatx3.cell 2 _ rfl) rfl rfl rfl rfl rfl ?_)
    refine lC (o_bs tK rfl rfl rfl rfl rfl rfl rfl (sz1 rfl) rfl rfl rfl ?_)
    intro bw7 w7 qbw7 ew7 hbw7
    have nbw7 := nM_of hlow qbw7
    replace ho := ho.ext hlow hB ew7
    replace hE := ew7.bl hE hB
    replace hp := hp.ext ew7
    replace hyx0 := Rep.ext hyx0 ew7
    replace hkx0 := hkx0.ext ew7
    replace hatx0 := hatx0.ext ew7
    replace hyx1 := Rep.ext hyx1 ew7
    replace hkx1 := hkx1.ext ew7
    replace hatx1 := hatx1.ext ew7
    replace hyx2 := Rep.ext hyx2 ew7
    replace hkx2 := hkx2.ext ew7
    replace hatx2 := hatx2.ext ew7
    replace hyx3 := Rep.ext hyx3 ew7
    replace hkx3 := hkx3.ext ew7
    replace hatx3 := hatx3.ext ew7
    replace hlow := hlow.ext ew7
    replace hB := ew7.z hB
    refine lC (o_app1 tK ho hbw7 nbw7 ⟨rfl, n64x3⟩ hlow hB rfl rfl rfl rfl rfl rfl rfl (by omega) (by show (_ + _) * 8 ≤ _; omega) rfl rfl ?_)
    intro vw8 w8 Mw8 hw8 sw8 frw8 blw8
    replace hE := hE.trans sw8.below
    replace hp := hp.stp sw8
    replace hyx0 := Rep.stp hyx0 sw8
    replace hkx0 := hkx0.stp sw8
    replace hatx0 := hatx0.stp sw8
    replace hyx1 := Rep.stp hyx1 sw8
    replace hkx1 := hkx1.stp sw8
    replace hatx1 := hatx1.stp sw8
    replace hyx2 := Rep.stp hyx2 sw8
    replace hkx2 := hkx2.stp sw8
    replace hatx2 := hatx2.stp sw8
    replace hyx3 := Rep.stp hyx3 sw8
    replace hkx3 := hkx3.stp sw8
    replace hatx3 := hatx3.stp sw8
    replace hsub := sw8.sb hsub
    replace hlow := sw8.low
    replace hB := sw8.z hB
    replace ho := hw8
    clear hw8
    refine l_p 1 tK rfl (q2 (x_seq (c_reg (l_p 1 tK rfl ?_))))
    refine lC (o_ai rfl rfl rfl (by omega) rfl rfl ?_)
    refine l_p 1 tK rfl (l_nil ?_)
    have htk : (partsL (canonF t)).take (i + 1) = (partsL (canonF t)).take i ++ [(partsL (canonF t))[i]] := List.take_succ_eq_append_getElem hik
    have hnb : numB (partsL (canonF t))[i].op = true := by unfold numB; simp [*]
    have hni : (partsL (canonF t))[i].n ∉ varsTo [] ((partsL (canonF t)).take i) := by assumption
    exact x_round3 (i + 1) (vw8) (Mw8) (s3 rfl rfl (get_num rfl (by omega))) ⟨by omega, by rw [htk, varsTo_yes hnb hni]; exact ho, hp, hlow, hsub, hE, hB⟩ (by omega)
   refine c_skip (x_blk (x_seq (c_reg (l_p 1 tK rfl ?_))))
   refine lC (o_ai rfl rfl rfl (by omega) rfl rfl ?_)
   refine l_p 1 tK rfl (l_nil ?_)
   have htk : (partsL (canonF t)).take (i + 1) = (partsL (canonF t)).take i ++ [(partsL (canonF t))[i]] := List.take_succ_eq_append_getElem hik
   have hst : varsTo [] ((partsL (canonF t)).take (i + 1)) = varsTo [] ((partsL (canonF t)).take i) := by
    rw [htk]
    cases hnb : numB (partsL (canonF t))[i].op with
    | false => exact varsTo_no hnb
    | true =>
     refine varsTo_old ?_
     unfold numB at hnb
     simp_all
   exact x_round3 (i + 1) (v) (M1) (s3 rfl rfl (get_num rfl (by omega))) ⟨by omega, by rw [hst]; exact ho, hp, hlow, hsub, hE, hB⟩ (by omega)
  refine l_p 9 tK rfl (q1 (c_ifF rfl (c_skip (x_blk (x_seq (c_reg (l_p 1 tK rfl ?_)))))))
  refine lC (o_ai rfl rfl rfl (by omega) rfl rfl ?_)
  refine l_p 1 tK rfl (l_nil ?_)
  have htk : (partsL (canonF t)).take (i + 1) = (partsL (canonF t)).take i ++ [(partsL (canonF t))[i]] := List.take_succ_eq_append_getElem hik
  have hst : varsTo [] ((partsL (canonF t)).take (i + 1)) = varsTo [] ((partsL (canonF t)).take i) := by
   rw [htk]
   cases hnb : numB (partsL (canonF t))[i].op with
   | false => exact varsTo_no hnb
   | true =>
    refine varsTo_old ?_
    unfold numB at hnb
    simp_all
  exact x_round3 (i + 1) (v) (M1) (s3 rfl rfl (get_num rfl (by omega))) ⟨by omega, by rw [hst]; exact ho, hp, hlow, hsub, hE, hB⟩ (by omega)
 refine c_exit (x_seqE (x_seqE (x_blkE (x_seq (q0 (l_p 2 tK rfl (q1 (c_ret (x_ret1 rfl rfl ?_)))))))))
 obtain rfl : i = (partsL (canonF t)).length := by omega
 rw [List.take_of_length_le (Nat.le_refl _)] at ho hvl
 exact ⟨ho.sl (by omega) hlow0 hsub, hE⟩
end Go.Proofs.Ytohfnpmehgpphaa
namespace Rw
/-! ## Letters -/
theorem hasB_yes {s : ByteArray} {c : UInt8} {j : Nat} (h : s.data[j]? = some c) : hasB s c = true := by
  unfold hasB
  rw [List.any_eq_true]
  exact ⟨c, by rw [Array.mem_toList_iff]; exact Array.mem_of_getElem? h, by simp⟩
theorem hasB_no {s : ByteArray} {c : UInt8} (h : ∀ j, j < s.size → s.data[j]? ≠ some c) : hasB s c = false := by
  unfold hasB
  rw [List.any_eq_false]
  intro x hx
  simp only [decide_eq_true_eq]
  rintro rfl
  rw [Array.mem_toList_iff] at hx
  obtain ⟨j, hj, e⟩ := Array.getElem_of_mem hx
  exact h j hj (by rw [Array.getElem?_eq_getElem hj, e])
def countTo (s : ByteArray) (i : Nat) : Nat := ((s.data.toList.take i).filter fun x => decide (x = 101)).length
theorem countTo_all {s : ByteArray} {i : Nat} (h : s.size ≤ i) : countTo s i = countE s := by
  unfold countTo countE
  rw [List.take_of_length_le (by simpa using h)]
theorem countTo_step {s : ByteArray} {i : Nat} {c : UInt8} (h : s.data[i]? = some c) : countTo s (i + 1) = countTo s i + if c = 101 then 1 else 0 := by
  have hi : i < s.data.toList.length := by simpa using (Array.getElem?_eq_some_iff.1 h).1
  have e : s.data.toList[i] = c := by
    have := (Array.getElem?_eq_some_iff.1 h).2
    simpa using this
  unfold countTo
  rw [List.take_succ_eq_append_getElem hi, List.filter_append, List.length_append, e]
  by_cases hc : c = 101
  · subst hc; simp
  · simp [hc]
theorem countTo_le (s : ByteArray) (i : Nat) : countTo s i ≤ i := by
  unfold countTo
  have h1 := List.length_filter_le (fun x => decide (x = 101)) (s.data.toList.take i)
  rw [List.length_take] at h1
  omega
/-! ## Right, twice -/
theorem shp_parts {op : Int} (h : ¬ (op < 32 ∨ 52 ≤ op)) : (shp op).2.2.2.2 = true ∧ partsS op ≠ ⟨#[]⟩ ∧ (op ≠ 48 → (shp op).2.2.1 = (countE (partsS op) : Int) ∧ partsS op ≠ ⟨#[99]⟩) := by
  rcases op_cases h with e | e | e | e | e | e | e | e | e | e | e | e | e | e | e | e | e | e | e | e <;> subst e <;> exact ⟨by decide, by decide, by decide⟩
theorem shp_no {op : Int} (h : op < 32 ∨ 52 ≤ op) : (shp op).2.2.2.2 = false := by
  unfold shp
  repeat rw [if_neg (by omega)]
theorem arms_of {k : Tm} (h : rightT k true = true) : k.op = 49 ∨ k.op = 50 := by
  rw [rightT_eq, headT] at h
  simp only [Bool.and_eq_true, beq_iff_eq] at h
  have h1 := h.1.2.1
  unfold armsB at h1
  simpa using h1.symm
theorem kids_arms : ∀ (l : List Tm) (i : Nat), kidsT 48 (i + 1) (kidL l) = armsL (kidL l)
  | [], _ => rfl
  | k :: l, i => by
    show kidsT 48 (i + 1) ((k.op, rightT k) :: kidL l) = armsL ((k.op, rightT k) :: kidL l)
    have hi : innerB 48 (i + 1) = true := by unfold innerB; simp
    rw [kidsT, armsL, hi, kids_arms l (i + 1)]
    cases hg : rightT k true with
    | false => simp
    | true =>
      rcases arms_of hg with e | e
      · rw [e, show armB 49 (kidL l).isEmpty = true from rfl]; simp
      · rw [e, show armB 50 (kidL l).isEmpty = (kidL l).isEmpty by unfold armB; simp]; simp
theorem kids_all {op : Int} (h : op ≠ 48) : ∀ (l : List Tm) (i : Nat), kidsT op i (kidL l) = allL (kidL l)
  | [], _ => rfl
  | k :: l, i => by
    show kidsT op i ((k.op, rightT k) :: kidL l) = allL ((k.op, rightT k) :: kidL l)
    have hi : innerB op i = false := by unfold innerB; simp [h]
    rw [kidsT, hi, kids_all h l (i + 1)]
    simp [allL]
theorem ref_right (t : Tm) : ∀ arm, refT t arm = rightT t arm := by
  refine Tm.ind (p := fun t => ∀ arm, refT t arm = rightT t arm) (fun t ih => ?_) t
  intro arm
  have hk : refL t.kids = kidL t.kids := by
    unfold refL kidL
    apply List.map_congr_left
    intro k hk
    rw [show refT k = rightT k from funext (ih k hk)]
  rw [refT_eq, rightT_eq, hk, headT]
  by_cases ho : t.op < 32 ∨ 52 ≤ t.op
  · rw [shp_no ho, show partsS t.op = ⟨#[]⟩ by unfold partsS; rw [if_pos ho]]; simp
  · obtain ⟨h1, h2, h3⟩ := shp_parts ho
    rw [h1, decide_eq_false h2, parts_node ho, nodeB]
    have hkids : (bif decide (partsS t.op = ⟨#[99]⟩) then caseL (kidL t.kids) else decide (t.kids.length = countE (partsS t.op)) && allL (kidL t.kids)) =
        ((bif decide (0 ≤ (shp t.op).2.2.1) then decide ((t.kids.length : Int) = (shp t.op).2.2.1) else !decide (t.kids = [])) && kidsT t.op 0 (kidL t.kids)) := by
      by_cases h48 : t.op = 48
      · rw [h48, show decide (partsS 48 = ⟨#[99]⟩) = true by decide, show decide (0 ≤ (shp 48).2.2.1) = false by decide]
        simp only [cond_true, cond_false]
        cases hl : t.kids with
        | nil => rfl
        | cons k l =>
          show caseL ((k.op, rightT k) :: kidL l) = (_ && kidsT 48 0 ((k.op, rightT k) :: kidL l))
          rw [caseL, kidsT, show innerB 48 0 = false from rfl, kids_arms l 0]
          simp
      · obtain ⟨h4, h5⟩ := h3 h48
        rw [decide_eq_false h5, h4, decide_eq_true (show (0 : Int) ≤ (countE (partsS t.op) : Int) by omega), kids_all h48]
        simp only [cond_true, cond_false]
        congr 1
        rw [decide_eq_decide]
        omega
    rw [hkids]
    simp only [Bool.not_false, Bool.true_and, Bool.and_assoc]
theorem allL_step {l : List Tm} {i : Nat} (hi : i < l.length) : allL (refL (l.drop i)) = (refT l[i] false && allL (refL (l.drop (i + 1)))) := by
  rw [List.drop_eq_getElem_cons hi]; rfl
theorem allL_end {l : List Tm} {i : Nat} (hi : l.length ≤ i) : allL (refL (l.drop i)) = true := by rw [List.drop_eq_nil_of_le hi]; rfl
theorem armsL_step {l : List Tm} {i : Nat} (hi : i < l.length) : armsL (refL (l.drop i)) = (refT l[i] true && (!(decide (l[i].op = 50) && decide (i + 1 < l.length)) && armsL (refL (l.drop (i + 1))))) := by
  rw [List.drop_eq_getElem_cons hi]
  show armsL ((l[i].op, refT l[i]) :: refL (l.drop (i + 1))) = _
  rw [armsL]
  have e : (!(refL (l.drop (i + 1))).isEmpty) = decide (i + 1 < l.length) := by
    rw [Bool.eq_iff_iff, Bool.not_eq_true', decide_eq_true_eq, ← Bool.not_eq_true, List.isEmpty_iff]
    unfold refL
    rw [List.map_eq_nil_iff, List.drop_eq_nil_iff]
    omega
  rw [e]
theorem armsL_end {l : List Tm} {i : Nat} (hi : l.length ≤ i) : armsL (refL (l.drop i)) = true := by rw [List.drop_eq_nil_of_le hi]; rfl
theorem caseL_step {l : List Tm} (hi : 0 < l.length) : caseL (refL l) = (refT l[0] false && armsL (refL (l.drop 1))) := by
  cases l with
  | nil => cases hi
  | cons k l => rfl
end Rw
