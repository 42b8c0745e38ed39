/- Part 3 of the proof: rules, plain laws and walks, merged out of smaller texts. -/
import Derived.Test.YtpoahmeacjggfaaGreatQ2
namespace Go.Proofs.YtpoahmeacjggfaaGreat
open Go Rw Go.RowKit
set_option maxRecDepth 4000
theorem meet_spec (M : Nat → Prop) (w : World) (B b : Nat) (l : St) (n : Int) (row : Bool) (hs : OM (κ := Int) (fun x : Bool => Value.bool x) B M w b l) (Lw : Low M w) :
  Calls Tryz.prog 104 #[.map (some b), .int .i64 n, .bool row] w (Ret fun r w' => r = .bool (meetS l n row).1 ∧ OM (κ := Int) (fun x : Bool => Value.bool x) B M w' b (meetS l n row).2 ∧ UpdB b w w') := by
 have hU := UpdB.refl b w
 have hB : B ≤ w.heap.size := Nat.le_trans hs.ge (Nat.le_of_lt hs.lt)
 refine cN (n := 25) Tryz.func104 rfl rfl rfl ?_
 refine q0 (lP 1 tK rfl (q1 (q0 (lP 2 tK rfl ?_))))
 refine lC (o_look (z := false) tK hs.map (k := n) rfl rfl rfl rfl ⟨_, Tryz.underlying3, rfl⟩ rfl rfl rfl rfl ?_)
 refine lP 5 tK rfl (q1 (q0 (lP 3 tK rfl ?_)))
 refine lC (o_mupd tK hs.map (k := n) (v := row) rfl rfl rfl rfl rfl ⟨_, Tryz.underlying3, rfl⟩ rfl ?_)
 intro w1 hw1 qw1 bew1
 have uw1 : UpdB _ _ _ := ⟨qw1, bew1⟩
 have sw1 := uw1.sp hs.inM Lw hs.ge
 have frw1 := qw1.2
 replace hU := hU.trans uw1
 replace Lw := sw1.low
 replace hB := sw1.z hB
 replace hs : OM _ _ _ w1 _ (putK l n row) := ⟨hw1, hs.inM, hs.ge⟩
 refine q1 (q0 (lP 3 tK rfl ?_))
 refine l_splitB 20 _ rfl (fun c1 => ?_) (fun c1 => ?_)
 ·refine lP 5 tK rfl (q1 (cR (x1_ rfl rfl ?_)))
  refine ⟨?_, hs, hU⟩
  cases hg : getK l n <;> simp_all [meetS]
 refine lP 2 tK rfl ?_
 refine lC (o_beq tK rfl rfl rfl rfl rfl rfl ?_)
 refine lP 2 tK rfl (q1 (cR (x1_ rfl rfl ?_)))
 refine ⟨?_, hs, hU⟩
 cases hg : getK l n <;> simp_all [meetS]
theorem right_spec : ∀ (t : Ty) (row : Bool) (l : St) (M : Nat → Prop) (w : World) (v : Value) (B b : Nat), Rep.R M w v t → OM (κ := Int) (fun x : Bool => Value.bool x) B M w b l → Low M w → Calls Tryz.prog 94 #[.map (some b), v, .bool row] w (Ret fun r w' => r = .bool (rightF t row l).1 ∧ OM (κ := Int) (fun x : Bool => Value.bool x) B M w' b (rightF t row l).2 ∧ UpdB b w w') := by
 refine Ty.ind fun t ih => ?_
 intro row l M w v B b ht hs Lw
 have hU := UpdB.refl b w
 have hB : B ≤ w.heap.size := Nat.le_trans hs.ge (Nat.le_of_lt hs.lt)
 obtain ⟨kv, rfl, op, nm, n64, hk⟩ := tO ht
 have hlt := hk.lt
 refine cN (n := 113) Tryz.func94 rfl rfl rfl ?_
 refine q0 ?_
 refine lC (o_box rfl rfl rfl ?_)
 intro b1 w1 hb_b1 ew1 h1
 replace h1 : Box _ b1 29 [.int .u8 t.op, .string t.name, .int .i64 t.n, kv] := h1
 replace h1 := h1.at (nO Lw hb_b1)
 replace hU := hU.trans (UpdB.Y ew1 hs.lt)
 replace hs := hs.Y Lw hB ew1
 replace ht := Rep.Y ht ew1
 replace hk := hk.Y ew1
 replace Lw := Lw.Y ew1
 replace hB := ew1.z hB
 refine lP 1 tK rfl (q1 (q0 (lP 1 tK rfl (q1 (q0 (lP 2 tK rfl (q1 ?_)))))))
 refine c_cut3 (X := Int) (Y := Bool) (Z := Bool) (fun kc nd nb => [(0, .map (some b)), (2, .bool row), (4, .pointer (some ⟨b1, 0, none⟩)), (7, .int .i64 kc), (8, .bool nd), (9, .bool nb)]) (fun kc nd nb w' => w1 = w' ∧ (∃ ks, kidsOf t.op = some ks ∧ (ks.size : Int) = kc) ∧ nd = decide (t.op = 11) ∧ nb = numB t.op) ?_ ?_
 ·refine q0 (lP 1 tK rfl ?_)
  refine lC (oD tK (h1.cell 0 _ rfl) rfl rfl rfl rfl rfl ?_)
  refine q1 (cB (cS (q0 (lP 2 tK rfl (q1 ?_)))))
  refine c_splitP 14 _ rfl (fun c1 => cI rfl ?_) (fun c1 => c_ifF rfl ?_)
  ·refine cK (xS (cI rfl (cK (x_blk ?_))))
   exact x_cut3 (0) (false) (false) (s6 rfl rfl rfl rfl rfl rfl) ⟨rfl, ⟨⟨#[]⟩, by simp [kidsOf, *], rfl⟩, by simp [*], by simp [numB, *]⟩
  refine q0 (lP 2 tK rfl (q1 ?_))
  refine c_splitP 14 _ rfl (fun c2 => cI rfl ?_) (fun c2 => c_ifF rfl ?_)
  ·refine cK (xS (cI rfl (cK (x_blk ?_))))
   exact x_cut3 (0) (false) (false) (s6 rfl rfl rfl rfl rfl rfl) ⟨rfl, ⟨⟨#[]⟩, by simp [kidsOf, *], rfl⟩, by simp [*], by simp [numB, *]⟩
  refine cG (lP 2 tK rfl (q1 ?_))
  refine c_splitP 14 _ rfl (fun c3 => cI rfl ?_) (fun c3 => c_ifF rfl ?_)
  ·refine cK (x_blk ?_)
   exact x_cut3 (0) (false) (false) (s6 rfl rfl rfl rfl rfl rfl) ⟨rfl, ⟨⟨#[]⟩, by simp [kidsOf, *], rfl⟩, by simp [*], by simp [numB, *]⟩
  refine q0 (lP 2 tK rfl (q1 ?_))
  refine cP _ rfl (fun c4 => ?_) (fun c4 => ?_)
  ·refine cG (lP 1 tK rfl (q2 ?_))
   exact x_cut3 (2) (false) (false) (s6 rfl rfl rfl rfl rfl rfl) ⟨rfl, ⟨⟨#[116, 116]⟩, by simp [kidsOf, *], rfl⟩, by simp [*], by simp [numB, *]⟩
  refine cS (q0 (lP 2 tK rfl (q1 ?_)))
  refine c_splitP 20 _ rfl (fun c5 => cI rfl ?_) (fun c5 => c_ifF rfl ?_)
  ·refine cK (xS (cI rfl (cG (lP 1 tK rfl (q2 ?_)))))
   exact x_cut3 (1) (false) (false) (s6 rfl rfl rfl rfl rfl rfl) ⟨rfl, ⟨⟨#[114]⟩, by simp [kidsOf, *], rfl⟩, by simp [*], by simp [numB, *]⟩
  refine cG (lP 2 tK rfl (q1 ?_))
  refine c_splitP 20 _ rfl (fun c6 => cI rfl ?_) (fun c6 => c_ifF rfl ?_)
  ·refine cG (lP 1 tK rfl (q2 ?_))
   exact x_cut3 (1) (false) (false) (s6 rfl rfl rfl rfl rfl rfl) ⟨rfl, ⟨⟨#[114]⟩, by simp [kidsOf, *], rfl⟩, by simp [*], by simp [numB, *]⟩
  refine q0 (lP 2 tK rfl (q1 ?_))
  refine cP _ rfl (fun c7 => ?_) (fun c7 => ?_)
  ·refine cG (lP 1 tK rfl (q2 ?_))
   exact x_cut3 (0) (false) (true) (s6 rfl rfl rfl rfl rfl rfl) ⟨rfl, ⟨⟨#[]⟩, by simp [kidsOf, *], rfl⟩, by simp [*], by simp [numB, *]⟩
  refine cS (q0 (lP 2 tK rfl (q1 ?_)))
  refine c_splitP 25 _ rfl (fun c8 => cI rfl ?_) (fun c8 => c_ifF rfl ?_)
  ·refine cK (xS (cI rfl (cK (x_blk ?_))))
   exact x_cut3 (0) (false) (false) (s6 rfl rfl rfl rfl rfl rfl) ⟨rfl, ⟨⟨#[]⟩, by simp [kidsOf, *], rfl⟩, by simp [*], by simp [numB, *]⟩
  refine cG (lP 2 tK rfl (q1 ?_))
  refine c_splitP 25 _ rfl (fun c9 => cI rfl ?_) (fun c9 => c_ifF rfl ?_)
  ·refine cK (x_blk ?_)
   exact x_cut3 (0) (false) (false) (s6 rfl rfl rfl rfl rfl rfl) ⟨rfl, ⟨⟨#[]⟩, by simp [kidsOf, *], rfl⟩, by simp [*], by simp [numB, *]⟩
  refine q0 (lP 2 tK rfl (q1 ?_))
  refine cP _ rfl (fun c10 => ?_) (fun c10 => ?_)
  ·refine cG (lP 1 tK rfl (q2 ?_))
   exact x_cut3 (0) (false) (true) (s6 rfl rfl rfl rfl rfl rfl) ⟨rfl, ⟨⟨#[]⟩, by simp [kidsOf, *], rfl⟩, by simp [*], by simp [numB, *]⟩
  refine q0 (lP 2 tK rfl (q1 ?_))
  refine cP _ rfl (fun c11 => ?_) (fun c11 => ?_)
  ·refine cG (lP 2 tK rfl (q2 ?_))
   exact x_cut3 (2) (true) (false) (s6 rfl rfl rfl rfl rfl rfl) ⟨rfl, ⟨⟨#[116, 114]⟩, by simp [kidsOf, *], rfl⟩, by simp [*], by simp [numB, *]⟩
  refine q0 (lP 1 tK rfl (q1 (cR (xB (xR (x1_ rfl rfl ?_))))))
  rw [right_pre_no (by rw [preR, show kidsOf t.op = none by simp [kidsOf, *]])]
  exact ⟨rfl, hs, hU⟩
 rintro kc nd nb _ ⟨rfl, ⟨ks, hko, hkc⟩, hnd, hnb⟩
 refine cS (q0 (lP 2 tK rfl ?_))
 refine lC (oD tK (h1.cell 0 _ rfl) rfl rfl rfl rfl rfl ?_)
 refine lP 1 tK rfl ?_
 refine lC (o_bne tK rfl rfl rfl rfl rfl rfl ?_)
 refine lP 1 tK rfl ?_
 refine l_split 37 _ rfl (fun c12 => ?_) (fun c12 => ?_)
 ·refine lP 20 tK rfl (q1 (cI rfl (q0 (lP 1 tK rfl (q1 (cR (xR (x1_ rfl rfl ?_))))))))
  rw [right_pre_no (by clear ih; rw [preR, hko]; unfold headOk; simp_all [numB] <;> omega)]
  exact ⟨rfl, hs, hU⟩
 refine lP 1 tK rfl ?_
 refine lC (oD tK (h1.cell 3 _ rfl) rfl rfl rfl rfl rfl ?_)
 refine lC (o_len tK hk rfl rfl rfl rfl rfl ?_)
 refine lP 4 tK rfl ?_
 refine l_splitN 44 _ rfl (fun c13 => ?_) (fun c13 => ?_)
 ·refine lP 13 tK rfl (q1 (cI rfl (q0 (lP 1 tK rfl (q1 (cR (xR (x1_ rfl rfl ?_))))))))
  rw [right_pre_no (by clear ih; rw [preR, hko]; unfold headOk; simp_all [numB] <;> omega)]
  exact ⟨rfl, hs, hU⟩
 refine lP 1 tK rfl ?_
 refine lC (oD tK (h1.cell 2 _ rfl) rfl rfl rfl rfl rfl ?_)
 refine lP 3 tK rfl ?_
 refine lS 49 _ rfl (fun c14 => ?_) (fun c14 => ?_)
 ·refine lP 8 tK rfl (q1 (cI rfl (q0 (lP 1 tK rfl (q1 (cR (xR (x1_ rfl rfl ?_))))))))
  rw [right_pre_no (by clear ih; rw [preR, hko]; unfold headOk; simp_all [numB] <;> omega)]
  exact ⟨rfl, hs, hU⟩
 refine lP 3 tK rfl ?_
 refine l_splitB 52 _ rfl (fun c15 => ?_) (fun c15 => ?_)
 ·refine lP 1 tK rfl ?_
  refine lC (oD tK (h1.cell 2 _ rfl) rfl rfl rfl rfl rfl ?_)
  refine lP 3 tK rfl (q1 ?_)
  refine c_ifN _ rfl (fun c16 => ?_) (fun c16 => ?_)
  ·refine q0 (lP 1 tK rfl (q1 (cR (xR (x1_ rfl rfl ?_)))))
   rw [right_pre_no (by clear ih; rw [preR, hko]; unfold headOk; simp_all [numB] <;> omega)]
   exact ⟨rfl, hs, hU⟩
  refine cK (xS (cS (q0 (lP 3 tK rfl ?_))))
  refine l_splitB 60 _ rfl (fun c17 => ?_) (fun c17 => ?_)
  ·refine lP 1 tK rfl ?_
   refine lC (oD tK (h1.cell 1 _ rfl) rfl rfl rfl rfl rfl ?_)
   refine lP 3 tK rfl ?_
   refine l_splitN 65 _ rfl (fun c18 => ?_) (fun c18 => ?_)
   ·refine lP 8 tK rfl (q1 (cI rfl (q0 (lP 1 tK rfl (q1 (cR (xR (x1_ rfl rfl ?_))))))))
    rw [right_pre_no (by clear ih; rw [preR, hko]; unfold headOk; simp_all [numB] <;> omega)]
    exact ⟨rfl, hs, hU⟩
   refine lP 2 tK rfl ?_
   refine l_split 67 _ rfl (fun c19 => ?_) (fun c19 => ?_)
   ·refine lP 1 tK rfl ?_
    refine lC (oD tK (h1.cell 1 _ rfl) rfl rfl rfl rfl rfl ?_)
    refine lC (oK fo78 rfl rfl rfl (isWord_spec _ t.name nm) ?_)
    rintro _ _ ⟨rfl, rfl⟩
    refine lP 3 tK rfl (q1 ?_)
    refine c_ifB _ rfl (fun c20 => ?_) (fun c20 => ?_)
    ·refine q0 (lP 1 tK rfl (q1 (cR (xR (x1_ rfl rfl ?_)))))
     rw [right_pre_no (by clear ih; rw [preR, hko]; unfold headOk; simp_all [numB] <;> omega)]
     exact ⟨rfl, hs, hU⟩
    refine cK (xS ?_)
    refine c_cut (X := St) (fun li0 => [(0, .map (some b)), (4, .pointer (some ⟨b1, 0, none⟩))]) (fun li0 w' => runR (t.kids.map rightF) (kidRow t.op) 0 li0 = rightF t row l ∧ OM (κ := Int) (fun x : Bool => Value.bool x) B M w' b li0 ∧ b1 ≠ b ∧ At M w' b1 0 [.int .u8 t.op, .string t.name, .int .i64 t.n, kv] ∧ Sl M w' kv t.kids ∧ Low M w' ∧ UpdB b w w' ∧ B ≤ w'.heap.size) ?_ ?_
    ·refine q0 (lP 2 tK rfl ?_)
     refine l_split 75 _ rfl (fun c21 => ?_) (fun c21 => ?_)
     ·refine lP 2 tK rfl ?_
      refine lC (oD tK (h1.cell 2 _ rfl) rfl rfl rfl rfl rfl ?_)
      refine lP 1 tK rfl ?_
      have hpre : preR t.op row t.kids.length t.name t.n = true := by clear ih; rw [preR, hko]; unfold headOk; simp_all [numB] <;> omega
      refine lC (oK fo104 rfl rfl rfl (meet_spec M _ B b l t.n row hs Lw) ?_)
      rintro _ w3 ⟨rfl, hw3, uw3⟩
      have sw3 := uw3.sp hs.inM Lw hs.ge
      have frw3 := uw3.upd.2
      replace hU := hU.trans uw3
      replace ht := Rep.sp ht sw3
      replace hk := hk.sp sw3
      replace h1 := h1.sp sw3
      replace Lw := sw3.low
      replace hB := sw3.z hB
      replace hs := hw3
      refine lP 2 tK rfl (q1 ?_)
      refine c_ifB _ rfl (fun c22 => ?_) (fun c22 => ?_)
      ·refine q0 (lP 1 tK rfl (q1 (cR (xR (x1_ rfl rfl ?_)))))
       rw [right_meet_no hpre (by clear ih; simp_all) c22]
       exact ⟨rfl, hs, hU⟩
      refine cK ?_
      have hrun := (right_meet_yes (row := row) (s := l) hpre (by clear ih; simp_all) (by clear ih; simp_all)).symm
      exact x_cut ((meetS l t.n row).2) (s2 rfl rfl) ⟨hrun, hs, fun e => h1.nM (e ▸ hs.inM), h1, hk, Lw, hU, hB⟩
     refine lP 7 tK rfl (q1 (c_ifF rfl (cK ?_)))
     have hpre : preR t.op row t.kids.length t.name t.n = true := by clear ih; rw [preR, hko]; unfold headOk; simp_all [numB] <;> omega
     have hrun := (right_plain (row := row) (s := l) hpre (by clear ih; simp_all)).symm
     exact x_cut (l) (s2 rfl rfl) ⟨hrun, hs, fun e => h1.nM (e ▸ hs.inM), h1, hk, Lw, hU, hB⟩
    rintro li0 w2 ⟨hrun, hs, hne, h1, hk, Lw, hU, hB⟩
    refine cS (q0 (lP 1 tK rfl ?_))
    refine lC (oD tK (h1.cell 3 _ rfl) rfl rfl rfl rfl rfl ?_)
    refine lC (o_len tK hk rfl rfl rfl rfl rfl ?_)
    refine lP 1 tK rfl (q1 (cB ?_))
    refine c_loop2 (X := Nat) (Y := St) (fun i li => [(0, .map (some b)), (4, .pointer (some ⟨b1, 0, none⟩)), (84, kv), (85, .int .i64 (t.kids.length : Int)), (86, .int .i64 (i : Nat))]) (fun i li w' => i ≤ t.kids.length ∧ runR ((t.kids.drop i).map rightF) (kidRow t.op) i li = rightF t row l ∧ OM (κ := Int) (fun x : Bool => Value.bool x) B M w' b li ∧ b1 ≠ b ∧ At M w' b1 0 [.int .u8 t.op, .string t.name, .int .i64 t.n, kv] ∧ Sl M w' kv t.kids ∧ Low M w' ∧ UpdB b w w' ∧ B ≤ w'.heap.size) (fun i li => t.kids.length - i) (0) (li0) (s5 rfl rfl rfl rfl rfl) ?_ ?_
    ·exact ⟨Nat.zero_le _, by simpa using hrun, hs, hne, h1, hk, Lw, hU, hB⟩
    rintro i li w4 ⟨hi, hrun, hs, hne, h1, hk, Lw, hU, hB⟩
    refine q0 (lP 1 tK rfl (q1 (cS ?_)))
    refine cP _ rfl (fun c23 => ?_) (fun c23 => ?_)
    ·refine cK (xS (cS (cB (q0 (lP 1 tK rfl ?_)))))
     have hik : i < t.kids.length := by omega
     refine lC (o_ixS tK hk (gE hik) rfl rfl rfl rfl rfl rfl rfl rfl rfl ?_)
     intro ebx eox eux hyx hX
     obtain ⟨kvx, rfl, opx, nmx, n64x, hkx⟩ := tO hyx
     replace hX : At M w4 ebx eox [.int .u8 t.kids[i].op, .string t.kids[i].name, .int .i64 t.kids[i].n, kvx] := hX
     refine lC (oL tK (fun j v hv => hX.cell j v hv) rfl rfl rfl rfl rfl rfl ?_)
     refine lC (o_new tK rfl rfl rfl ?_)
     intro b5 w5 qb5 ew5 hb5
     have nb5 := nO Lw qb5
     refine lP 1 tK rfl ?_
     refine lC (o_st tK hb5 rfl rfl rfl rfl (Rep.one hyx) rfl rfl ?_)
     intro w6 h5 uw6 bew6
     have ew6 : Ext w4 w6 := ew5.trans (bew6 _ (lQ qb5.symm))
     replace hU := hU.trans (UpdB.Y ew6 hs.lt)
     replace hs := hs.Y Lw hB ew6
     replace h1 := h1.Y ew6
     replace hk := hk.Y ew6
     replace hyx := Rep.Y hyx ew6
     replace hkx := hkx.Y ew6
     replace hX := hX.Y ew6
     replace Lw := Lw.Y ew6
     replace hB := ew6.z hB
     replace h5 : Box w6 b5 29 [.int .u8 t.kids[i].op, .string t.kids[i].name, .int .i64 t.kids[i].n, kvx] := h5
     replace h5 := h5.at nb5
     refine q1 (q0 (lP 1 tK rfl ?_))
     refine lC (oL tK (fun j v hv => h5.cell j v hv) rfl rfl rfl rfl rfl rfl ?_)
     refine lP 1 tK rfl ?_
     refine lC (oD tK (h1.cell 0 _ rfl) rfl rfl rfl rfl rfl ?_)
     refine lP 2 tK rfl ?_
     refine lS 96 _ rfl (fun c24 => ?_) (fun c24 => ?_)
     ·refine lP 13 tK rfl ?_
      have hflag : kidRow t.op i = true := by clear ih; simp_all [kidRow]
      refine lC (oK fo94 rfl rfl rfl (ih _ (gM hik) true li M _ _ B b hyx hs Lw) ?_)
      rintro _ w7 ⟨rfl, hw7, uw7⟩
      have sw7 := uw7.sp hs.inM Lw hs.ge
      have frw7 := uw7.upd.2
      replace hU := hU.trans uw7
      replace h1 := h1.sp sw7
      replace hk := hk.sp sw7
      replace hyx := Rep.sp hyx sw7
      replace hkx := hkx.sp sw7
      replace hX := hX.sp sw7
      replace h5 := h5.sp sw7
      replace Lw := sw7.low
      replace hB := sw7.z hB
      replace hs := hw7
      refine lP 1 tK rfl (q1 ?_)
      refine c_ifB _ rfl (fun c25 => ?_) (fun c25 => ?_)
      ·refine q0 (lP 1 tK rfl (q1 (cR (xB (xR (xR (xB (xR (x1_ rfl rfl ?_)))))))))
       rw [rS hik, hflag] at hrun
       simp only [c25, cond_false] at hrun
       rw [← hrun]
       exact ⟨rfl, hs, hU⟩
      refine cK (x_blk (xS (cG ?_)))
      refine lC (o_ai rfl rfl rfl (by omega) rfl rfl ?_)
      refine lP 1 tK rfl (lN ?_)
      exact xN (i + 1) ((rightF t.kids[i] true li).2) (s5 rfl rfl rfl rfl rfl) ⟨by omega, by rw [rS hik, hflag] at hrun; simpa [c25] using hrun, hs, hne, h1, hk, Lw, hU, hB⟩ (by omega)
     refine lP 1 tK rfl ?_
     refine lC (oD tK (h1.cell 0 _ rfl) rfl rfl rfl rfl rfl ?_)
     refine lP 3 tK rfl ?_
     refine lS 101 _ rfl (fun c26 => ?_) (fun c26 => ?_)
     ·refine lP 8 tK rfl ?_
      have hflag : kidRow t.op i = true := by clear ih; simp_all [kidRow]
      refine lC (oK fo94 rfl rfl rfl (ih _ (gM hik) true li M _ _ B b hyx hs Lw) ?_)
      rintro _ w8 ⟨rfl, hw8, uw8⟩
      have sw8 := uw8.sp hs.inM Lw hs.ge
      have frw8 := uw8.upd.2
      replace hU := hU.trans uw8
      replace h1 := h1.sp sw8
      replace hk := hk.sp sw8
      replace hyx := Rep.sp hyx sw8
      replace hkx := hkx.sp sw8
      replace hX := hX.sp sw8
      replace h5 := h5.sp sw8
      replace Lw := sw8.low
      replace hB := sw8.z hB
      replace hs := hw8
      refine lP 1 tK rfl (q1 ?_)
      refine c_ifB _ rfl (fun c27 => ?_) (fun c27 => ?_)
      ·refine q0 (lP 1 tK rfl (q1 (cR (xB (xR (xR (xB (xR (x1_ rfl rfl ?_)))))))))
       rw [rS hik, hflag] at hrun
       simp only [c27, cond_false] at hrun
       rw [← hrun]
       exact ⟨rfl, hs, hU⟩
      refine cK (x_blk (xS (cG ?_)))
      refine lC (o_ai rfl rfl rfl (by omega) rfl rfl ?_)
      refine lP 1 tK rfl (lN ?_)
      exact xN (i + 1) ((rightF t.kids[i] true li).2) (s5 rfl rfl rfl rfl rfl) ⟨by omega, by rw [rS hik, hflag] at hrun; simpa [c27] using hrun, hs, hne, h1, hk, Lw, hU, hB⟩ (by omega)
     refine lP 1 tK rfl ?_
     refine lC (oD tK (h1.cell 0 _ rfl) rfl rfl rfl rfl rfl ?_)
     refine lP 2 tK rfl ?_
     refine lS 105 _ rfl (fun c28 => ?_) (fun c28 => ?_)
     ·refine lP 4 tK rfl ?_
      have hflag : kidRow t.op i = decide ((i : Int) = 1) := by clear ih; simp_all [kidRow]
      refine lC (oK fo94 rfl rfl rfl (ih _ (gM hik) (decide ((i : Int) = 1)) li M _ _ B b hyx hs Lw) ?_)
      rintro _ w9 ⟨rfl, hw9, uw9⟩
      have sw9 := uw9.sp hs.inM Lw hs.ge
      have frw9 := uw9.upd.2
      replace hU := hU.trans uw9
      replace h1 := h1.sp sw9
      replace hk := hk.sp sw9
      replace hyx := Rep.sp hyx sw9
      replace hkx := hkx.sp sw9
      replace hX := hX.sp sw9
      replace h5 := h5.sp sw9
      replace Lw := sw9.low
      replace hB := sw9.z hB
      replace hs := hw9
      refine lP 1 tK rfl (q1 ?_)
      refine c_ifB _ rfl (fun c29 => ?_) (fun c29 => ?_)
      ·refine q0 (lP 1 tK rfl (q1 (cR (xB (xR (xR (xB (xR (x1_ rfl rfl ?_)))))))))
       rw [rS hik, hflag] at hrun
       simp only [c29, cond_false] at hrun
       rw [← hrun]
       exact ⟨rfl, hs, hU⟩
      refine cK (x_blk (xS (cG ?_)))
      refine lC (o_ai rfl rfl rfl (by omega) rfl rfl ?_)
      refine lP 1 tK rfl (lN ?_)
      exact xN (i + 1) ((rightF t.kids[i] (decide ((i : Int) = 1)) li).2) (s5 rfl rfl rfl rfl rfl) ⟨by omega, by rw [rS hik, hflag] at hrun; simpa [c29] using hrun, hs, hne, h1, hk, Lw, hU, hB⟩ (by omega)
     refine lP 4 tK rfl ?_
     have hflag : kidRow t.op i = false := by clear ih; simp_all [kidRow]
     refine lC (oK fo94 rfl rfl rfl (ih _ (gM hik) false li M _ _ B b hyx hs Lw) ?_)
     rintro _ w10 ⟨rfl, hw10, uw10⟩
     have sw10 := uw10.sp hs.inM Lw hs.ge
     have frw10 := uw10.upd.2
     replace hU := hU.trans uw10
     replace h1 := h1.sp sw10
     replace hk := hk.sp sw10
     replace hyx := Rep.sp hyx sw10
     replace hkx := hkx.sp sw10
     replace hX := hX.sp sw10
     replace h5 := h5.sp sw10
     replace Lw := sw10.low
     replace hB := sw10.z hB
     replace hs := hw10
     refine lP 1 tK rfl (q1 ?_)
     refine c_ifB _ rfl (fun c30 => ?_) (fun c30 => ?_)
     ·refine q0 (lP 1 tK rfl (q1 (cR (xB (xR (xR (xB (xR (x1_ rfl rfl ?_)))))))))
      rw [rS hik, hflag] at hrun
      simp only [c30, cond_false] at hrun
      rw [← hrun]
      exact ⟨rfl, hs, hU⟩
     refine cK (x_blk (xS (cG ?_)))
     refine lC (o_ai rfl rfl rfl (by omega) rfl rfl ?_)
     refine lP 1 tK rfl (lN ?_)
     exact xN (i + 1) ((rightF t.kids[i] false li).2) (s5 rfl rfl rfl rfl rfl) ⟨by omega, by rw [rS hik, hflag] at hrun; simpa [c30] using hrun, hs, hne, h1, hk, Lw, hU, hB⟩ (by omega)
    refine c_exit (xE (xE (x_blkE (xS (q0 (lP 1 tK rfl (q1 (cR (x1_ rfl rfl ?_)))))))))
    rw [run_end (by omega)] at hrun
    rw [← hrun]
    exact ⟨rfl, hs, hU⟩
   refine lP 6 tK rfl (q1 (c_ifF rfl (cK (xS ?_))))
   refine c_cut (X := St) (fun li0 => [(0, .map (some b)), (4, .pointer (some ⟨b1, 0, none⟩))]) (fun li0 w' => runR (t.kids.map rightF) (kidRow t.op) 0 li0 = rightF t row l ∧ OM (κ := Int) (fun x : Bool => Value.bool x) B M w' b li0 ∧ b1 ≠ b ∧ At M w' b1 0 [.int .u8 t.op, .string t.name, .int .i64 t.n, kv] ∧ Sl M w' kv t.kids ∧ Low M w' ∧ UpdB b w w' ∧ B ≤ w'.heap.size) ?_ ?_
   ·refine q0 (lP 2 tK rfl ?_)
    refine l_split 75 _ rfl (fun c31 => ?_) (fun c31 => ?_)
    ·refine lP 2 tK rfl ?_
     refine lC (oD tK (h1.cell 2 _ rfl) rfl rfl rfl rfl rfl ?_)
     refine lP 1 tK rfl ?_
     have hpre : preR t.op row t.kids.length t.name t.n = true := by clear ih; rw [preR, hko]; unfold headOk; simp_all [numB] <;> omega
     refine lC (oK fo104 rfl rfl rfl (meet_spec M _ B b l t.n row hs Lw) ?_)
     rintro _ w12 ⟨rfl, hw12, uw12⟩
     have sw12 := uw12.sp hs.inM Lw hs.ge
     have frw12 := uw12.upd.2
     replace hU := hU.trans uw12
     replace ht := Rep.sp ht sw12
     replace hk := hk.sp sw12
     replace h1 := h1.sp sw12
     replace Lw := sw12.low
     replace hB := sw12.z hB
     replace hs := hw12
     refine lP 2 tK rfl (q1 ?_)
     refine c_ifB _ rfl (fun c32 => ?_) (fun c32 => ?_)
     ·refine q0 (lP 1 tK rfl (q1 (cR (xR (x1_ rfl rfl ?_)))))
      rw [right_meet_no hpre (by clear ih; simp_all) c32]
      exact ⟨rfl, hs, hU⟩
     refine cK ?_
     have hrun := (right_meet_yes (row := row) (s := l) hpre (by clear ih; simp_all) (by clear ih; simp_all)).symm
     exact x_cut ((meetS l t.n row).2) (s2 rfl rfl) ⟨hrun, hs, fun e => h1.nM (e ▸ hs.inM), h1, hk, Lw, hU, hB⟩
    refine lP 7 tK rfl (q1 (c_ifF rfl (cK ?_)))
    have hpre : preR t.op row t.kids.length t.name t.n = true := by clear ih; rw [preR, hko]; unfold headOk; simp_all [numB] <;> omega
    have hrun := (right_plain (row := row) (s := l) hpre (by clear ih; simp_all)).symm
    exact x_cut (l) (s2 rfl rfl) ⟨hrun, hs, fun e => h1.nM (e ▸ hs.inM), h1, hk, Lw, hU, hB⟩
   rintro li0 w11 ⟨hrun, hs, hne, h1, hk, Lw, hU, hB⟩
   refine cS (q0 (lP 1 tK rfl ?_))
   refine lC (oD tK (h1.cell 3 _ rfl) rfl rfl rfl rfl rfl ?_)
   refine lC (o_len tK hk rfl rfl rfl rfl rfl ?_)
   refine lP 1 tK rfl (q1 (cB ?_))
   refine c_loop2 (X := Nat) (Y := St) (fun i li => [(0, .map (some b)), (4, .pointer (some ⟨b1, 0, none⟩)), (84, kv), (85, .int .i64 (t.kids.length : Int)), (86, .int .i64 (i : Nat))]) (fun i li w' => i ≤ t.kids.length ∧ runR ((t.kids.drop i).map rightF) (kidRow t.op) i li = rightF t row l ∧ OM (κ := Int) (fun x : Bool => Value.bool x) B M w' b li ∧ b1 ≠ b ∧ At M w' b1 0 [.int .u8 t.op, .string t.name, .int .i64 t.n, kv] ∧ Sl M w' kv t.kids ∧ Low M w' ∧ UpdB b w w' ∧ B ≤ w'.heap.size) (fun i li => t.kids.length - i) (0) (li0) (s5 rfl rfl rfl rfl rfl) ?_ ?_
   ·exact ⟨Nat.zero_le _, by simpa using hrun, hs, hne, h1, hk, Lw, hU, hB⟩
   rintro i li w13 ⟨hi, hrun, hs, hne, h1, hk, Lw, hU, hB⟩
   refine q0 (lP 1 tK rfl (q1 (cS ?_)))
   refine cP _ rfl (fun c33 => ?_) (fun c33 => ?_)
   ·refine cK (xS (cS (cB (q0 (lP 1 tK rfl ?_)))))
    have hik : i < t.kids.length := by omega
    refine lC (o_ixS tK hk (gE hik) rfl rfl rfl rfl rfl rfl rfl rfl rfl ?_)
    intro ebx eox eux hyx hX
    obtain ⟨kvx, rfl, opx, nmx, n64x, hkx⟩ := tO hyx
    replace hX : At M w13 ebx eox [.int .u8 t.kids[i].op, .string t.kids[i].name, .int .i64 t.kids[i].n, kvx] := hX
    refine lC (oL tK (fun j v hv => hX.cell j v hv) rfl rfl rfl rfl rfl rfl ?_)
    refine lC (o_new tK rfl rfl rfl ?_)
    intro b5 w14 qb5 ew14 hb5
    have nb5 := nO Lw qb5
    refine lP 1 tK rfl ?_
    refine lC (o_st tK hb5 rfl rfl rfl rfl (Rep.one hyx) rfl rfl ?_)
    intro w15 h5 uw15 bew15
    have ew15 : Ext w13 w15 := ew14.trans (bew15 _ (lQ qb5.symm))
    replace hU := hU.trans (UpdB.Y ew15 hs.lt)
    replace hs := hs.Y Lw hB ew15
    replace h1 := h1.Y ew15
    replace hk := hk.Y ew15
    replace hyx := Rep.Y hyx ew15
    replace hkx := hkx.Y ew15
    replace hX := hX.Y ew15
    replace Lw := Lw.Y ew15
    replace hB := ew15.z hB
    replace h5 : Box w15 b5 29 [.int .u8 t.kids[i].op, .string t.kids[i].name, .int .i64 t.kids[i].n, kvx] := h5
    replace h5 := h5.at nb5
    refine q1 (q0 (lP 1 tK rfl ?_))
    refine lC (oL tK (fun j v hv => h5.cell j v hv) rfl rfl rfl rfl rfl rfl ?_)
    refine lP 1 tK rfl ?_
    refine lC (oD tK (h1.cell 0 _ rfl) rfl rfl rfl rfl rfl ?_)
    refine lP 2 tK rfl ?_
    refine lS 96 _ rfl (fun c34 => ?_) (fun c34 => ?_)
    ·refine lP 13 tK rfl ?_
     have hflag : kidRow t.op i = true := by clear ih; simp_all [kidRow]
     refine lC (oK fo94 rfl rfl rfl (ih _ (gM hik) true li M _ _ B b hyx hs Lw) ?_)
     rintro _ w16 ⟨rfl, hw16, uw16⟩
     have sw16 := uw16.sp hs.inM Lw hs.ge
     have frw16 := uw16.upd.2
     replace hU := hU.trans uw16
     replace h1 := h1.sp sw16
     replace hk := hk.sp sw16
     replace hyx := Rep.sp hyx sw16
     replace hkx := hkx.sp sw16
     replace hX := hX.sp sw16
     replace h5 := h5.sp sw16
     replace Lw := sw16.low
     replace hB := sw16.z hB
     replace hs := hw16
     refine lP 1 tK rfl (q1 ?_)
     refine c_ifB _ rfl (fun c35 => ?_) (fun c35 => ?_)
     ·refine q0 (lP 1 tK rfl (q1 (cR (xB (xR (xR (xB (xR (x1_ rfl rfl ?_)))))))))
      rw [rS hik, hflag] at hrun
      simp only [c35, cond_false] at hrun
      rw [← hrun]
      exact ⟨rfl, hs, hU⟩
     refine cK (x_blk (xS (cG ?_)))
     refine lC (o_ai rfl rfl rfl (by omega) rfl rfl ?_)
     refine lP 1 tK rfl (lN ?_)
     exact xN (i + 1) ((rightF t.kids[i] true li).2) (s5 rfl rfl rfl rfl rfl) ⟨by omega, by rw [rS hik, hflag] at hrun; simpa [c35] using hrun, hs, hne, h1, hk, Lw, hU, hB⟩ (by omega)
    refine lP 1 tK rfl ?_
    refine lC (oD tK (h1.cell 0 _ rfl) rfl rfl rfl rfl rfl ?_)
    refine lP 3 tK rfl ?_
    refine lS 101 _ rfl (fun c36 => ?_) (fun c36 => ?_)
    ·refine lP 8 tK rfl ?_
     have hflag : kidRow t.op i = true := by clear ih; simp_all [kidRow]
     refine lC (oK fo94 rfl rfl rfl (ih _ (gM hik) true li M _ _ B b hyx hs Lw) ?_)
     rintro _ w17 ⟨rfl, hw17, uw17⟩
     have sw17 := uw17.sp hs.inM Lw hs.ge
     have frw17 := uw17.upd.2
     replace hU := hU.trans uw17
     replace h1 := h1.sp sw17
     replace hk := hk.sp sw17
     replace hyx := Rep.sp hyx sw17
     replace hkx := hkx.sp sw17
     replace hX := hX.sp sw17
     replace h5 := h5.sp sw17
     replace Lw := sw17.low
     replace hB := sw17.z hB
     replace hs := hw17
     refine lP 1 tK rfl (q1 ?_)
     refine c_ifB _ rfl (fun c37 => ?_) (fun c37 => ?_)
     ·refine q0 (lP 1 tK rfl (q1 (cR (xB (xR (xR (xB (xR (x1_ rfl rfl ?_)))))))))
      rw [rS hik, hflag] at hrun
      simp only [c37, cond_false] at hrun
      rw [← hrun]
      exact ⟨rfl, hs, hU⟩
     refine cK (x_blk (xS (cG ?_)))
     refine lC (o_ai rfl rfl rfl (by omega) rfl rfl ?_)
     refine lP 1 tK rfl (lN ?_)
     exact xN (i + 1) ((rightF t.kids[i] true li).2) (s5 rfl rfl rfl rfl rfl) ⟨by omega, by rw [rS hik, hflag] at hrun; simpa [c37] using hrun, hs, hne, h1, hk, Lw, hU, hB⟩ (by omega)
    refine lP 1 tK rfl ?_
    refine lC (oD tK (h1.cell 0 _ rfl) rfl rfl rfl rfl rfl ?_)
    refine lP 2 tK rfl ?_
    refine lS 105 _ rfl (fun c38 => ?_) (fun c38 => ?_)
    ·refine lP 4 tK rfl ?_
     have hflag : kidRow t.op i = decide ((i : Int) = 1) := by clear ih; simp_all [kidRow]
     refine lC (oK fo94 rfl rfl rfl (ih _ (gM hik) (decide ((i : Int) = 1)) li M _ _ B b hyx hs Lw) ?_)
     rintro _ w18 ⟨rfl, hw18, uw18⟩
     have sw18 := uw18.sp hs.inM Lw hs.ge
     have frw18 := uw18.upd.2
     replace hU := hU.trans uw18
     replace h1 := h1.sp sw18
     replace hk := hk.sp sw18
     replace hyx := Rep.sp hyx sw18
     replace hkx := hkx.sp sw18
     replace hX := hX.sp sw18
     replace h5 := h5.sp sw18
     replace Lw := sw18.low
     replace hB := sw18.z hB
     replace hs := hw18
     refine lP 1 tK rfl (q1 ?_)
     refine c_ifB _ rfl (fun c39 => ?_) (fun c39 => ?_)
     ·refine q0 (lP 1 tK rfl (q1 (cR (xB (xR (xR (xB (xR (x1_ rfl rfl ?_)))))))))
      rw [rS hik, hflag] at hrun
      simp only [c39, cond_false] at hrun
      rw [← hrun]
      exact ⟨rfl, hs, hU⟩
     refine cK (x_blk (xS (cG ?_)))
     refine lC (o_ai rfl rfl rfl (by omega) rfl rfl ?_)
     refine lP 1 tK rfl (lN ?_)
     exact xN (i + 1) ((rightF t.kids[i] (decide ((i : Int) = 1)) li).2) (s5 rfl rfl rfl rfl rfl) ⟨by omega, by rw [rS hik, hflag] at hrun; simpa [c39] using hrun, hs, hne, h1, hk, Lw, hU, hB⟩ (by omega)
    refine lP 4 tK rfl ?_
    have hflag : kidRow t.op i = false := by clear ih; simp_all [kidRow]
    refine lC (oK fo94 rfl rfl rfl (ih _ (gM hik) false li M _ _ B b hyx hs Lw) ?_)
    rintro _ w19 ⟨rfl, hw19, uw19⟩
    have sw19 := uw19.sp hs.inM Lw hs.ge
    have frw19 := uw19.upd.2
    replace hU := hU.trans uw19
    replace h1 := h1.sp sw19
    replace hk := hk.sp sw19
    replace hyx := Rep.sp hyx sw19
    replace hkx := hkx.sp sw19
    replace hX := hX.sp sw19
    replace h5 := h5.sp sw19
    replace Lw := sw19.low
    replace hB := sw19.z hB
    replace hs := hw19
    refine lP 1 tK rfl (q1 ?_)
    refine c_ifB _ rfl (fun c40 => ?_) (fun c40 => ?_)
    ·refine q0 (lP 1 tK rfl (q1 (cR (xB (xR (xR (xB (xR (x1_ rfl rfl ?_)))))))))
     rw [rS hik, hflag] at hrun
     simp only [c40, cond_false] at hrun
     rw [← hrun]
     exact ⟨rfl, hs, hU⟩
    refine cK (x_blk (xS (cG ?_)))
    refine lC (o_ai rfl rfl rfl (by omega) rfl rfl ?_)
    refine lP 1 tK rfl (lN ?_)
    exact xN (i + 1) ((rightF t.kids[i] false li).2) (s5 rfl rfl rfl rfl rfl) ⟨by omega, by rw [rS hik, hflag] at hrun; simpa [c40] using hrun, hs, hne, h1, hk, Lw, hU, hB⟩ (by omega)
   refine c_exit (xE (xE (x_blkE (xS (q0 (lP 1 tK rfl (q1 (cR (x1_ rfl rfl ?_)))))))))
   rw [run_end (by omega)] at hrun
   rw [← hrun]
   exact ⟨rfl, hs, hU⟩
  refine lP 7 tK rfl ?_
  refine l_split 67 _ rfl (fun c41 => ?_) (fun c41 => ?_)
  ·refine lP 1 tK rfl ?_
   refine lC (oD tK (h1.cell 1 _ rfl) rfl rfl rfl rfl rfl ?_)
   refine lC (oK fo78 rfl rfl rfl (isWord_spec _ t.name nm) ?_)
   rintro _ _ ⟨rfl, rfl⟩
   refine lP 3 tK rfl (q1 ?_)
   refine c_ifB _ rfl (fun c42 => ?_) (fun c42 => ?_)
   ·refine q0 (lP 1 tK rfl (q1 (cR (xR (x1_ rfl rfl ?_)))))
    rw [right_pre_no (by clear ih; rw [preR, hko]; unfold headOk; simp_all [numB] <;> omega)]
    exact ⟨rfl, hs, hU⟩
   refine cK (xS ?_)
   refine c_cut (X := St) (fun li0 => [(0, .map (some b)), (4, .pointer (some ⟨b1, 0, none⟩))]) (fun li0 w' => runR (t.kids.map rightF) (kidRow t.op) 0 li0 = rightF t row l ∧ OM (κ := Int) (fun x : Bool => Value.bool x) B M w' b li0 ∧ b1 ≠ b ∧ At M w' b1 0 [.int .u8 t.op, .string t.name, .int .i64 t.n, kv] ∧ Sl M w' kv t.kids ∧ Low M w' ∧ UpdB b w w' ∧ B ≤ w'.heap.size) ?_ ?_
   ·refine q0 (lP 2 tK rfl ?_)
    refine l_split 75 _ rfl (fun c43 => ?_) (fun c43 => ?_)
    ·refine lP 2 tK rfl ?_
     refine lC (oD tK (h1.cell 2 _ rfl) rfl rfl rfl rfl rfl ?_)
     refine lP 1 tK rfl ?_
     have hpre : preR t.op row t.kids.length t.name t.n = true := by clear ih; rw [preR, hko]; unfold headOk; simp_all [numB] <;> omega
     refine lC (oK fo104 rfl rfl rfl (meet_spec M _ B b l t.n row hs Lw) ?_)
     rintro _ w21 ⟨rfl, hw21, uw21⟩
     have sw21 := uw21.sp hs.inM Lw hs.ge
     have frw21 := uw21.upd.2
     replace hU := hU.trans uw21
     replace ht := Rep.sp ht sw21
     replace hk := hk.sp sw21
     replace h1 := h1.sp sw21
     replace Lw := sw21.low
     replace hB := sw21.z hB
     replace hs := hw21
     refine lP 2 tK rfl (q1 ?_)
     refine c_ifB _ rfl (fun c44 => ?_) (fun c44 => ?_)
     ·refine q0 (lP 1 tK rfl (q1 (cR (xR (x1_ rfl rfl ?_)))))
      rw [right_meet_no hpre (by clear ih; simp_all) c44]
      exact ⟨rfl, hs, hU⟩
     refine cK ?_
     have hrun := (right_meet_yes (row := row) (s := l) hpre (by clear ih; simp_all) (by clear ih; simp_all)).symm
     exact x_cut ((meetS l t.n row).2) (s2 rfl rfl) ⟨hrun, hs, fun e => h1.nM (e ▸ hs.inM), h1, hk, Lw, hU, hB⟩
    refine lP 7 tK rfl (q1 (c_ifF rfl (cK ?_)))
    have hpre : preR t.op row t.kids.length t.name t.n = true := by clear ih; rw [preR, hko]; unfold headOk; simp_all [numB] <;> omega
    have hrun := (right_plain (row := row) (s := l) hpre (by clear ih; simp_all)).symm
    exact x_cut (l) (s2 rfl rfl) ⟨hrun, hs, fun e => h1.nM (e ▸ hs.inM), h1, hk, Lw, hU, hB⟩
   rintro li0 w20 ⟨hrun, hs, hne, h1, hk, Lw, hU, hB⟩
   refine cS (q0 (lP 1 tK rfl ?_))
   refine lC (oD tK (h1.cell 3 _ rfl) rfl rfl rfl rfl rfl ?_)
   refine lC (o_len tK hk rfl rfl rfl rfl rfl ?_)
   refine lP 1 tK rfl (q1 (cB ?_))
   refine c_loop2 (X := Nat) (Y := St) (fun i li => [(0, .map (some b)), (4, .pointer (some ⟨b1, 0, none⟩)), (84, kv), (85, .int .i64 (t.kids.length : Int)), (86, .int .i64 (i : Nat))]) (fun i li w' => i ≤ t.kids.length ∧ runR ((t.kids.drop i).map rightF) (kidRow t.op) i li = rightF t row l ∧ OM (κ := Int) (fun x : Bool => Value.bool x) B M w' b li ∧ b1 ≠ b ∧ At M w' b1 0 [.int .u8 t.op, .string t.name, .int .i64 t.n, kv] ∧ Sl M w' kv t.kids ∧ Low M w' ∧ UpdB b w w' ∧ B ≤ w'.heap.size) (fun i li => t.kids.length - i) (0) (li0) (s5 rfl rfl rfl rfl rfl) ?_ ?_
   ·exact ⟨Nat.zero_le _, by simpa using hrun, hs, hne, h1, hk, Lw, hU, hB⟩
   rintro i li w22 ⟨hi, hrun, hs, hne, h1, hk, Lw, hU, hB⟩
   refine q0 (lP 1 tK rfl (q1 (cS ?_)))
   refine cP _ rfl (fun c45 => ?_) (fun c45 => ?_)
   ·refine cK (xS (cS (cB (q0 (lP 1 tK rfl ?_)))))
    have hik : i < t.kids.length := by omega
    refine lC (o_ixS tK hk (gE hik) rfl rfl rfl rfl rfl rfl rfl rfl rfl ?_)
    intro ebx eox eux hyx hX
    obtain ⟨kvx, rfl, opx, nmx, n64x, hkx⟩ := tO hyx
    replace hX : At M w22 ebx eox [.int .u8 t.kids[i].op, .string t.kids[i].name, .int .i64 t.kids[i].n, kvx] := hX
    refine lC (oL tK (fun j v hv => hX.cell j v hv) rfl rfl rfl rfl rfl rfl ?_)
    refine lC (o_new tK rfl rfl rfl ?_)
    intro b5 w23 qb5 ew23 hb5
    have nb5 := nO Lw qb5
    refine lP 1 tK rfl ?_
    refine lC (o_st tK hb5 rfl rfl rfl rfl (Rep.one hyx) rfl rfl ?_)
    intro w24 h5 uw24 bew24
    have ew24 : Ext w22 w24 := ew23.trans (bew24 _ (lQ qb5.symm))
    replace hU := hU.trans (UpdB.Y ew24 hs.lt)
    replace hs := hs.Y Lw hB ew24
    replace h1 := h1.Y ew24
    replace hk := hk.Y ew24
    replace hyx := Rep.Y hyx ew24
    replace hkx := hkx.Y ew24
    replace hX := hX.Y ew24
    replace Lw := Lw.Y ew24
    replace hB := ew24.z hB
    replace h5 : Box w24 b5 29 [.int .u8 t.kids[i].op, .string t.kids[i].name, .int .i64 t.kids[i].n, kvx] := h5
    replace h5 := h5.at nb5
    refine q1 (q0 (lP 1 tK rfl ?_))
    refine lC (oL tK (fun j v hv => h5.cell j v hv) rfl rfl rfl rfl rfl rfl ?_)
    refine lP 1 tK rfl ?_
    refine lC (oD tK (h1.cell 0 _ rfl) rfl rfl rfl rfl rfl ?_)
    refine lP 2 tK rfl ?_
    refine lS 96 _ rfl (fun c46 => ?_) (fun c46 => ?_)
    ·refine lP 13 tK rfl ?_
     have hflag : kidRow t.op i = true := by clear ih; simp_all [kidRow]
     refine lC (oK fo94 rfl rfl rfl (ih _ (gM hik) true li M _ _ B b hyx hs Lw) ?_)
     rintro _ w25 ⟨rfl, hw25, uw25⟩
     have sw25 := uw25.sp hs.inM Lw hs.ge
     have frw25 := uw25.upd.2
     replace hU := hU.trans uw25
     replace h1 := h1.sp sw25
     replace hk := hk.sp sw25
     replace hyx := Rep.sp hyx sw25
     replace hkx := hkx.sp sw25
     replace hX := hX.sp sw25
     replace h5 := h5.sp sw25
     replace Lw := sw25.low
     replace hB := sw25.z hB
     replace hs := hw25
     refine lP 1 tK rfl (q1 ?_)
     refine c_ifB _ rfl (fun c47 => ?_) (fun c47 => ?_)
     ·refine q0 (lP 1 tK rfl (q1 (cR (xB (xR (xR (xB (xR (x1_ rfl rfl ?_)))))))))
      rw [rS hik, hflag] at hrun
      simp only [c47, cond_false] at hrun
      rw [← hrun]
      exact ⟨rfl, hs, hU⟩
     refine cK (x_blk (xS (cG ?_)))
     refine lC (o_ai rfl rfl rfl (by omega) rfl rfl ?_)
     refine lP 1 tK rfl (lN ?_)
     exact xN (i + 1) ((rightF t.kids[i] true li).2) (s5 rfl rfl rfl rfl rfl) ⟨by omega, by rw [rS hik, hflag] at hrun; simpa [c47] using hrun, hs, hne, h1, hk, Lw, hU, hB⟩ (by omega)
    refine lP 1 tK rfl ?_
    refine lC (oD tK (h1.cell 0 _ rfl) rfl rfl rfl rfl rfl ?_)
    refine lP 3 tK rfl ?_
    refine lS 101 _ rfl (fun c48 => ?_) (fun c48 => ?_)
    ·refine lP 8 tK rfl ?_
     have hflag : kidRow t.op i = true := by clear ih; simp_all [kidRow]
     refine lC (oK fo94 rfl rfl rfl (ih _ (gM hik) true li M _ _ B b hyx hs Lw) ?_)
     rintro _ w26 ⟨rfl, hw26, uw26⟩
     have sw26 := uw26.sp hs.inM Lw hs.ge
     have frw26 := uw26.upd.2
     replace hU := hU.trans uw26
     replace h1 := h1.sp sw26
     replace hk := hk.sp sw26
     replace hyx := Rep.sp hyx sw26
     replace hkx := hkx.sp sw26
     replace hX := hX.sp sw26
     replace h5 := h5.sp sw26
     replace Lw := sw26.low
     replace hB := sw26.z hB
     replace hs := hw26
     refine lP 1 tK rfl (q1 ?_)
     refine c_ifB _ rfl (fun c49 => ?_) (fun c49 => ?_)
     ·refine q0 (lP 1 tK rfl (q1 (cR (xB (xR (xR (xB (xR (x1_ rfl rfl ?_)))))))))
      rw [rS hik, hflag] at hrun
      simp only [c49, cond_false] at hrun
      rw [← hrun]
      exact ⟨rfl, hs, hU⟩
     refine cK (x_blk (xS (cG ?_)))
     refine lC (o_ai rfl rfl rfl (by omega) rfl rfl ?_)
     refine lP 1 tK rfl (lN ?_)
     exact xN (i + 1) ((rightF t.kids[i] true li).2) (s5 rfl rfl rfl rfl rfl) ⟨by omega, by rw [rS hik, hflag] at hrun; simpa [c49] using hrun, hs, hne, h1, hk, Lw, hU, hB⟩ (by omega)
    refine lP 1 tK rfl ?_
    refine lC (oD tK (h1.cell 0 _ rfl) rfl rfl rfl rfl rfl ?_)
    refine lP 2 tK rfl ?_
    refine lS 105 _ rfl (fun c50 => ?_) (fun c50 => ?_)
    ·refine lP 4 tK rfl ?_
     have hflag : kidRow t.op i = decide ((i : Int) = 1) := by clear ih; simp_all [kidRow]
     refine lC (oK fo94 rfl rfl rfl (ih _ (gM hik) (decide ((i : Int) = 1)) li M _ _ B b hyx hs Lw) ?_)
     rintro _ w27 ⟨rfl, hw27, uw27⟩
     have sw27 := uw27.sp hs.inM Lw hs.ge
     have frw27 := uw27.upd.2
     replace hU := hU.trans uw27
     replace h1 := h1.sp sw27
     replace hk := hk.sp sw27
     replace hyx := Rep.sp hyx sw27
     replace hkx := hkx.sp sw27
     replace hX := hX.sp sw27
     replace h5 := h5.sp sw27
     replace Lw := sw27.low
     replace hB := sw27.z hB
     replace hs := hw27
     refine lP 1 tK rfl (q1 ?_)
     refine c_ifB _ rfl (fun c51 => ?_) (fun c51 => ?_)
     ·refine q0 (lP 1 tK rfl (q1 (cR (xB (xR (xR (xB (xR (x1_ rfl rfl ?_)))))))))
      rw [rS hik, hflag] at hrun
      simp only [c51, cond_false] at hrun
      rw [← hrun]
      exact ⟨rfl, hs, hU⟩
     refine cK (x_blk (xS (cG ?_)))
     refine lC (o_ai rfl rfl rfl (by omega) rfl rfl ?_)
     refine lP 1 tK rfl (lN ?_)
     exact xN (i + 1) ((rightF t.kids[i] (decide ((i : Int) = 1)) li).2) (s5 rfl rfl rfl rfl rfl) ⟨by omega, by rw [rS hik, hflag] at hrun; simpa [c51] using hrun, hs, hne, h1, hk, Lw, hU, hB⟩ (by omega)
    refine lP 4 tK rfl ?_
    have hflag : kidRow t.op i = false := by clear ih; simp_all [kidRow]
    refine lC (oK fo94 rfl rfl rfl (ih _ (gM hik) false li M _ _ B b hyx hs Lw) ?_)
    rintro _ w28 ⟨rfl, hw28, uw28⟩
    have sw28 := uw28.sp hs.inM Lw hs.ge
    have frw28 := uw28.upd.2
    replace hU := hU.trans uw28
    replace h1 := h1.sp sw28
    replace hk := hk.sp sw28
    replace hyx := Rep.sp hyx sw28
    replace hkx := hkx.sp sw28
    replace hX := hX.sp sw28
    replace h5 := h5.sp sw28
    replace Lw := sw28.low
    replace hB := sw28.z hB
    replace hs := hw28
    refine lP 1 tK rfl (q1 ?_)
    refine c_ifB _ rfl (fun c52 => ?_) (fun c52 => ?_)
    ·refine q0 (lP 1 tK rfl (q1 (cR (xB (xR (xR (xB (xR (x1_ rfl rfl ?_)))))))))
     rw [rS hik, hflag] at hrun
     simp only [c52, cond_false] at hrun
     rw [← hrun]
     exact ⟨rfl, hs, hU⟩
    refine cK (x_blk (xS (cG ?_)))
    refine lC (o_ai rfl rfl rfl (by omega) rfl rfl ?_)
    refine lP 1 tK rfl (lN ?_)
    exact xN (i + 1) ((rightF t.kids[i] false li).2) (s5 rfl rfl rfl rfl rfl) ⟨by omega, by rw [rS hik, hflag] at hrun; simpa [c52] using hrun, hs, hne, h1, hk, Lw, hU, hB⟩ (by omega)
   refine c_exit (xE (xE (x_blkE (xS (q0 (lP 1 tK rfl (q1 (cR (x1_ rfl rfl ?_)))))))))
   rw [run_end (by omega)] at hrun
   rw [← hrun]
   exact ⟨rfl, hs, hU⟩
  refine lP 6 tK rfl (q1 (c_ifF rfl (cK (xS ?_))))
  refine c_cut (X := St) (fun li0 => [(0, .map (some b)), (4, .pointer (some ⟨b1, 0, none⟩))]) (fun li0 w' => runR (t.kids.map rightF) (kidRow t.op) 0 li0 = rightF t row l ∧ OM (κ := Int) (fun x : Bool => Value.bool x) B M w' b li0 ∧ b1 ≠ b ∧ At M w' b1 0 [.int .u8 t.op, .string t.name, .int .i64 t.n, kv] ∧ Sl M w' kv t.kids ∧ Low M w' ∧ UpdB b w w' ∧ B ≤ w'.heap.size) ?_ ?_
  ·refine q0 (lP 2 tK rfl ?_)
   refine l_split 75 _ rfl (fun c53 => ?_) (fun c53 => ?_)
   ·refine lP 2 tK rfl ?_
    refine lC (oD tK (h1.cell 2 _ rfl) rfl rfl rfl rfl rfl ?_)
    refine lP 1 tK rfl ?_
    have hpre : preR t.op row t.kids.length t.name t.n = true := by clear ih; rw [preR, hko]; unfold headOk; simp_all [numB] <;> omega
    refine lC (oK fo104 rfl rfl rfl (meet_spec M _ B b l t.n row hs Lw) ?_)
    rintro _ w30 ⟨rfl, hw30, uw30⟩
    have sw30 := uw30.sp hs.inM Lw hs.ge
    have frw30 := uw30.upd.2
    replace hU := hU.trans uw30
    replace ht := Rep.sp ht sw30
    replace hk := hk.sp sw30
    replace h1 := h1.sp sw30
    replace Lw := sw30.low
    replace hB := sw30.z hB
    replace hs := hw30
    refine lP 2 tK rfl (q1 ?_)
    refine c_ifB _ rfl (fun c54 => ?_) (fun c54 => ?_)
    ·refine q0 (lP 1 tK rfl (q1 (cR (xR (x1_ rfl rfl ?_)))))
     rw [right_meet_no hpre (by clear ih; simp_all) c54]
     exact ⟨rfl, hs, hU⟩
    refine cK ?_
    have hrun := (right_meet_yes (row := row) (s := l) hpre (by clear ih; simp_all) (by clear ih; simp_all)).symm
    exact x_cut ((meetS l t.n row).2) (s2 rfl rfl) ⟨hrun, hs, fun e => h1.nM (e ▸ hs.inM), h1, hk, Lw, hU, hB⟩
   refine lP 7 tK rfl (q1 (c_ifF rfl (cK ?_)))
   have hpre : preR t.op row t.kids.length t.name t.n = true := by clear ih; rw [preR, hko]; unfold headOk; simp_all [numB] <;> omega
   have hrun := (right_plain (row := row) (s := l) hpre (by clear ih; simp_all)).symm
   exact x_cut (l) (s2 rfl rfl) ⟨hrun, hs, fun e => h1.nM (e ▸ hs.inM), h1, hk, Lw, hU, hB⟩
  rintro li0 w29 ⟨hrun, hs, hne, h1, hk, Lw, hU, hB⟩
  refine cS (q0 (lP 1 tK rfl ?_))
  refine lC (oD tK (h1.cell 3 _ rfl) rfl rfl rfl rfl rfl ?_)
  refine lC (o_len tK hk rfl rfl rfl rfl rfl ?_)
  refine lP 1 tK rfl (q1 (cB ?_))
  refine c_loop2 (X := Nat) (Y := St) (fun i li => [(0, .map (some b)), (4, .pointer (some ⟨b1, 0, none⟩)), (84, kv), (85, .int .i64 (t.kids.length : Int)), (86, .int .i64 (i : Nat))]) (fun i li w' => i ≤ t.kids.length ∧ runR ((t.kids.drop i).map rightF) (kidRow t.op) i li = rightF t row l ∧ OM (κ := Int) (fun x : Bool => Value.bool x) B M w' b li ∧ b1 ≠ b ∧ At M w' b1 0 [.int .u8 t.op, .string t.name, .int .i64 t.n, kv] ∧ Sl M w' kv t.kids ∧ Low M w' ∧ UpdB b w w' ∧ B ≤ w'.heap.size) (fun i li => t.kids.length - i) (0) (li0) (s5 rfl rfl rfl rfl rfl) ?_ ?_
  ·exact ⟨Nat.zero_le _, by simpa using hrun, hs, hne, h1, hk, Lw, hU, hB⟩
  rintro i li w31 ⟨hi, hrun, hs, hne, h1, hk, Lw, hU, hB⟩
  refine q0 (lP 1 tK rfl (q1 (cS ?_)))
  refine cP _ rfl (fun c55 => ?_) (fun c55 => ?_)
  ·refine cK (xS (cS (cB (q0 (lP 1 tK rfl ?_)))))
   have hik : i < t.kids.length := by omega
   refine lC (o_ixS tK hk (gE hik) rfl rfl rfl rfl rfl rfl rfl rfl rfl ?_)
   intro ebx eox eux hyx hX
   obtain ⟨kvx, rfl, opx, nmx, n64x, hkx⟩ := tO hyx
   replace hX : At M w31 ebx eox [.int .u8 t.kids[i].op, .string t.kids[i].name, .int .i64 t.kids[i].n, kvx] := hX
   refine lC (oL tK (fun j v hv => hX.cell j v hv) rfl rfl rfl rfl rfl rfl ?_)
   refine lC (o_new tK rfl rfl rfl ?_)
   intro b5 w32 qb5 ew32 hb5
   have nb5 := nO Lw qb5
   refine lP 1 tK rfl ?_
   refine lC (o_st tK hb5 rfl rfl rfl rfl (Rep.one hyx) rfl rfl ?_)
   intro w33 h5 uw33 bew33
   have ew33 : Ext w31 w33 := ew32.trans (bew33 _ (lQ qb5.symm))
   replace hU := hU.trans (UpdB.Y ew33 hs.lt)
   replace hs := hs.Y Lw hB ew33
   replace h1 := h1.Y ew33
   replace hk := hk.Y ew33
   replace hyx := Rep.Y hyx ew33
   replace hkx := hkx.Y ew33
   replace hX := hX.Y ew33
   replace Lw := Lw.Y ew33
   replace hB := ew33.z hB
   replace h5 : Box w33 b5 29 [.int .u8 t.kids[i].op, .string t.kids[i].name, .int .i64 t.kids[i].n, kvx] := h5
   replace h5 := h5.at nb5
   refine q1 (q0 (lP 1 tK rfl ?_))
   refine lC (oL tK (fun j v hv => h5.cell j v hv) rfl rfl rfl rfl rfl rfl ?_)
   refine lP 1 tK rfl ?_
   refine lC (oD tK (h1.cell 0 _ rfl) rfl rfl rfl rfl rfl ?_)
   refine lP 2 tK rfl ?_
   refine lS 96 _ rfl (fun c56 => ?_) (fun c56 => ?_)
   ·refine lP 13 tK rfl ?_
    have hflag : kidRow t.op i = true := by clear ih; simp_all [kidRow]
    refine lC (oK fo94 rfl rfl rfl (ih _ (gM hik) true li M _ _ B b hyx hs Lw) ?_)
    rintro _ w34 ⟨rfl, hw34, uw34⟩
    have sw34 := uw34.sp hs.inM Lw hs.ge
    have frw34 := uw34.upd.2
    replace hU := hU.trans uw34
    replace h1 := h1.sp sw34
    replace hk := hk.sp sw34
    replace hyx := Rep.sp hyx sw34
    replace hkx := hkx.sp sw34
    replace hX := hX.sp sw34
    replace h5 := h5.sp sw34
    replace Lw := sw34.low
    replace hB := sw34.z hB
    replace hs := hw34
    refine lP 1 tK rfl (q1 ?_)
    refine c_ifB _ rfl (fun c57 => ?_) (fun c57 => ?_)
    ·refine q0 (lP 1 tK rfl (q1 (cR (xB (xR (xR (xB (xR (x1_ rfl rfl ?_)))))))))
     rw [rS hik, hflag] at hrun
     simp only [c57, cond_false] at hrun
     rw [← hrun]
     exact ⟨rfl, hs, hU⟩
    refine cK (x_blk (xS (cG ?_)))
    refine lC (o_ai rfl rfl rfl (by omega) rfl rfl ?_)
    refine lP 1 tK rfl (lN ?_)
    exact xN (i + 1) ((rightF t.kids[i] true li).2) (s5 rfl rfl rfl rfl rfl) ⟨by omega, by rw [rS hik, hflag] at hrun; simpa [c57] using hrun, hs, hne, h1, hk, Lw, hU, hB⟩ (by omega)
   refine lP 1 tK rfl ?_
   refine lC (oD tK (h1.cell 0 _ rfl) rfl rfl rfl rfl rfl ?_)
   refine lP 3 tK rfl ?_
   refine lS 101 _ rfl (fun c58 => ?_) (fun c58 => ?_)
   ·refine lP 8 tK rfl ?_
    have hflag : kidRow t.op i = true := by clear ih; simp_all [kidRow]
    refine lC (oK fo94 rfl rfl rfl (ih _ (gM hik) true li M _ _ B b hyx hs Lw) ?_)
    rintro _ w35 ⟨rfl, hw35, uw35⟩
    have sw35 := uw35.sp hs.inM Lw hs.ge
    have frw35 := uw35.upd.2
    replace hU := hU.trans uw35
    replace h1 := h1.sp sw35
    replace hk := hk.sp sw35
    replace hyx := Rep.sp hyx sw35
    replace hkx := hkx.sp sw35
    replace hX := hX.sp sw35
    replace h5 := h5.sp sw35
    replace Lw := sw35.low
    replace hB := sw35.z hB
    replace hs := hw35
    refine lP 1 tK rfl (q1 ?_)
    refine c_ifB _ rfl (fun c59 => ?_) (fun c59 => ?_)
    ·refine q0 (lP 1 tK rfl (q1 (cR (xB (xR (xR (xB (xR (x1_ rfl rfl ?_)))))))))
     rw [rS hik, hflag] at hrun
     simp only [c59, cond_false] at hrun
     rw [← hrun]
     exact ⟨rfl, hs, hU⟩
    refine cK (x_blk (xS (cG ?_)))
    refine lC (o_ai rfl rfl rfl (by omega) rfl rfl ?_)
    refine lP 1 tK rfl (lN ?_)
    exact xN (i + 1) ((rightF t.kids[i] true li).2) (s5 rfl rfl rfl rfl rfl) ⟨by omega, by rw [rS hik, hflag] at hrun; simpa [c59] using hrun, hs, hne, h1, hk, Lw, hU, hB⟩ (by omega)
   refine lP 1 tK rfl ?_
   refine lC (oD tK (h1.cell 0 _ rfl) rfl rfl rfl rfl rfl ?_)
   refine lP 2 tK rfl ?_
   refine lS 105 _ rfl (fun c60 => ?_) (fun c60 => ?_)
   ·refine lP 4 tK rfl ?_
    have hflag : kidRow t.op i = decide ((i : Int) = 1) := by clear ih; simp_all [kidRow]
    refine lC (oK fo94 rfl rfl rfl (ih _ (gM hik) (decide ((i : Int) = 1)) li M _ _ B b hyx hs Lw) ?_)
    rintro _ w36 ⟨rfl, hw36, uw36⟩
    have sw36 := uw36.sp hs.inM Lw hs.ge
    have frw36 := uw36.upd.2
    replace hU := hU.trans uw36
    replace h1 := h1.sp sw36
    replace hk := hk.sp sw36
    replace hyx := Rep.sp hyx sw36
    replace hkx := hkx.sp sw36
    replace hX := hX.sp sw36
    replace h5 := h5.sp sw36
    replace Lw := sw36.low
    replace hB := sw36.z hB
    replace hs := hw36
    refine lP 1 tK rfl (q1 ?_)
    refine c_ifB _ rfl (fun c61 => ?_) (fun c61 => ?_)
    ·refine q0 (lP 1 tK rfl (q1 (cR (xB (xR (xR (xB (xR (x1_ rfl rfl ?_)))))))))
     rw [rS hik, hflag] at hrun
     simp only [c61, cond_false] at hrun
     rw [← hrun]
     exact ⟨rfl, hs, hU⟩
    refine cK (x_blk (xS (cG ?_)))
    refine lC (o_ai rfl rfl rfl (by omega) rfl rfl ?_)
    refine lP 1 tK rfl (lN ?_)
    exact xN (i + 1) ((rightF t.kids[i] (decide ((i : Int) = 1)) li).2) (s5 rfl rfl rfl rfl rfl) ⟨by omega, by rw [rS hik, hflag] at hrun; simpa [c61] using hrun, hs, hne, h1, hk, Lw, hU, hB⟩ (by omega)
   refine lP 4 tK rfl ?_
   have hflag : kidRow t.op i = false := by clear ih; simp_all [kidRow]
   refine lC (oK fo94 rfl rfl rfl (ih _ (gM hik) false li M _ _ B b hyx hs Lw) ?_)
   rintro _ w37 ⟨rfl, hw37, uw37⟩
   have sw37 := uw37.sp hs.inM Lw hs.ge
   have frw37 := uw37.upd.2
   replace hU := hU.trans uw37
   replace h1 := h1.sp sw37
   replace hk := hk.sp sw37
   replace hyx := Rep.sp hyx sw37
   replace hkx := hkx.sp sw37
   replace hX := hX.sp sw37
   replace h5 := h5.sp sw37
   replace Lw := sw37.low
   replace hB := sw37.z hB
   replace hs := hw37
   refine lP 1 tK rfl (q1 ?_)
   refine c_ifB _ rfl (fun c62 => ?_) (fun c62 => ?_)
   ·refine q0 (lP 1 tK rfl (q1 (cR (xB (xR (xR (xB (xR (x1_ rfl rfl ?_)))))))))
    rw [rS hik, hflag] at hrun
    simp only [c62, cond_false] at hrun
    rw [← hrun]
    exact ⟨rfl, hs, hU⟩
   refine cK (x_blk (xS (cG ?_)))
   refine lC (o_ai rfl rfl rfl (by omega) rfl rfl ?_)
   refine lP 1 tK rfl (lN ?_)
   exact xN (i + 1) ((rightF t.kids[i] false li).2) (s5 rfl rfl rfl rfl rfl) ⟨by omega, by rw [rS hik, hflag] at hrun; simpa [c62] using hrun, hs, hne, h1, hk, Lw, hU, hB⟩ (by omega)
  refine c_exit (xE (xE (x_blkE (xS (q0 (lP 1 tK rfl (q1 (cR (x1_ rfl rfl ?_)))))))))
  rw [run_end (by omega)] at hrun
  rw [← hrun]
  exact ⟨rfl, hs, hU⟩
 refine lP 5 tK rfl (q1 (c_ifF rfl (cK (xS (cS (q0 (lP 3 tK rfl ?_)))))))
 refine l_splitB 60 _ rfl (fun c63 => ?_) (fun c63 => ?_)
 ·refine lP 1 tK rfl ?_
  refine lC (oD tK (h1.cell 1 _ rfl) rfl rfl rfl rfl rfl ?_)
  refine lP 3 tK rfl ?_
  refine l_splitN 65 _ rfl (fun c64 => ?_) (fun c64 => ?_)
  ·refine lP 8 tK rfl (q1 (cI rfl (q0 (lP 1 tK rfl (q1 (cR (xR (x1_ rfl rfl ?_))))))))
   rw [right_pre_no (by clear ih; rw [preR, hko]; unfold headOk; simp_all [numB] <;> omega)]
   exact ⟨rfl, hs, hU⟩
  refine lP 2 tK rfl ?_
  refine l_split 67 _ rfl (fun c65 => ?_) (fun c65 => ?_)
  ·refine lP 1 tK rfl ?_
   refine lC (oD tK (h1.cell 1 _ rfl) rfl rfl rfl rfl rfl ?_)
   refine lC (oK fo78 rfl rfl rfl (isWord_spec _ t.name nm) ?_)
   rintro _ _ ⟨rfl, rfl⟩
   refine lP 3 tK rfl (q1 ?_)
   refine c_ifB _ rfl (fun c66 => ?_) (fun c66 => ?_)
   ·refine q0 (lP 1 tK rfl (q1 (cR (xR (x1_ rfl rfl ?_)))))
    rw [right_pre_no (by clear ih; rw [preR, hko]; unfold headOk; simp_all [numB] <;> omega)]
    exact ⟨rfl, hs, hU⟩
   refine cK (xS ?_)
   refine c_cut (X := St) (fun li0 => [(0, .map (some b)), (4, .pointer (some ⟨b1, 0, none⟩))]) (fun li0 w' => runR (t.kids.map rightF) (kidRow t.op) 0 li0 = rightF t row l ∧ OM (κ := Int) (fun x : Bool => Value.bool x) B M w' b li0 ∧ b1 ≠ b ∧ At M w' b1 0 [.int .u8 t.op, .string t.name, .int .i64 t.n, kv] ∧ Sl M w' kv t.kids ∧ Low M w' ∧ UpdB b w w' ∧ B ≤ w'.heap.size) ?_ ?_
   ·refine q0 (lP 2 tK rfl ?_)
    refine l_split 75 _ rfl (fun c67 => ?_) (fun c67 => ?_)
    ·refine lP 2 tK rfl ?_
     refine lC (oD tK (h1.cell 2 _ rfl) rfl rfl rfl rfl rfl ?_)
     refine lP 1 tK rfl ?_
     have hpre : preR t.op row t.kids.length t.name t.n = true := by clear ih; rw [preR, hko]; unfold headOk; simp_all [numB] <;> omega
     refine lC (oK fo104 rfl rfl rfl (meet_spec M _ B b l t.n row hs Lw) ?_)
     rintro _ w39 ⟨rfl, hw39, uw39⟩
     have sw39 := uw39.sp hs.inM Lw hs.ge
     have frw39 := uw39.upd.2
     replace hU := hU.trans uw39
     replace ht := Rep.sp ht sw39
     replace hk := hk.sp sw39
     replace h1 := h1.sp sw39
     replace Lw := sw39.low
     replace hB := sw39.z hB
     replace hs := hw39
     refine lP 2 tK rfl (q1 ?_)
     refine c_ifB _ rfl (fun c68 => ?_) (fun c68 => ?_)
     ·refine q0 (lP 1 tK rfl (q1 (cR (xR (x1_ rfl rfl ?_)))))
      rw [right_meet_no hpre (by clear ih; simp_all) c68]
      exact ⟨rfl, hs, hU⟩
     refine cK ?_
     have hrun := (right_meet_yes (row := row) (s := l) hpre (by clear ih; simp_all) (by clear ih; simp_all)).symm
     exact x_cut ((meetS l t.n row).2) (s2 rfl rfl) ⟨hrun, hs, fun e => h1.nM (e ▸ hs.inM), h1, hk, Lw, hU, hB⟩
    refine lP 7 tK rfl (q1 (c_ifF rfl (cK ?_)))
    have hpre : preR t.op row t.kids.length t.name t.n = true := by clear ih; rw [preR, hko]; unfold headOk; simp_all [numB] <;> omega
    have hrun := (right_plain (row := row) (s := l) hpre (by clear ih; simp_all)).symm
    exact x_cut (l) (s2 rfl rfl) ⟨hrun, hs, fun e => h1.nM (e ▸ hs.inM), h1, hk, Lw, hU, hB⟩
   rintro li0 w38 ⟨hrun, hs, hne, h1, hk, Lw, hU, hB⟩
   refine cS (q0 (lP 1 tK rfl ?_))
   refine lC (oD tK (h1.cell 3 _ rfl) rfl rfl rfl rfl rfl ?_)
   refine lC (o_len tK hk rfl rfl rfl rfl rfl ?_)
   refine lP 1 tK rfl (q1 (cB ?_))
   refine c_loop2 (X := Nat) (Y := St) (fun i li => [(0, .map (some b)), (4, .pointer (some ⟨b1, 0, none⟩)), (84, kv), (85, .int .i64 (t.kids.length : Int)), (86, .int .i64 (i : Nat))]) (fun i li w' => i ≤ t.kids.length ∧ runR ((t.kids.drop i).map rightF) (kidRow t.op) i li = rightF t row l ∧ OM (κ := Int) (fun x : Bool => Value.bool x) B M w' b li ∧ b1 ≠ b ∧ At M w' b1 0 [.int .u8 t.op, .string t.name, .int .i64 t.n, kv] ∧ Sl M w' kv t.kids ∧ Low M w' ∧ UpdB b w w' ∧ B ≤ w'.heap.size) (fun i li => t.kids.length - i) (0) (li0) (s5 rfl rfl rfl rfl rfl) ?_ ?_
   ·exact ⟨Nat.zero_le _, by simpa using hrun, hs, hne, h1, hk, Lw, hU, hB⟩
   rintro i li w40 ⟨hi, hrun, hs, hne, h1, hk, Lw, hU, hB⟩
   refine q0 (lP 1 tK rfl (q1 (cS ?_)))
   refine cP _ rfl (fun c69 => ?_) (fun c69 => ?_)
   ·refine cK (xS (cS (cB (q0 (lP 1 tK rfl ?_)))))
    have hik : i < t.kids.length := by omega
    refine lC (o_ixS tK hk (gE hik) rfl rfl rfl rfl rfl rfl rfl rfl rfl ?_)
    intro ebx eox eux hyx hX
    obtain ⟨kvx, rfl, opx, nmx, n64x, hkx⟩ := tO hyx
    replace hX : At M w40 ebx eox [.int .u8 t.kids[i].op, .string t.kids[i].name, .int .i64 t.kids[i].n, kvx] := hX
    refine lC (oL tK (fun j v hv => hX.cell j v hv) rfl rfl rfl rfl rfl rfl ?_)
    refine lC (o_new tK rfl rfl rfl ?_)
    intro b5 w41 qb5 ew41 hb5
    have nb5 := nO Lw qb5
    refine lP 1 tK rfl ?_
    refine lC (o_st tK hb5 rfl rfl rfl rfl (Rep.one hyx) rfl rfl ?_)
    intro w42 h5 uw42 bew42
    have ew42 : Ext w40 w42 := ew41.trans (bew42 _ (lQ qb5.symm))
    replace hU := hU.trans (UpdB.Y ew42 hs.lt)
    replace hs := hs.Y Lw hB ew42
    replace h1 := h1.Y ew42
    replace hk := hk.Y ew42
    replace hyx := Rep.Y hyx ew42
    replace hkx := hkx.Y ew42
    replace hX := hX.Y ew42
    replace Lw := Lw.Y ew42
    replace hB := ew42.z hB
    replace h5 : Box w42 b5 29 [.int .u8 t.kids[i].op, .string t.kids[i].name, .int .i64 t.kids[i].n, kvx] := h5
    replace h5 := h5.at nb5
    refine q1 (q0 (lP 1 tK rfl ?_))
    refine lC (oL tK (fun j v hv => h5.cell j v hv) rfl rfl rfl rfl rfl rfl ?_)
    refine lP 1 tK rfl ?_
    refine lC (oD tK (h1.cell 0 _ rfl) rfl rfl rfl rfl rfl ?_)
    refine lP 2 tK rfl ?_
    refine lS 96 _ rfl (fun c70 => ?_) (fun c70 => ?_)
    ·refine lP 13 tK rfl ?_
     have hflag : kidRow t.op i = true := by clear ih; simp_all [kidRow]
     refine lC (oK fo94 rfl rfl rfl (ih _ (gM hik) true li M _ _ B b hyx hs Lw) ?_)
     rintro _ w43 ⟨rfl, hw43, uw43⟩
     have sw43 := uw43.sp hs.inM Lw hs.ge
     have frw43 := uw43.upd.2
     replace hU := hU.trans uw43
     replace h1 := h1.sp sw43
     replace hk := hk.sp sw43
     replace hyx := Rep.sp hyx sw43
     replace hkx := hkx.sp sw43
     replace hX := hX.sp sw43
     replace h5 := h5.sp sw43
     replace Lw := sw43.low
     replace hB := sw43.z hB
     replace hs := hw43
     refine lP 1 tK rfl (q1 ?_)
     refine c_ifB _ rfl (fun c71 => ?_) (fun c71 => ?_)
     ·refine q0 (lP 1 tK rfl (q1 (cR (xB (xR (xR (xB (xR (x1_ rfl rfl ?_)))))))))
      rw [rS hik, hflag] at hrun
      simp only [c71, cond_false] at hrun
      rw [← hrun]
      exact ⟨rfl, hs, hU⟩
     refine cK (x_blk (xS (cG ?_)))
     refine lC (o_ai rfl rfl rfl (by omega) rfl rfl ?_)
     refine lP 1 tK rfl (lN ?_)
     exact xN (i + 1) ((rightF t.kids[i] true li).2) (s5 rfl rfl rfl rfl rfl) ⟨by omega, by rw [rS hik, hflag] at hrun; simpa [c71] using hrun, hs, hne, h1, hk, Lw, hU, hB⟩ (by omega)
    refine lP 1 tK rfl ?_
    refine lC (oD tK (h1.cell 0 _ rfl) rfl rfl rfl rfl rfl ?_)
    refine lP 3 tK rfl ?_
    refine lS 101 _ rfl (fun c72 => ?_) (fun c72 => ?_)
    ·refine lP 8 tK rfl ?_
     have hflag : kidRow t.op i = true := by clear ih; simp_all [kidRow]
     refine lC (oK fo94 rfl rfl rfl (ih _ (gM hik) true li M _ _ B b hyx hs Lw) ?_)
     rintro _ w44 ⟨rfl, hw44, uw44⟩
     have sw44 := uw44.sp hs.inM Lw hs.ge
     have frw44 := uw44.upd.2
     replace hU := hU.trans uw44
     replace h1 := h1.sp sw44
     replace hk := hk.sp sw44
     replace hyx := Rep.sp hyx sw44
     replace hkx := hkx.sp sw44
     replace hX := hX.sp sw44
     replace h5 := h5.sp sw44
     replace Lw := sw44.low
     replace hB := sw44.z hB
     replace hs := hw44
     refine lP 1 tK rfl (q1 ?_)
     refine c_ifB _ rfl (fun c73 => ?_) (fun c73 => ?_)
     ·refine q0 (lP 1 tK rfl (q1 (cR (xB (xR (xR (xB (xR (x1_ rfl rfl ?_)))))))))
      rw [rS hik, hflag] at hrun
      simp only [c73, cond_false] at hrun
      rw [← hrun]
      exact ⟨rfl, hs, hU⟩
     refine cK (x_blk (xS (cG ?_)))
     refine lC (o_ai rfl rfl rfl (by omega) rfl rfl ?_)
     refine lP 1 tK rfl (lN ?_)
     exact xN (i + 1) ((rightF t.kids[i] true li).2) (s5 rfl rfl rfl rfl rfl) ⟨by omega, by rw [rS hik, hflag] at hrun; simpa [c73] using hrun, hs, hne, h1, hk, Lw, hU, hB⟩ (by omega)
    refine lP 1 tK rfl ?_
    refine lC (oD tK (h1.cell 0 _ rfl) rfl rfl rfl rfl rfl ?_)
    refine lP 2 tK rfl ?_
    refine lS 105 _ rfl (fun c74 => ?_) (fun c74 => ?_)
    ·refine lP 4 tK rfl ?_
     have hflag : kidRow t.op i = decide ((i : Int) = 1) := by clear ih; simp_all [kidRow]
     refine lC (oK fo94 rfl rfl rfl (ih _ (gM hik) (decide ((i : Int) = 1)) li M _ _ B b hyx hs Lw) ?_)
     rintro _ w45 ⟨rfl, hw45, uw45⟩
     have sw45 := uw45.sp hs.inM Lw hs.ge
     have frw45 := uw45.upd.2
     replace hU := hU.trans uw45
     replace h1 := h1.sp sw45
     replace hk := hk.sp sw45
     replace hyx := Rep.sp hyx sw45
     replace hkx := hkx.sp sw45
     replace hX := hX.sp sw45
     replace h5 := h5.sp sw45
     replace Lw := sw45.low
     replace hB := sw45.z hB
     replace hs := hw45
     refine lP 1 tK rfl (q1 ?_)
     refine c_ifB _ rfl (fun c75 => ?_) (fun c75 => ?_)
     ·refine q0 (lP 1 tK rfl (q1 (cR (xB (xR (xR (xB (xR (x1_ rfl rfl ?_)))))))))
      rw [rS hik, hflag] at hrun
      simp only [c75, cond_false] at hrun
      rw [← hrun]
      exact ⟨rfl, hs, hU⟩
     refine cK (x_blk (xS (cG ?_)))
     refine lC (o_ai rfl rfl rfl (by omega) rfl rfl ?_)
     refine lP 1 tK rfl (lN ?_)
     exact xN (i + 1) ((rightF t.kids[i] (decide ((i : Int) = 1)) li).2) (s5 rfl rfl rfl rfl rfl) ⟨by omega, by rw [rS hik, hflag] at hrun; simpa [c75] using hrun, hs, hne, h1, hk, Lw, hU, hB⟩ (by omega)
    refine lP 4 tK rfl ?_
    have hflag : kidRow t.op i = false := by clear ih; simp_all [kidRow]
    refine lC (oK fo94 rfl rfl rfl (ih _ (gM hik) false li M _ _ B b hyx hs Lw) ?_)
    rintro _ w46 ⟨rfl, hw46, uw46⟩
    have sw46 := uw46.sp hs.inM Lw hs.ge
    have frw46 := uw46.upd.2
    replace hU := hU.trans uw46
    replace h1 := h1.sp sw46
    replace hk := hk.sp sw46
    replace hyx := Rep.sp hyx sw46
    replace hkx := hkx.sp sw46
    replace hX := hX.sp sw46
    replace h5 := h5.sp sw46
    replace Lw := sw46.low
    replace hB := sw46.z hB
    replace hs := hw46
    refine lP 1 tK rfl (q1 ?_)
    refine c_ifB _ rfl (fun c76 => ?_) (fun c76 => ?_)
    ·refine q0 (lP 1 tK rfl (q1 (cR (xB (xR (xR (xB (xR (x1_ rfl rfl ?_)))))))))
     rw [rS hik, hflag] at hrun
     simp only [c76, cond_false] at hrun
     rw [← hrun]
     exact ⟨rfl, hs, hU⟩
    refine cK (x_blk (xS (cG ?_)))
    refine lC (o_ai rfl rfl rfl (by omega) rfl rfl ?_)
    refine lP 1 tK rfl (lN ?_)
    exact xN (i + 1) ((rightF t.kids[i] false li).2) (s5 rfl rfl rfl rfl rfl) ⟨by omega, by rw [rS hik, hflag] at hrun; simpa [c76] using hrun, hs, hne, h1, hk, Lw, hU, hB⟩ (by omega)
   refine c_exit (xE (xE (x_blkE (xS (q0 (lP 1 tK rfl (q1 (cR (x1_ rfl rfl ?_)))))))))
   rw [run_end (by omega)] at hrun
   rw [← hrun]
   exact ⟨rfl, hs, hU⟩
  refine lP 6 tK rfl (q1 (c_ifF rfl (cK (xS ?_))))
  refine c_cut (X := St) (fun li0 => [(0, .map (some b)), (4, .pointer (some ⟨b1, 0, none⟩))]) (fun li0 w' => runR (t.kids.map rightF) (kidRow t.op) 0 li0 = rightF t row l ∧ OM (κ := Int) (fun x : Bool => Value.bool x) B M w' b li0 ∧ b1 ≠ b ∧ At M w' b1 0 [.int .u8 t.op, .string t.name, .int .i64 t.n, kv] ∧ Sl M w' kv t.kids ∧ Low M w' ∧ UpdB b w w' ∧ B ≤ w'.heap.size) ?_ ?_
  ·refine q0 (lP 2 tK rfl ?_)
   refine l_split 75 _ rfl (fun c77 => ?_) (fun c77 => ?_)
   ·refine lP 2 tK rfl ?_
    refine lC (oD tK (h1.cell 2 _ rfl) rfl rfl rfl rfl rfl ?_)
    refine lP 1 tK rfl ?_
    have hpre : preR t.op row t.kids.length t.name t.n = true := by clear ih; rw [preR, hko]; unfold headOk; simp_all [numB] <;> omega
    refine lC (oK fo104 rfl rfl rfl (meet_spec M _ B b l t.n row hs Lw) ?_)
    rintro _ w48 ⟨rfl, hw48, uw48⟩
    have sw48 := uw48.sp hs.inM Lw hs.ge
    have frw48 := uw48.upd.2
    replace hU := hU.trans uw48
    replace ht := Rep.sp ht sw48
    replace hk := hk.sp sw48
    replace h1 := h1.sp sw48
    replace Lw := sw48.low
    replace hB := sw48.z hB
    replace hs := hw48
    refine lP 2 tK rfl (q1 ?_)
    refine c_ifB _ rfl (fun c78 => ?_) (fun c78 => ?_)
    ·refine q0 (lP 1 tK rfl (q1 (cR (xR (x1_ rfl rfl ?_)))))
     rw [right_meet_no hpre (by clear ih; simp_all) c78]
     exact ⟨rfl, hs, hU⟩
    refine cK ?_
    have hrun := (right_meet_yes (row := row) (s := l) hpre (by clear ih; simp_all) (by clear ih; simp_all)).symm
    exact x_cut ((meetS l t.n row).2) (s2 rfl rfl) ⟨hrun, hs, fun e => h1.nM (e ▸ hs.inM), h1, hk, Lw, hU, hB⟩
   refine lP 7 tK rfl (q1 (c_ifF rfl (cK ?_)))
   have hpre : preR t.op row t.kids.length t.name t.n = true := by clear ih; rw [preR, hko]; unfold headOk; simp_all [numB] <;> omega
   have hrun := (right_plain (row := row) (s := l) hpre (by clear ih; simp_all)).symm
   exact x_cut (l) (s2 rfl rfl) ⟨hrun, hs, fun e => h1.nM (e ▸ hs.inM), h1, hk, Lw, hU, hB⟩
  rintro li0 w47 ⟨hrun, hs, hne, h1, hk, Lw, hU, hB⟩
  refine cS (q0 (lP 1 tK rfl ?_))
  refine lC (oD tK (h1.cell 3 _ rfl) rfl rfl rfl rfl rfl ?_)
  refine lC (o_len tK hk rfl rfl rfl rfl rfl ?_)
  refine lP 1 tK rfl (q1 (cB ?_))
  refine c_loop2 (X := Nat) (Y := St) (fun i li => [(0, .map (some b)), (4, .pointer (some ⟨b1, 0, none⟩)), (84, kv), (85, .int .i64 (t.kids.length : Int)), (86, .int .i64 (i : Nat))]) (fun i li w' => i ≤ t.kids.length ∧ runR ((t.kids.drop i).map rightF) (kidRow t.op) i li = rightF t row l ∧ OM (κ := Int) (fun x : Bool => Value.bool x) B M w' b li ∧ b1 ≠ b ∧ At M w' b1 0 [.int .u8 t.op, .string t.name, .int .i64 t.n, kv] ∧ Sl M w' kv t.kids ∧ Low M w' ∧ UpdB b w w' ∧ B ≤ w'.heap.size) (fun i li => t.kids.length - i) (0) (li0) (s5 rfl rfl rfl rfl rfl) ?_ ?_
  ·exact ⟨Nat.zero_le _, by simpa using hrun, hs, hne, h1, hk, Lw, hU, hB⟩
  rintro i li w49 ⟨hi, hrun, hs, hne, h1, hk, Lw, hU, hB⟩
  refine q0 (lP 1 tK rfl (q1 (cS ?_)))
  refine cP _ rfl (fun c79 => ?_) (fun c79 => ?_)
  ·refine cK (xS (cS (cB (q0 (lP 1 tK rfl ?_)))))
   have hik : i < t.kids.length := by omega
   refine lC (o_ixS tK hk (gE hik) rfl rfl rfl rfl rfl rfl rfl rfl rfl ?_)
   intro ebx eox eux hyx hX
   obtain ⟨kvx, rfl, opx, nmx, n64x, hkx⟩ := tO hyx
   replace hX : At M w49 ebx eox [.int .u8 t.kids[i].op, .string t.kids[i].name, .int .i64 t.kids[i].n, kvx] := hX
   refine lC (oL tK (fun j v hv => hX.cell j v hv) rfl rfl rfl rfl rfl rfl ?_)
   refine lC (o_new tK rfl rfl rfl ?_)
   intro b5 w50 qb5 ew50 hb5
   have nb5 := nO Lw qb5
   refine lP 1 tK rfl ?_
   refine lC (o_st tK hb5 rfl rfl rfl rfl (Rep.one hyx) rfl rfl ?_)
   intro w51 h5 uw51 bew51
   have ew51 : Ext w49 w51 := ew50.trans (bew51 _ (lQ qb5.symm))
   replace hU := hU.trans (UpdB.Y ew51 hs.lt)
   replace hs := hs.Y Lw hB ew51
   replace h1 := h1.Y ew51
   replace hk := hk.Y ew51
   replace hyx := Rep.Y hyx ew51
   replace hkx := hkx.Y ew51
   replace hX := hX.Y ew51
   replace Lw := Lw.Y ew51
   replace hB := ew51.z hB
   replace h5 : Box w51 b5 29 [.int .u8 t.kids[i].op, .string t.kids[i].name, .int .i64 t.kids[i].n, kvx] := h5
   replace h5 := h5.at nb5
   refine q1 (q0 (lP 1 tK rfl ?_))
   refine lC (oL tK (fun j v hv => h5.cell j v hv) rfl rfl rfl rfl rfl rfl ?_)
   refine lP 1 tK rfl ?_
   refine lC (oD tK (h1.cell 0 _ rfl) rfl rfl rfl rfl rfl ?_)
   refine lP 2 tK rfl ?_
   refine lS 96 _ rfl (fun c80 => ?_) (fun c80 => ?_)
   ·refine lP 13 tK rfl ?_
    have hflag : kidRow t.op i = true := by clear ih; simp_all [kidRow]
    refine lC (oK fo94 rfl rfl rfl (ih _ (gM hik) true li M _ _ B b hyx hs Lw) ?_)
    rintro _ w52 ⟨rfl, hw52, uw52⟩
    have sw52 := uw52.sp hs.inM Lw hs.ge
    have frw52 := uw52.upd.2
    replace hU := hU.trans uw52
    replace h1 := h1.sp sw52
    replace hk := hk.sp sw52
    replace hyx := Rep.sp hyx sw52
    replace hkx := hkx.sp sw52
    replace hX := hX.sp sw52
    replace h5 := h5.sp sw52
    replace Lw := sw52.low
    replace hB := sw52.z hB
    replace hs := hw52
    refine lP 1 tK rfl (q1 ?_)
    refine c_ifB _ rfl (fun c81 => ?_) (fun c81 => ?_)
    ·refine q0 (lP 1 tK rfl (q1 (cR (xB (xR (xR (xB (xR (x1_ rfl rfl ?_)))))))))
     rw [rS hik, hflag] at hrun
     simp only [c81, cond_false] at hrun
     rw [← hrun]
     exact ⟨rfl, hs, hU⟩
    refine cK (x_blk (xS (cG ?_)))
    refine lC (o_ai rfl rfl rfl (by omega) rfl rfl ?_)
    refine lP 1 tK rfl (lN ?_)
    exact xN (i + 1) ((rightF t.kids[i] true li).2) (s5 rfl rfl rfl rfl rfl) ⟨by omega, by rw [rS hik, hflag] at hrun; simpa [c81] using hrun, hs, hne, h1, hk, Lw, hU, hB⟩ (by omega)
   refine lP 1 tK rfl ?_
   refine lC (oD tK (h1.cell 0 _ rfl) rfl rfl rfl rfl rfl ?_)
   refine lP 3 tK rfl ?_
   refine lS 101 _ rfl (fun c82 => ?_) (fun c82 => ?_)
   ·refine lP 8 tK rfl ?_
    have hflag : kidRow t.op i = true := by clear ih; simp_all [kidRow]
    refine lC (oK fo94 rfl rfl rfl (ih _ (gM hik) true li M _ _ B b hyx hs Lw) ?_)
    rintro _ w53 ⟨rfl, hw53, uw53⟩
    have sw53 := uw53.sp hs.inM Lw hs.ge
    have frw53 := uw53.upd.2
    replace hU := hU.trans uw53
    replace h1 := h1.sp sw53
    replace hk := hk.sp sw53
    replace hyx := Rep.sp hyx sw53
    replace hkx := hkx.sp sw53
    replace hX := hX.sp sw53
    replace h5 := h5.sp sw53
    replace Lw := sw53.low
    replace hB := sw53.z hB
    replace hs := hw53
    refine lP 1 tK rfl (q1 ?_)
    refine c_ifB _ rfl (fun c83 => ?_) (fun c83 => ?_)
    ·refine q0 (lP 1 tK rfl (q1 (cR (xB (xR (xR (xB (xR (x1_ rfl rfl ?_)))))))))
     rw [rS hik, hflag] at hrun
     simp only [c83, cond_false] at hrun
     rw [← hrun]
     exact ⟨rfl, hs, hU⟩
    refine cK (x_blk (xS (cG ?_)))
    refine lC (o_ai rfl rfl rfl (by omega) rfl rfl ?_)
    refine lP 1 tK rfl (lN ?_)
    exact xN (i + 1) ((rightF t.kids[i] true li).2) (s5 rfl rfl rfl rfl rfl) ⟨by omega, by rw [rS hik, hflag] at hrun; simpa [c83] using hrun, hs, hne, h1, hk, Lw, hU, hB⟩ (by omega)
   refine lP 1 tK rfl ?_
   refine lC (oD tK (h1.cell 0 _ rfl) rfl rfl rfl rfl rfl ?_)
   refine lP 2 tK rfl ?_
   refine lS 105 _ rfl (fun c84 => ?_) (fun c84 => ?_)
   ·refine lP 4 tK rfl ?_
    have hflag : kidRow t.op i = decide ((i : Int) = 1) := by clear ih; simp_all [kidRow]
    refine lC (oK fo94 rfl rfl rfl (ih _ (gM hik) (decide ((i : Int) = 1)) li M _ _ B b hyx hs Lw) ?_)
    rintro _ w54 ⟨rfl, hw54, uw54⟩
    have sw54 := uw54.sp hs.inM Lw hs.ge
    have frw54 := uw54.upd.2
    replace hU := hU.trans uw54
    replace h1 := h1.sp sw54
    replace hk := hk.sp sw54
    replace hyx := Rep.sp hyx sw54
    replace hkx := hkx.sp sw54
    replace hX := hX.sp sw54
    replace h5 := h5.sp sw54
    replace Lw := sw54.low
    replace hB := sw54.z hB
    replace hs := hw54
    refine lP 1 tK rfl (q1 ?_)
    refine c_ifB _ rfl (fun c85 => ?_) (fun c85 => ?_)
    ·refine q0 (lP 1 tK rfl (q1 (cR (xB (xR (xR (xB (xR (x1_ rfl rfl ?_)))))))))
     rw [rS hik, hflag] at hrun
     simp only [c85, cond_false] at hrun
     rw [← hrun]
     exact ⟨rfl, hs, hU⟩
    refine cK (x_blk (xS (cG ?_)))
    refine lC (o_ai rfl rfl rfl (by omega) rfl rfl ?_)
    refine lP 1 tK rfl (lN ?_)
    exact xN (i + 1) ((rightF t.kids[i] (decide ((i : Int) = 1)) li).2) (s5 rfl rfl rfl rfl rfl) ⟨by omega, by rw [rS hik, hflag] at hrun; simpa [c85] using hrun, hs, hne, h1, hk, Lw, hU, hB⟩ (by omega)
   refine lP 4 tK rfl ?_
   have hflag : kidRow t.op i = false := by clear ih; simp_all [kidRow]
   refine lC (oK fo94 rfl rfl rfl (ih _ (gM hik) false li M _ _ B b hyx hs Lw) ?_)
   rintro _ w55 ⟨rfl, hw55, uw55⟩
   have sw55 := uw55.sp hs.inM Lw hs.ge
   have frw55 := uw55.upd.2
   replace hU := hU.trans uw55
   replace h1 := h1.sp sw55
   replace hk := hk.sp sw55
   replace hyx := Rep.sp hyx sw55
   replace hkx := hkx.sp sw55
   replace hX := hX.sp sw55
   replace h5 := h5.sp sw55
   replace Lw := sw55.low
   replace hB := sw55.z hB
   replace hs := hw55
   refine lP 1 tK rfl (q1 ?_)
   refine c_ifB _ rfl (fun c86 => ?_) (fun c86 => ?_)
   ·refine q0 (lP 1 tK rfl (q1 (cR (xB (xR (xR (xB (xR (x1_ rfl rfl ?_)))))))))
    rw [rS hik, hflag] at hrun
    simp only [c86, cond_false] at hrun
    rw [← hrun]
    exact ⟨rfl, hs, hU⟩
   refine cK (x_blk (xS (cG ?_)))
   refine lC (o_ai rfl rfl rfl (by omega) rfl rfl ?_)
   refine lP 1 tK rfl (lN ?_)
   exact xN (i + 1) ((rightF t.kids[i] false li).2) (s5 rfl rfl rfl rfl rfl) ⟨by omega, by rw [rS hik, hflag] at hrun; simpa [c86] using hrun, hs, hne, h1, hk, Lw, hU, hB⟩ (by omega)
  refine c_exit (xE (xE (x_blkE (xS (q0 (lP 1 tK rfl (q1 (cR (x1_ rfl rfl ?_)))))))))
  rw [run_end (by omega)] at hrun
  rw [← hrun]
  exact ⟨rfl, hs, hU⟩
 refine lP 7 tK rfl ?_
 refine l_split 67 _ rfl (fun c87 => ?_) (fun c87 => ?_)
 ·refine lP 1 tK rfl ?_
  refine lC (oD tK (h1.cell 1 _ rfl) rfl rfl rfl rfl rfl ?_)
  refine lC (oK fo78 rfl rfl rfl (isWord_spec _ t.name nm) ?_)
  rintro _ _ ⟨rfl, rfl⟩
  refine lP 3 tK rfl (q1 ?_)
  refine c_ifB _ rfl (fun c88 => ?_) (fun c88 => ?_)
  ·refine q0 (lP 1 tK rfl (q1 (cR (xR (x1_ rfl rfl ?_)))))
   rw [right_pre_no (by clear ih; rw [preR, hko]; unfold headOk; simp_all [numB] <;> omega)]
   exact ⟨rfl, hs, hU⟩
  refine cK (xS ?_)
  refine c_cut (X := St) (fun li0 => [(0, .map (some b)), (4, .pointer (some ⟨b1, 0, none⟩))]) (fun li0 w' => runR (t.kids.map rightF) (kidRow t.op) 0 li0 = rightF t row l ∧ OM (κ := Int) (fun x : Bool => Value.bool x) B M w' b li0 ∧ b1 ≠ b ∧ At M w' b1 0 [.int .u8 t.op, .string t.name, .int .i64 t.n, kv] ∧ Sl M w' kv t.kids ∧ Low M w' ∧ UpdB b w w' ∧ B ≤ w'.heap.size) ?_ ?_
  ·refine q0 (lP 2 tK rfl ?_)
   refine l_split 75 _ rfl (fun c89 => ?_) (fun c89 => ?_)
   ·refine lP 2 tK rfl ?_
    refine lC (oD tK (h1.cell 2 _ rfl) rfl rfl rfl rfl rfl ?_)
    refine lP 1 tK rfl ?_
    have hpre : preR t.op row t.kids.length t.name t.n = true := by clear ih; rw [preR, hko]; unfold headOk; simp_all [numB] <;> omega
    refine lC (oK fo104 rfl rfl rfl (meet_spec M _ B b l t.n row hs Lw) ?_)
    rintro _ w57 ⟨rfl, hw57, uw57⟩
    have sw57 := uw57.sp hs.inM Lw hs.ge
    have frw57 := uw57.upd.2
    replace hU := hU.trans uw57
    replace ht := Rep.sp ht sw57
    replace hk := hk.sp sw57
    replace h1 := h1.sp sw57
    replace Lw := sw57.low
    replace hB := sw57.z hB
    replace hs := hw57
    refine lP 2 tK rfl (q1 ?_)
    refine c_ifB _ rfl (fun c90 => ?_) (fun c90 => ?_)
    ·refine q0 (lP 1 tK rfl (q1 (cR (xR (x1_ rfl rfl ?_)))))
     rw [right_meet_no hpre (by clear ih; simp_all) c90]
     exact ⟨rfl, hs, hU⟩
    refine cK ?_
    have hrun := (right_meet_yes (row := row) (s := l) hpre (by clear ih; simp_all) (by clear ih; simp_all)).symm
    exact x_cut ((meetS l t.n row).2) (s2 rfl rfl) ⟨hrun, hs, fun e => h1.nM (e ▸ hs.inM), h1, hk, Lw, hU, hB⟩
   refine lP 7 tK rfl (q1 (c_ifF rfl (cK ?_)))
   have hpre : preR t.op row t.kids.length t.name t.n = true := by clear ih; rw [preR, hko]; unfold headOk; simp_all [numB] <;> omega
   have hrun := (right_plain (row := row) (s := l) hpre (by clear ih; simp_all)).symm
   exact x_cut (l) (s2 rfl rfl) ⟨hrun, hs, fun e => h1.nM (e ▸ hs.inM), h1, hk, Lw, hU, hB⟩
  rintro li0 w56 ⟨hrun, hs, hne, h1, hk, Lw, hU, hB⟩
  refine cS (q0 (lP 1 tK rfl ?_))
  refine lC (oD tK (h1.cell 3 _ rfl) rfl rfl rfl rfl rfl ?_)
  refine lC (o_len tK hk rfl rfl rfl rfl rfl ?_)
  refine lP 1 tK rfl (q1 (cB ?_))
  refine c_loop2 (X := Nat) (Y := St) (fun i li => [(0, .map (some b)), (4, .pointer (some ⟨b1, 0, none⟩)), (84, kv), (85, .int .i64 (t.kids.length : Int)), (86, .int .i64 (i : Nat))]) (fun i li w' => i ≤ t.kids.length ∧ runR ((t.kids.drop i).map rightF) (kidRow t.op) i li = rightF t row l ∧ OM (κ := Int) (fun x : Bool => Value.bool x) B M w' b li ∧ b1 ≠ b ∧ At M w' b1 0 [.int .u8 t.op, .string t.name, .int .i64 t.n, kv] ∧ Sl M w' kv t.kids ∧ Low M w' ∧ UpdB b w w' ∧ B ≤ w'.heap.size) (fun i li => t.kids.length - i) (0) (li0) (s5 rfl rfl rfl rfl rfl) ?_ ?_
  ·exact ⟨Nat.zero_le _, by simpa using hrun, hs, hne, h1, hk, Lw, hU, hB⟩
  rintro i li w58 ⟨hi, hrun, hs, hne, h1, hk, Lw, hU, hB⟩
  refine q0 (lP 1 tK rfl (q1 (cS ?_)))
  refine cP _ rfl (fun c91 => ?_) (fun c91 => ?_)
  ·refine cK (xS (cS (cB (q0 (lP 1 tK rfl ?_)))))
   have hik : i < t.kids.length := by omega
   refine lC (o_ixS tK hk (gE hik) rfl rfl rfl rfl rfl rfl rfl rfl rfl ?_)
   intro ebx eox eux hyx hX
   obtain ⟨kvx, rfl, opx, nmx, n64x, hkx⟩ := tO hyx
   replace hX : At M w58 ebx eox [.int .u8 t.kids[i].op, .string t.kids[i].name, .int .i64 t.kids[i].n, kvx] := hX
   refine lC (oL tK (fun j v hv => hX.cell j v hv) rfl rfl rfl rfl rfl rfl ?_)
   refine lC (o_new tK rfl rfl rfl ?_)
   intro b5 w59 qb5 ew59 hb5
   have nb5 := nO Lw qb5
   refine lP 1 tK rfl ?_
   refine lC (o_st tK hb5 rfl rfl rfl rfl (Rep.one hyx) rfl rfl ?_)
   intro w60 h5 uw60 bew60
   have ew60 : Ext w58 w60 := ew59.trans (bew60 _ (lQ qb5.symm))
   replace hU := hU.trans (UpdB.Y ew60 hs.lt)
   replace hs := hs.Y Lw hB ew60
   replace h1 := h1.Y ew60
   replace hk := hk.Y ew60
   replace hyx := Rep.Y hyx ew60
   replace hkx := hkx.Y ew60
   replace hX := hX.Y ew60
   replace Lw := Lw.Y ew60
   replace hB := ew60.z hB
   replace h5 : Box w60 b5 29 [.int .u8 t.kids[i].op, .string t.kids[i].name, .int .i64 t.kids[i].n, kvx] := h5
   replace h5 := h5.at nb5
   refine q1 (q0 (lP 1 tK rfl ?_))
   refine lC (oL tK (fun j v hv => h5.cell j v hv) rfl rfl rfl rfl rfl rfl ?_)
   refine lP 1 tK rfl ?_
   refine lC (oD tK (h1.cell 0 _ rfl) rfl rfl rfl rfl rfl ?_)
   refine lP 2 tK rfl ?_
   refine lS 96 _ rfl (fun c92 => ?_) (fun c92 => ?_)
   ·refine lP 13 tK rfl ?_
    have hflag : kidRow t.op i = true := by clear ih; simp_all [kidRow]
    refine lC (oK fo94 rfl rfl rfl (ih _ (gM hik) true li M _ _ B b hyx hs Lw) ?_)
    rintro _ w61 ⟨rfl, hw61, uw61⟩
    have sw61 := uw61.sp hs.inM Lw hs.ge
    have frw61 := uw61.upd.2
    replace hU := hU.trans uw61
    replace h1 := h1.sp sw61
    replace hk := hk.sp sw61
    replace hyx := Rep.sp hyx sw61
    replace hkx := hkx.sp sw61
    replace hX := hX.sp sw61
    replace h5 := h5.sp sw61
    replace Lw := sw61.low
    replace hB := sw61.z hB
    replace hs := hw61
    refine lP 1 tK rfl (q1 ?_)
    refine c_ifB _ rfl (fun c93 => ?_) (fun c93 => ?_)
    ·refine q0 (lP 1 tK rfl (q1 (cR (xB (xR (xR (xB (xR (x1_ rfl rfl ?_)))))))))
     rw [rS hik, hflag] at hrun
     simp only [c93, cond_false] at hrun
     rw [← hrun]
     exact ⟨rfl, hs, hU⟩
    refine cK (x_blk (xS (cG ?_)))
    refine lC (o_ai rfl rfl rfl (by omega) rfl rfl ?_)
    refine lP 1 tK rfl (lN ?_)
    exact xN (i + 1) ((rightF t.kids[i] true li).2) (s5 rfl rfl rfl rfl rfl) ⟨by omega, by rw [rS hik, hflag] at hrun; simpa [c93] using hrun, hs, hne, h1, hk, Lw, hU, hB⟩ (by omega)
   refine lP 1 tK rfl ?_
   refine lC (oD tK (h1.cell 0 _ rfl) rfl rfl rfl rfl rfl ?_)
   refine lP 3 tK rfl ?_
   refine lS 101 _ rfl (fun c94 => ?_) (fun c94 => ?_)
   ·refine lP 8 tK rfl ?_
    have hflag : kidRow t.op i = true := by clear ih; simp_all [kidRow]
    refine lC (oK fo94 rfl rfl rfl (ih _ (gM hik) true li M _ _ B b hyx hs Lw) ?_)
    rintro _ w62 ⟨rfl, hw62, uw62⟩
    have sw62 := uw62.sp hs.inM Lw hs.ge
    have frw62 := uw62.upd.2
    replace hU := hU.trans uw62
    replace h1 := h1.sp sw62
    replace hk := hk.sp sw62
    replace hyx := Rep.sp hyx sw62
    replace hkx := hkx.sp sw62
    replace hX := hX.sp sw62
    replace h5 := h5.sp sw62
    replace Lw := sw62.low
    replace hB := sw62.z hB
    replace hs := hw62
    refine lP 1 tK rfl (q1 ?_)
    refine c_ifB _ rfl (fun c95 => ?_) (fun c95 => ?_)
    ·refine q0 (lP 1 tK rfl (q1 (cR (xB (xR (xR (xB (xR (x1_ rfl rfl ?_)))))))))
     rw [rS hik, hflag] at hrun
     simp only [c95, cond_false] at hrun
     rw [← hrun]
     exact ⟨rfl, hs, hU⟩
    refine cK (x_blk (xS (cG ?_)))
    refine lC (o_ai rfl rfl rfl (by omega) rfl rfl ?_)
    refine lP 1 tK rfl (lN ?_)
    exact xN (i + 1) ((rightF t.kids[i] true li).2) (s5 rfl rfl rfl rfl rfl) ⟨by omega, by rw [rS hik, hflag] at hrun; simpa [c95] using hrun, hs, hne, h1, hk, Lw, hU, hB⟩ (by omega)
   refine lP 1 tK rfl ?_
   refine lC (oD tK (h1.cell 0 _ rfl) rfl rfl rfl rfl rfl ?_)
   refine lP 2 tK rfl ?_
   refine lS 105 _ rfl (fun c96 => ?_) (fun c96 => ?_)
   ·refine lP 4 tK rfl ?_
    have hflag : kidRow t.op i = decide ((i : Int) = 1) := by clear ih; simp_all [kidRow]
    refine lC (oK fo94 rfl rfl rfl (ih _ (gM hik) (decide ((i : Int) = 1)) li M _ _ B b hyx hs Lw) ?_)
    rintro _ w63 ⟨rfl, hw63, uw63⟩
    have sw63 := uw63.sp hs.inM Lw hs.ge
    have frw63 := uw63.upd.2
    replace hU := hU.trans uw63
    replace h1 := h1.sp sw63
    replace hk := hk.sp sw63
    replace hyx := Rep.sp hyx sw63
    replace hkx := hkx.sp sw63
    replace hX := hX.sp sw63
    replace h5 := h5.sp sw63
    replace Lw := sw63.low
    replace hB := sw63.z hB
    replace hs := hw63
    refine lP 1 tK rfl (q1 ?_)
    refine c_ifB _ rfl (fun c97 => ?_) (fun c97 => ?_)
    ·refine q0 (lP 1 tK rfl (q1 (cR (xB (xR (xR (xB (xR (x1_ rfl rfl ?_)))))))))
     rw [rS hik, hflag] at hrun
     simp only [c97, cond_false] at hrun
     rw [← hrun]
     exact ⟨rfl, hs, hU⟩
    refine cK (x_blk (xS (cG ?_)))
    refine lC (o_ai rfl rfl rfl (by omega) rfl rfl ?_)
    refine lP 1 tK rfl (lN ?_)
    exact xN (i + 1) ((rightF t.kids[i] (decide ((i : Int) = 1)) li).2) (s5 rfl rfl rfl rfl rfl) ⟨by omega, by rw [rS hik, hflag] at hrun; simpa [c97] using hrun, hs, hne, h1, hk, Lw, hU, hB⟩ (by omega)
   refine lP 4 tK rfl ?_
   have hflag : kidRow t.op i = false := by clear ih; simp_all [kidRow]
   refine lC (oK fo94 rfl rfl rfl (ih _ (gM hik) false li M _ _ B b hyx hs Lw) ?_)
   rintro _ w64 ⟨rfl, hw64, uw64⟩
   have sw64 := uw64.sp hs.inM Lw hs.ge
   have frw64 := uw64.upd.2
   replace hU := hU.trans uw64
   replace h1 := h1.sp sw64
   replace hk := hk.sp sw64
   replace hyx := Rep.sp hyx sw64
   replace hkx := hkx.sp sw64
   replace hX := hX.sp sw64
   replace h5 := h5.sp sw64
   replace Lw := sw64.low
   replace hB := sw64.z hB
   replace hs := hw64
   refine lP 1 tK rfl (q1 ?_)
   refine c_ifB _ rfl (fun c98 => ?_) (fun c98 => ?_)
   ·refine q0 (lP 1 tK rfl (q1 (cR (xB (xR (xR (xB (xR (x1_ rfl rfl ?_)))))))))
    rw [rS hik, hflag] at hrun
    simp only [c98, cond_false] at hrun
    rw [← hrun]
    exact ⟨rfl, hs, hU⟩
   refine cK (x_blk (xS (cG ?_)))
   refine lC (o_ai rfl rfl rfl (by omega) rfl rfl ?_)
   refine lP 1 tK rfl (lN ?_)
   exact xN (i + 1) ((rightF t.kids[i] false li).2) (s5 rfl rfl rfl rfl rfl) ⟨by omega, by rw [rS hik, hflag] at hrun; simpa [c98] using hrun, hs, hne, h1, hk, Lw, hU, hB⟩ (by omega)
  refine c_exit (xE (xE (x_blkE (xS (q0 (lP 1 tK rfl (q1 (cR (x1_ rfl rfl ?_)))))))))
  rw [run_end (by omega)] at hrun
  rw [← hrun]
  exact ⟨rfl, hs, hU⟩
 refine lP 6 tK rfl (q1 (c_ifF rfl (cK (xS ?_))))
 refine c_cut (X := St) (fun li0 => [(0, .map (some b)), (4, .pointer (some ⟨b1, 0, none⟩))]) (fun li0 w' => runR (t.kids.map rightF) (kidRow t.op) 0 li0 = rightF t row l ∧ OM (κ := Int) (fun x : Bool => Value.bool x) B M w' b li0 ∧ b1 ≠ b ∧ At M w' b1 0 [.int .u8 t.op, .string t.name, .int .i64 t.n, kv] ∧ Sl M w' kv t.kids ∧ Low M w' ∧ UpdB b w w' ∧ B ≤ w'.heap.size) ?_ ?_
 ·refine q0 (lP 2 tK rfl ?_)
  refine l_split 75 _ rfl (fun c99 => ?_) (fun c99 => ?_)
  ·refine lP 2 tK rfl ?_
   refine lC (oD tK (h1.cell 2 _ rfl) rfl rfl rfl rfl rfl ?_)
   refine lP 1 tK rfl ?_
   have hpre : preR t.op row t.kids.length t.name t.n = true := by clear ih; rw [preR, hko]; unfold headOk; simp_all [numB] <;> omega
   refine lC (oK fo104 rfl rfl rfl (meet_spec M _ B b l t.n row hs Lw) ?_)
   rintro _ w66 ⟨rfl, hw66, uw66⟩
   have sw66 := uw66.sp hs.inM Lw hs.ge
   have frw66 := uw66.upd.2
   replace hU := hU.trans uw66
   replace ht := Rep.sp ht sw66
   replace hk := hk.sp sw66
   replace h1 := h1.sp sw66
   replace Lw := sw66.low
   replace hB := sw66.z hB
   replace hs := hw66
   refine lP 2 tK rfl (q1 ?_)
   refine c_ifB _ rfl (fun c100 => ?_) (fun c100 => ?_)
   ·refine q0 (lP 1 tK rfl (q1 (cR (xR (x1_ rfl rfl ?_)))))
    rw [right_meet_no hpre (by clear ih; simp_all) c100]
    exact ⟨rfl, hs, hU⟩
   refine cK ?_
   have hrun := (right_meet_yes (row := row) (s := l) hpre (by clear ih; simp_all) (by clear ih; simp_all)).symm
   exact x_cut ((meetS l t.n row).2) (s2 rfl rfl) ⟨hrun, hs, fun e => h1.nM (e ▸ hs.inM), h1, hk, Lw, hU, hB⟩
  refine lP 7 tK rfl (q1 (c_ifF rfl (cK ?_)))
  have hpre : preR t.op row t.kids.length t.name t.n = true := by clear ih; rw [preR, hko]; unfold headOk; simp_all [numB] <;> omega
  have hrun := (right_plain (row := row) (s := l) hpre (by clear ih; simp_all)).symm
  exact x_cut (l) (s2 rfl rfl) ⟨hrun, hs, fun e => h1.nM (e ▸ hs.inM), h1, hk, Lw, hU, hB⟩
 rintro li0 w65 ⟨hrun, hs, hne, h1, hk, Lw, hU, hB⟩
 refine cS (q0 (lP 1 tK rfl ?_))
 refine lC (oD tK (h1.cell 3 _ rfl) rfl rfl rfl rfl rfl ?_)
 refine lC (o_len tK hk rfl rfl rfl rfl rfl ?_)
 refine lP 1 tK rfl (q1 (cB ?_))
 refine c_loop2 (X := Nat) (Y := St) (fun i li => [(0, .map (some b)), (4, .pointer (some ⟨b1, 0, none⟩)), (84, kv), (85, .int .i64 (t.kids.length : Int)), (86, .int .i64 (i : Nat))]) (fun i li w' => i ≤ t.kids.length ∧ runR ((t.kids.drop i).map rightF) (kidRow t.op) i li = rightF t row l ∧ OM (κ := Int) (fun x : Bool => Value.bool x) B M w' b li ∧ b1 ≠ b ∧ At M w' b1 0 [.int .u8 t.op, .string t.name, .int .i64 t.n, kv] ∧ Sl M w' kv t.kids ∧ Low M w' ∧ UpdB b w w' ∧ B ≤ w'.heap.size) (fun i li => t.kids.length - i) (0) (li0) (s5 rfl rfl rfl rfl rfl) ?_ ?_
 ·exact ⟨Nat.zero_le _, by simpa using hrun, hs, hne, h1, hk, Lw, hU, hB⟩
 rintro i li w67 ⟨hi, hrun, hs, hne, h1, hk, Lw, hU, hB⟩
 refine q0 (lP 1 tK rfl (q1 (cS ?_)))
 refine cP _ rfl (fun c101 => ?_) (fun c101 => ?_)
 ·refine cK (xS (cS (cB (q0 (lP 1 tK rfl ?_)))))
  have hik : i < t.kids.length := by omega
  refine lC (o_ixS tK hk (gE hik) rfl rfl rfl rfl rfl rfl rfl rfl rfl ?_)
  intro ebx eox eux hyx hX
  obtain ⟨kvx, rfl, opx, nmx, n64x, hkx⟩ := tO hyx
  replace hX : At M w67 ebx eox [.int .u8 t.kids[i].op, .string t.kids[i].name, .int .i64 t.kids[i].n, kvx] := hX
  refine lC (oL tK (fun j v hv => hX.cell j v hv) rfl rfl rfl rfl rfl rfl ?_)
  refine lC (o_new tK rfl rfl rfl ?_)
  intro b5 w68 qb5 ew68 hb5
  have nb5 := nO Lw qb5
  refine lP 1 tK rfl ?_
  refine lC (o_st tK hb5 rfl rfl rfl rfl (Rep.one hyx) rfl rfl ?_)
  intro w69 h5 uw69 bew69
  have ew69 : Ext w67 w69 := ew68.trans (bew69 _ (lQ qb5.symm))
  replace hU := hU.trans (UpdB.Y ew69 hs.lt)
  replace hs := hs.Y Lw hB ew69
  replace h1 := h1.Y ew69
  replace hk := hk.Y ew69
  replace hyx := Rep.Y hyx ew69
  replace hkx := hkx.Y ew69
  replace hX := hX.Y ew69
  replace Lw := Lw.Y ew69
  replace hB := ew69.z hB
  replace h5 : Box w69 b5 29 [.int .u8 t.kids[i].op, .string t.kids[i].name, .int .i64 t.kids[i].n, kvx] := h5
  replace h5 := h5.at nb5
  refine q1 (q0 (lP 1 tK rfl ?_))
  refine lC (oL tK (fun j v hv => h5.cell j v hv) rfl rfl rfl rfl rfl rfl ?_)
  refine lP 1 tK rfl ?_
  refine lC (oD tK (h1.cell 0 _ rfl) rfl rfl rfl rfl rfl ?_)
  refine lP 2 tK rfl ?_
  refine lS 96 _ rfl (fun c102 => ?_) (fun c102 => ?_)
  ·refine lP 13 tK rfl ?_
   have hflag : kidRow t.op i = true := by clear ih; simp_all [kidRow]
   refine lC (oK fo94 rfl rfl rfl (ih _ (gM hik) true li M _ _ B b hyx hs Lw) ?_)
   rintro _ w70 ⟨rfl, hw70, uw70⟩
   have sw70 := uw70.sp hs.inM Lw hs.ge
   have frw70 := uw70.upd.2
   replace hU := hU.trans uw70
   replace h1 := h1.sp sw70
   replace hk := hk.sp sw70
   replace hyx := Rep.sp hyx sw70
   replace hkx := hkx.sp sw70
   replace hX := hX.sp sw70
   replace h5 := h5.sp sw70
   replace Lw := sw70.low
   replace hB := sw70.z hB
   replace hs := hw70
   refine lP 1 tK rfl (q1 ?_)
   refine c_ifB _ rfl (fun c103 => ?_) (fun c103 => ?_)
   ·refine q0 (lP 1 tK rfl (q1 (cR (xB (xR (xR (xB (xR (x1_ rfl rfl ?_)))))))))
    rw [rS hik, hflag] at hrun
    simp only [c103, cond_false] at hrun
    rw [← hrun]
    exact ⟨rfl, hs, hU⟩
   refine cK (x_blk (xS (cG ?_)))
   refine lC (o_ai rfl rfl rfl (by omega) rfl rfl ?_)
   refine lP 1 tK rfl (lN ?_)
   exact xN (i + 1) ((rightF t.kids[i] true li).2) (s5 rfl rfl rfl rfl rfl) ⟨by omega, by rw [rS hik, hflag] at hrun; simpa [c103] using hrun, hs, hne, h1, hk, Lw, hU, hB⟩ (by omega)
  refine lP 1 tK rfl ?_
  refine lC (oD tK (h1.cell 0 _ rfl) rfl rfl rfl rfl rfl ?_)
  refine lP 3 tK rfl ?_
  refine lS 101 _ rfl (fun c104 => ?_) (fun c104 => ?_)
  ·refine lP 8 tK rfl ?_
   have hflag : kidRow t.op i = true := by clear ih; simp_all [kidRow]
   refine lC (oK fo94 rfl rfl rfl (ih _ (gM hik) true li M _ _ B b hyx hs Lw) ?_)
   rintro _ w71 ⟨rfl, hw71, uw71⟩
   have sw71 := uw71.sp hs.inM Lw hs.ge
   have frw71 := uw71.upd.2
   replace hU := hU.trans uw71
   replace h1 := h1.sp sw71
   replace hk := hk.sp sw71
   replace hyx := Rep.sp hyx sw71
   replace hkx := hkx.sp sw71
   replace hX := hX.sp sw71
   replace h5 := h5.sp sw71
   replace Lw := sw71.low
   replace hB := sw71.z hB
   replace hs := hw71
   refine lP 1 tK rfl (q1 ?_)
   refine c_ifB _ rfl (fun c105 => ?_) (fun c105 => ?_)
   ·refine q0 (lP 1 tK rfl (q1 (cR (xB (xR (xR (xB (xR (x1_ rfl rfl ?_)))))))))
    rw [rS hik, hflag] at hrun
    simp only [c105, cond_false] at hrun
    rw [← hrun]
    exact ⟨rfl, hs, hU⟩
   refine cK (x_blk (xS (cG ?_)))
   refine lC (o_ai rfl rfl rfl (by omega) rfl rfl ?_)
   refine lP 1 tK rfl (lN ?_)
   exact xN (i + 1) ((rightF t.kids[i] true li).2) (s5 rfl rfl rfl rfl rfl) ⟨by omega, by rw [rS hik, hflag] at hrun; simpa [c105] using hrun, hs, hne, h1, hk, Lw, hU, hB⟩ (by omega)
  refine lP 1 tK rfl ?_
  refine lC (oD tK (h1.cell 0 _ rfl) rfl rfl rfl rfl rfl ?_)
  refine lP 2 tK rfl ?_
  refine lS 105 _ rfl (fun c106 => ?_) (fun c106 => ?_)
  ·refine lP 4 tK rfl ?_
   have hflag : kidRow t.op i = decide ((i : Int) = 1) := by clear ih; simp_all [kidRow]
   refine lC (oK fo94 rfl rfl rfl (ih _ (gM hik) (decide ((i : Int) = 1)) li M _ _ B b hyx hs Lw) ?_)
   rintro _ w72 ⟨rfl, hw72, uw72⟩
   have sw72 := uw72.sp hs.inM Lw hs.ge
   have frw72 := uw72.upd.2
   replace hU := hU.trans uw72
   replace h1 := h1.sp sw72
   replace hk := hk.sp sw72
   replace hyx := Rep.sp hyx sw72
   replace hkx := hkx.sp sw72
   replace hX := hX.sp sw72
   replace h5 := h5.sp sw72
   replace Lw := sw72.low
   replace hB := sw72.z hB
   replace hs := hw72
   refine lP 1 tK rfl (q1 ?_)
   refine c_ifB _ rfl (fun c107 => ?_) (fun c107 => ?_)
   ·refine q0 (lP 1 tK rfl (q1 (cR (xB (xR (xR (xB (xR (x1_ rfl rfl ?_)))))))))
    rw [rS hik, hflag] at hrun
    simp only [c107, cond_false] at hrun
    rw [← hrun]
    exact ⟨rfl, hs, hU⟩
   refine cK (x_blk (xS (cG ?_)))
   refine lC (o_ai rfl rfl rfl (by omega) rfl rfl ?_)
   refine lP 1 tK rfl (lN ?_)
   exact xN (i + 1) ((rightF t.kids[i] (decide ((i : Int) = 1)) li).2) (s5 rfl rfl rfl rfl rfl) ⟨by omega, by rw [rS hik, hflag] at hrun; simpa [c107] using hrun, hs, hne, h1, hk, Lw, hU, hB⟩ (by omega)
  refine lP 4 tK rfl ?_
  have hflag : kidRow t.op i = false := by clear ih; simp_all [kidRow]
  refine lC (oK fo94 rfl rfl rfl (ih _ (gM hik) false li M _ _ B b hyx hs Lw) ?_)
  rintro _ w73 ⟨rfl, hw73, uw73⟩
  have sw73 := uw73.sp hs.inM Lw hs.ge
  have frw73 := uw73.upd.2
  replace hU := hU.trans uw73
  replace h1 := h1.sp sw73
  replace hk := hk.sp sw73
  replace hyx := Rep.sp hyx sw73
  replace hkx := hkx.sp sw73
  replace hX := hX.sp sw73
  replace h5 := h5.sp sw73
  replace Lw := sw73.low
  replace hB := sw73.z hB
  replace hs := hw73
  refine lP 1 tK rfl (q1 ?_)
  refine c_ifB _ rfl (fun c108 => ?_) (fun c108 => ?_)
  ·refine q0 (lP 1 tK rfl (q1 (cR (xB (xR (xR (xB (xR (x1_ rfl rfl ?_)))))))))
   rw [rS hik, hflag] at hrun
   simp only [c108, cond_false] at hrun
   rw [← hrun]
   exact ⟨rfl, hs, hU⟩
  refine cK (x_blk (xS (cG ?_)))
  refine lC (o_ai rfl rfl rfl (by omega) rfl rfl ?_)
  refine lP 1 tK rfl (lN ?_)
  exact xN (i + 1) ((rightF t.kids[i] false li).2) (s5 rfl rfl rfl rfl rfl) ⟨by omega, by rw [rS hik, hflag] at hrun; simpa [c108] using hrun, hs, hne, h1, hk, Lw, hU, hB⟩ (by omega)
 refine c_exit (xE (xE (x_blkE (xS (q0 (lP 1 tK rfl (q1 (cR (x1_ rfl rfl ?_)))))))))
 rw [run_end (by omega)] at hrun
 rw [← hrun]
 exact ⟨rfl, hs, hU⟩
theorem kRight_spec (t : Ty) (M : Nat → Prop) (w : World) (v : Value) (ht : Rep.R M w v t) (hlow0 : Low M w) :
  Calls Tryz.prog 75 #[v] w (Ret fun r w' => r = .bool (rightF t false []).1 ∧ Ext w w') := by
 have Lw := hlow0
 have hB := lR w.heap.size
 have hE := Below.refl w.heap.size w
 have hsub : ∀ b, M b → M b := fun _ h => h
 obtain ⟨kv, rfl, op, nm, n64, hk⟩ := tO ht
 refine cN (n := 6) Tryz.func75 rfl rfl rfl ?_
 refine q0 ?_
 refine lC (o_box rfl rfl rfl ?_)
 intro b1 w1 hb_b1 ew1 h1
 replace h1 : Box _ b1 29 [.int .u8 t.op, .string t.name, .int .i64 t.n, kv] := h1
 replace h1 := h1.at (nO Lw hb_b1)
 replace hE := ew1.bl hE hB
 replace ht := Rep.Y ht ew1
 replace hk := hk.Y ew1
 replace Lw := Lw.Y ew1
 replace hB := ew1.z hB
 refine lP 1 tK rfl (q1 (q0 ?_))
 refine lC (o_mkmap (κ := Int) (ν := Bool) (va := (fun x : Bool => Value.bool x)) rfl rfl ?_)
 intro bm w2 qbm ew2 ltbm hbm
 have sw2 := Stp.add ew2 Lw hB (lQ qbm.symm) ltbm
 have hs : OM (κ := Int) (fun x : Bool => Value.bool x) w.heap.size (Rw.Add M bm) w2 bm [] := OM.mk' hbm qbm hB
 replace hE := hE.trans sw2.below
 replace ht := Rep.sp ht sw2
 replace hk := hk.sp sw2
 replace h1 := h1.sp sw2
 replace hsub := sw2.sb hsub
 replace Lw := sw2.low
 replace hB := sw2.z hB
 refine lC (oL tK (fun j v hv => h1.cell j v hv) rfl rfl rfl rfl rfl rfl ?_)
 refine lC (oK fo94 rfl rfl rfl (right_spec t false [] _ _ _ w.heap.size bm ht hs Lw) ?_)
 rintro _ w3 ⟨rfl, hw3, uw3⟩
 have sw3 := uw3.sp hs.inM Lw hs.ge
 have frw3 := uw3.upd.2
 replace hE := hE.trans sw3.below
 replace ht := Rep.sp ht sw3
 replace hk := hk.sp sw3
 replace h1 := h1.sp sw3
 replace hsub := sw3.sb hsub
 replace Lw := sw3.low
 replace hB := sw3.z hB
 refine lP 1 tK rfl (q1 (cR (x1_ rfl rfl ?_)))
 exact ⟨rfl, hE⟩
theorem kRow_spec (t : Ty) (M : Nat → Prop) (w : World) (v : Value) (ht : Rep.R M w v t) (hlow0 : Low M w) :
  Calls Tryz.prog 105 #[v] w (Ret fun r w' => r = .bool (rightF t true []).1 ∧ Ext w w') := by
 have Lw := hlow0
 have hB := lR w.heap.size
 have hE := Below.refl w.heap.size w
 have hsub : ∀ b, M b → M b := fun _ h => h
 obtain ⟨kv, rfl, op, nm, n64, hk⟩ := tO ht
 refine cN (n := 6) Tryz.func105 rfl rfl rfl ?_
 refine q0 ?_
 refine lC (o_box rfl rfl rfl ?_)
 intro b1 w1 hb_b1 ew1 h1
 replace h1 : Box _ b1 29 [.int .u8 t.op, .string t.name, .int .i64 t.n, kv] := h1
 replace h1 := h1.at (nO Lw hb_b1)
 replace hE := ew1.bl hE hB
 replace ht := Rep.Y ht ew1
 replace hk := hk.Y ew1
 replace Lw := Lw.Y ew1
 replace hB := ew1.z hB
 refine lP 1 tK rfl (q1 (q0 ?_))
 refine lC (o_mkmap (κ := Int) (ν := Bool) (va := (fun x : Bool => Value.bool x)) rfl rfl ?_)
 intro bm w2 qbm ew2 ltbm hbm
 have sw2 := Stp.add ew2 Lw hB (lQ qbm.symm) ltbm
 have hs : OM (κ := Int) (fun x : Bool => Value.bool x) w.heap.size (Rw.Add M bm) w2 bm [] := OM.mk' hbm qbm hB
 replace hE := hE.trans sw2.below
 replace ht := Rep.sp ht sw2
 replace hk := hk.sp sw2
 replace h1 := h1.sp sw2
 replace hsub := sw2.sb hsub
 replace Lw := sw2.low
 replace hB := sw2.z hB
 refine lC (oL tK (fun j v hv => h1.cell j v hv) rfl rfl rfl rfl rfl rfl ?_)
 refine lC (oK fo94 rfl rfl rfl (right_spec t true [] _ _ _ w.heap.size bm ht hs Lw) ?_)
 rintro _ w3 ⟨rfl, hw3, uw3⟩
 have sw3 := uw3.sp hs.inM Lw hs.ge
 have frw3 := uw3.upd.2
 replace hE := hE.trans sw3.below
 replace ht := Rep.sp ht sw3
 replace hk := hk.sp sw3
 replace h1 := h1.sp sw3
 replace hsub := sw3.sb hsub
 replace Lw := sw3.low
 replace hB := sw3.z hB
 refine lP 1 tK rfl (q1 (cR (x1_ rfl rfl ?_)))
 exact ⟨rfl, hE⟩
theorem either_spec (t : Ty) (M : Nat → Prop) (w : World) (v : Value) (ht : Rep.R M w v t) (Lw : Low M w) :
  Calls Tryz.prog 95 #[v] w (Ret fun r w' => r = .bool ((rightF t false []).1 || (rightF t true []).1) ∧ Ext w w') := by
 have hE := Below.refl w.heap.size w
 have hB := lR w.heap.size
 obtain ⟨kv, rfl, op, nm, n64, hk⟩ := tO ht
 refine cN (n := 9) Tryz.func95 rfl rfl rfl ?_
 refine q0 ?_
 refine lC (o_box rfl rfl rfl ?_)
 intro b1 w1 hb_b1 ew1 h1
 replace h1 : Box _ b1 29 [.int .u8 t.op, .string t.name, .int .i64 t.n, kv] := h1
 replace h1 := h1.at (nO Lw hb_b1)
 replace hE := ew1.bl hE hB
 replace ht := Rep.Y ht ew1
 replace hk := hk.Y ew1
 replace Lw := Lw.Y ew1
 replace hB := ew1.z hB
 refine lP 1 tK rfl (q1 (q0 ?_))
 refine lC (oL tK (fun j v hv => h1.cell j v hv) rfl rfl rfl rfl rfl rfl ?_)
 refine lC (oK fo75 rfl rfl rfl (kRight_spec t M _ _ ht Lw) ?_)
 rintro _ w2 ⟨rfl, ew2⟩
 replace hE := ew2.bl hE hB
 replace ht := Rep.Y ht ew2
 replace hk := hk.Y ew2
 replace h1 := h1.Y ew2
 replace Lw := Lw.Y ew2
 replace hB := ew2.z hB
 refine lP 1 tK rfl ?_
 refine l_split 5 _ rfl (fun c1 => ?_) (fun c1 => ?_)
 ·refine lP 4 tK rfl (q1 (cR (x1_ rfl rfl ?_)))
  exact ⟨by simp [c1], hE⟩
 refine lC (oL tK (fun j v hv => h1.cell j v hv) rfl rfl rfl rfl rfl rfl ?_)
 refine lC (oK fo105 rfl rfl rfl (kRow_spec t M _ _ ht Lw) ?_)
 rintro _ w3 ⟨rfl, ew3⟩
 replace hE := ew3.bl hE hB
 replace ht := Rep.Y ht ew3
 replace hk := hk.Y ew3
 replace h1 := h1.Y ew3
 replace Lw := Lw.Y ew3
 replace hB := ew3.z hB
 refine lP 2 tK rfl (q1 (cR (x1_ rfl rfl ?_)))
 exact ⟨by simp [c1], hE⟩
end Go.Proofs.YtpoahmeacjggfaaGreat
namespace Rw
open Go Go.RowKit
section
variable {P : Program} {T : Tab} {n : Nat} {ops : Array Oper} {Q : Exit → Act → World → Prop} {G : Env} {w : World} {K : Env → World → Prop}
  {d ty : Nat} {pos : String} {af : Array Go.Edge} {g : Option (Nat × Bool)}
theorem o_ext {f : FuncId} {args : Array Operand} {tys : Array TypeId} {vs : List Value} {v : Value} (hv : Env.evs G args.toList = some vs) (hc : (callFunc f vs.toArray).run P w = .ok (.value v) w)
    (hg : gd ops G ⟨some d, .call ⟨.value (.func f), args, tys⟩, ty, pos, af, g⟩ = some true) (hdn : Nat.blt d n = true) (h : K ((d, v) :: G) w) : OW P n ops Q G w ⟨some d, .call ⟨.value (.func f), args, tys⟩, ty, pos, af, g⟩ K := by
  refine o_val hg rfl hdn (fun a ha => ?_) h
  have e : args.map a.eval = vs.toArray := array_of_toList (by simp [ha.evs hv])
  simp [execOp, resolve, e, Deferred.ofValue, Act.eval, invoke, hc]
end
open Go Go.RowKit
section
variable {P : Program} {T : Tab} {n : Nat} {ops : Array Oper} {Q : Exit → Act → World → Prop} {S : World → Prop} {G : Env} {w : World} {l : List Nat} {fuel : Nat}
theorem a_ixO {α : Type} [Rep α] {M : Nat → Prop} {w0 : World} {v : Value} {k : List α} {B : Nat} {t : TypeId} {x ix : Operand} {kd : IntKind} {z : Int} {j : Nat} {y : α} {ti te : TI} {e : Nat} {d ty : Nat} {pos : String} {af : Array Go.Edge} {g : Option (Nat × Bool)} (i : Nat) (hT : TabOk P T) (hs : OwnSl e B M w0 v k) (hy : k[j]? = some y) (hi : ops[i]? = some ⟨some d, .indexAddr t x ix, ty, pos, af, g⟩)
    (hx : Env.ev G x = some v) (hix : Env.ev G ix = some (.int kd z)) (hj : z = (j : Int)) (ht : T.get t = some ti) (htd : ti.d = .sl e) (hte : T.get e = some te) (hsz : te.size = Rep.sz α)
    (hg : gd ops G ⟨some d, .indexAddr t x ix, ty, pos, af, g⟩ = some true) (hdn : Nat.blt d n = true) (hr : okTake ops l i = true) (hQ : ∀ v c a w, Q (.panic c) (a.put (some d) v) w → Q (.panic c) a w) (hS : S w)
    (h : ∀ b u, v.ownBlock = some b → Rep.R M w0 u y → OAt w0 b (j * te.size) u.cells.toList → WA P n ops Q S ((d, .pointer (some ⟨b, j * te.size, none⟩)) :: G) w fuel (l ++ [i])) : WA P n ops Q S G w (fuel + 1) l := by
  obtain ⟨us, hrow, hrs⟩ := hs.row
  have hlt : j < k.length := (List.getElem?_eq_some_iff.1 hy).1
  obtain ⟨u, hu, hR⟩ := hrs.get hy
  rcases hrow.2 with ⟨rfl, hn⟩ | ⟨b, cap, cur, rfl, _, _, _⟩
  · omega
  · have hd := (hT t _ ht).d
    rw [htd] at hd
    simp only [TD.Ok] at hd
    subst hj
    have hb : (0 : Int) ≤ (j : Int) ∧ (j : Int) < (k.length : Int) := by omega
    refine a_q (v := .pointer (some ⟨b, j * te.size, none⟩)) i hi rfl hg hdn hr (hQ _) (fun a' ha' w' _ => ?_) hS (h b u rfl hR ⟨fun c q hc => ?_⟩)
    · simp [execOp, ha'.ev hx, ha'.ev hix, Instr.indexAt, asIntOf, run_underlying hd, hb, run_sizeOf hT hte, addr_add]
      intro hge
      omega
    · have := hrow.cells (g := b) rfl (j * Rep.sz α + c) q (hrs.flat_get hu c q hc)
      rw [addr_add, Nat.zero_add] at this
      rw [hsz]; exact this
theorem a_build {t : Nat} {ps : Array (Nat × Operand)} {vs : List Value} {css : List (List Value)} {zero cells : List Value} {pl : List (Nat × Nat)} {d ty : Nat} {pos : String} {af : Array Go.Edge} {g : Option (Nat × Bool)} (i : Nat) (hb : BuildOk P t zero pl) (hi : ops[i]? = some ⟨some d, .build t ps, ty, pos, af, g⟩) (hv : Env.evs G (ps.toList.map (·.2)) = some vs) (hcs : vs.map (·.cells.toList) = css)
    (hf : fillL pl zero ((ps.toList.map (·.1)).zip css) = some cells)
    (hg : gd ops G ⟨some d, .build t ps, ty, pos, af, g⟩ = some true) (hdn : Nat.blt d n = true) (hr : okTake ops l i = true) (hQ : ∀ c a w, Q (.panic c) (a.put (some d) (.agg cells.toArray)) w → Q (.panic c) a w) (hS : S w)
    (h : WA P n ops Q S ((d, .agg cells.toArray) :: G) w fuel (l ++ [i])) : WA P n ops Q S G w (fuel + 1) l :=
  a_q i hi rfl hg hdn hr hQ (fun _ ha w' _ => run_build hb hv hcs hf ha w') hS h
theorem a_ar {bop : BinOp} {t t' : TypeId} {x y : Operand} {k : IntKind} {p q r z : Int} {d ty : Nat} {pos : String} {af : Array Go.Edge} {g : Option (Nat × Bool)} (i : Nat) (hi : ops[i]? = some ⟨some d, .binOp bop t x y t', ty, pos, af, g⟩) (hx : Env.ev G x = some (.int k p)) (hy : Env.ev G y = some (.int k q)) (hr : arI bop p q = some r) (hz : k.wrap r = z)
    (hg : gd ops G ⟨some d, .binOp bop t x y t', ty, pos, af, g⟩ = some true) (hdn : Nat.blt d n = true) (hk : okTake ops l i = true) (hQ : ∀ c a w, Q (.panic c) (a.put (some d) (.int k z)) w → Q (.panic c) a w) (hS : S w)
    (h : WA P n ops Q S ((d, .int k z) :: G) w fuel (l ++ [i])) : WA P n ops Q S G w (fuel + 1) l := by
  refine a_q (v := .int k z) i hi rfl hg hdn hk hQ (fun a ha w' _ => ?_) hS h
  cases bop <;> simp [arI] at hr <;> subst hr <;> subst hz <;> simp [execOp, ha.ev hx, ha.ev hy, eqGuard, binOp, Op.intArith]
end
def sortC (row : Bool) : UInt8 := if row then 114 else 116
def runM : List (Int × Bool) → St → Bool × St
  | [], s => (true, s)
  | p :: l, s => bif (meetS s p.1 p.2).1 then runM l (meetS s p.1 p.2).2 else (false, (meetS s p.1 p.2).2)
theorem runM_append : ∀ (a b : List (Int × Bool)) (s : St), runM (a ++ b) s = bif (runM a s).1 then runM b (runM a s).2 else runM a s
  | [], b, s => rfl
  | p :: a, b, s => by
    simp only [List.cons_append, runM]
    cases h : (meetS s p.1 p.2).1 with
    | true => simp only [cond_true]; exact runM_append a b _
    | false => rfl
/-- The variables, in order. -/
def varP (x : Ty) : List (Int × Bool) := bif numB x.op then [(x.n, decide (x.op = 10))] else []
def varsL (t : Ty) : List (Int × Bool) := (partsL t).flatMap varP
theorem varsL_eq (t : Ty) : varsL t = varP t ++ t.kids.flatMap varsL := by
  unfold varsL
  rw [partsL_eq, List.flatMap_cons, List.flatMap_assoc]
theorem kid_sort {op : Int} {ks : ByteArray} (h : kidsOf op = some ks) {j : Nat} {d : UInt8} (hd : ks.data[j]? = some d) : d = sortC (kidRow op j) := by
  unfold kidsOf at h
  split at h
  · cases h; simp at hd
  · split at h
    · rename_i h4
      cases h
      match j, hd with
      | 0, hd => simp at hd; subst hd; simp [kidRow, h4, sortC]
      | 1, hd => simp at hd; subst hd; simp [kidRow, h4, sortC]
      | j + 2, hd => simp at hd
    · split at h
      · rename_i h5
        cases h
        match j, hd with
        | 0, hd => simp at hd; subst hd; rcases h5 with h5 | h5 <;> simp [kidRow, h5, sortC]
        | j + 1, hd => simp at hd
      · split at h
        · rename_i h11
          cases h
          match j, hd with
          | 0, hd => simp at hd; subst hd; simp [kidRow, h11, sortC]
          | 1, hd => simp at hd; subst hd; simp [kidRow, h11, sortC]
          | j + 2, hd => simp at hd
        · cases h
theorem sortC_row (row : Bool) : decide (((sortC row).toNat : Int) = 114) = row := by cases row <;> rfl
theorem pre_of_shape {t : Ty} {row : Bool} (h : shapeF t (sortC row) = true) : preR t.op row t.kids.length t.name t.n = true ∧ ∃ ks, kidsOf t.op = some ks ∧ t.kids.length = ks.size ∧ all2 (t.kids.map shapeF) ks.data.toList = true := by
  cases hk : kidsOf t.op with
  | none => rw [shape_none hk] at h; cases h
  | some ks =>
    by_cases hl : t.kids.length = ks.size
    · rw [shape_some hk, sortC_row] at h
      rw [Bool.and_eq_true, Bool.and_eq_true] at h
      refine ⟨?_, ks, rfl, hl, h.2.2⟩
      rw [preR, hk]
      have h1 := h.1
      rw [beq_iff_eq] at h1
      simp [hl, h.2.1, h1]
    · rw [shape_len hk hl] at h; cases h
theorem all2_get : ∀ {fs : List (UInt8 → Bool)} {cs : List UInt8}, all2 fs cs = true → ∀ {j : Nat} {f : UInt8 → Bool} {c : UInt8}, fs[j]? = some f → cs[j]? = some c → f c = true := by
  intro fs cs h j f c hf hc
  cases hfc : f c with
  | true => rfl
  | false => rw [all2_false hf hc hfc] at h; cases h
theorem right_shape : ∀ (t : Ty) (row : Bool) (s : St), shapeF t (sortC row) = true → rightF t row s = runM (varsL t) s := by
  refine Ty.ind fun t ih => ?_
  intro row s h
  obtain ⟨hpre, ks, hk, hl, hall⟩ := pre_of_shape h
  have kids : ∀ (l : List Ty) (i : Nat), (∀ x ∈ l, x ∈ t.kids) → (∀ (j : Nat) x, l[j]? = some x → shapeF x (sortC (kidRow t.op (i + j))) = true) → ∀ s, runR (l.map rightF) (kidRow t.op) i s = runM (l.flatMap varsL) s := by
    intro l
    induction l with
    | nil => intro i _ _ s; rfl
    | cons x l ihl =>
      intro i hm hs s
      have hx := ih x (hm x List.mem_cons_self) (kidRow t.op i) s (by simpa using hs 0 x rfl)
      rw [List.map_cons, runR, hx, List.flatMap_cons, runM_append]
      rw [ihl (i + 1) (fun y hy => hm y (List.mem_cons_of_mem _ hy)) (fun j y hy => by have := hs (j + 1) y (by simpa using hy); rwa [show i + 1 + j = i + (j + 1) by omega])]
      cases hb : (runM (varsL x) s).1 with
      | true => rfl
      | false => simp only [cond_false]; rw [← hb]
  have hks : ∀ s, runR (t.kids.map rightF) (kidRow t.op) 0 s = runM (t.kids.flatMap varsL) s := by
    refine kids t.kids 0 (fun x hx => hx) (fun j x hx => ?_)
    have hj : j < ks.data.size := by have := (List.getElem?_eq_some_iff.1 hx).1; rw [size_data]; omega
    have hd : ks.data[j]? = some ks.data[j] := Array.getElem?_eq_getElem hj
    have := all2_get hall (j := j) (f := shapeF x) (c := ks.data[j]) (by rw [List.getElem?_map, hx]; rfl) (by simp)
    rw [kid_sort hk hd] at this
    simpa using this
  rw [varsL_eq, runM_append]
  cases hn : numB t.op with
  | false =>
    rw [right_plain hpre hn, hks]
    simp [varP, hn, runM]
  | true =>
    have hrow : row = decide (t.op = 10) := by
      have h1 := hpre
      rw [preR, hk] at h1
      simp only [Bool.and_eq_true, beq_iff_eq] at h1
      rw [h1.1]
      simp only [numB, Bool.or_eq_true, decide_eq_true_eq] at hn
      rcases hn with hn | hn <;> simp [hn]
    cases hm : (meetS s t.n row).1 with
    | true =>
      rw [right_meet_yes hpre hn hm, hks]
      simp [varP, hn, runM, ← hrow, hm]
    | false =>
      rw [right_meet_no hpre hn hm]
      simp [varP, hn, runM, ← hrow, hm]
theorem shape_right : ∀ (t : Ty) (row : Bool) (s : St), (rightF t row s).1 = true → shapeF t (sortC row) = true := by
  refine Ty.ind fun t ih => ?_
  intro row s h
  cases hpre : preR t.op row t.kids.length t.name t.n with
  | false => rw [right_pre_no hpre] at h; cases h
  | true =>
    have hrun : ∃ s', (runR (t.kids.map rightF) (kidRow t.op) 0 s').1 = true := by
      cases hn : numB t.op with
      | false => rw [right_plain hpre hn] at h; exact ⟨_, h⟩
      | true =>
        cases hm : (meetS s t.n row).1 with
        | true => rw [right_meet_yes hpre hn hm] at h; exact ⟨_, h⟩
        | false => rw [right_meet_no hpre hn hm] at h; cases h
    obtain ⟨s', hrun⟩ := hrun
    have kids : ∀ (l : List Ty) (i : Nat) (s : St), (∀ x ∈ l, x ∈ t.kids) → (runR (l.map rightF) (kidRow t.op) i s).1 = true → ∀ (j : Nat) x, l[j]? = some x → shapeF x (sortC (kidRow t.op (i + j))) = true := by
      intro l
      induction l with
      | nil => intro i s _ _ j x hx; simp at hx
      | cons y l ihl =>
        intro i s hm hr j x hx
        rw [List.map_cons, runR] at hr
        cases hy : (rightF y (kidRow t.op i) s).1 with
        | false => rw [hy] at hr; cases hr
        | true =>
          rw [hy] at hr
          cases j with
          | zero =>
            simp at hx; subst hx
            exact ih y (hm y List.mem_cons_self) _ _ hy
          | succ j =>
            have := ihl (i + 1) _ (fun z hz => hm z (List.mem_cons_of_mem _ hz)) hr j x (by simpa using hx)
            rwa [show i + (j + 1) = i + 1 + j by omega]
    have hsh := kids t.kids 0 s' (fun x hx => hx) hrun
    rw [preR] at hpre
    cases hk : kidsOf t.op with
    | none => rw [hk] at hpre; cases hpre
    | some ks =>
      rw [hk] at hpre
      simp only [Bool.and_eq_true, beq_iff_eq, decide_eq_true_eq] at hpre
      refine shape_yes hk hpre.2.1 ?_ hpre.2.2 (fun j x d hx hd => ?_)
      · rw [sortC_row, beq_iff_eq]; exact hpre.1.symm
      · rw [kid_sort hk hd]; simpa using hsh j x hx
theorem meet_true {s : St} {n : Int} {row : Bool} : (meetS s n row).1 = true ↔ ∀ b, getK s n = some b → b = row := by
  unfold meetS
  cases h : getK s n with
  | none => simp
  | some b => simp
theorem meet_st (s : St) (n : Int) (row : Bool) : (meetS s n row).2 = putK s n row := rfl
theorem runM_true : ∀ (vs : List (Int × Bool)) (s : St), (runM vs s).1 = true ↔ (∀ p ∈ vs, ∀ b, getK s p.1 = some b → b = p.2) ∧ ∀ p ∈ vs, ∀ q ∈ vs, p.1 = q.1 → p.2 = q.2
  | [], s => by simp [runM]
  | p :: l, s => by
    have ih := runM_true l (putK s p.1 p.2)
    rw [runM]
    cases hm : (meetS s p.1 p.2).1 with
    | false =>
      simp only [cond_false, Bool.false_eq_true, false_iff]
      rintro ⟨h1, _⟩
      have := meet_true.2 (h1 p List.mem_cons_self)
      rw [hm] at this; cases this
    | true =>
      have h0 := meet_true.1 hm
      simp only [cond_true, meet_st]
      rw [ih]
      constructor
      · rintro ⟨h1, h2⟩
        have key : ∀ q ∈ l, p.1 = q.1 → p.2 = q.2 := fun q hq e => h1 q hq p.2 (by rw [getK_put, if_pos e.symm])
        refine ⟨fun q hq b hb => ?_, fun q hq r hr e => ?_⟩
        · rcases List.mem_cons.1 hq with rfl | hq
          · exact h0 b hb
          · by_cases e : q.1 = p.1
            · rw [← key q hq e.symm]; exact h0 b (e ▸ hb)
            · exact h1 q hq b (by rw [getK_put, if_neg e]; exact hb)
        · rcases List.mem_cons.1 hq with hqp | hq'
          · subst hqp
            rcases List.mem_cons.1 hr with hrp | hr'
            · rw [hrp]
            · exact key r hr' e
          · rcases List.mem_cons.1 hr with hrp | hr'
            · subst hrp; exact (key q hq' e.symm).symm
            · exact h2 q hq' r hr' e
      · rintro ⟨h1, h2⟩
        refine ⟨fun q hq b hb => ?_, fun q hq r hr e => h2 q (List.mem_cons_of_mem _ hq) r (List.mem_cons_of_mem _ hr) e⟩
        rw [getK_put] at hb
        by_cases e : q.1 = p.1
        · rw [if_pos e] at hb
          cases hb
          exact h2 p List.mem_cons_self q (List.mem_cons_of_mem _ hq) e.symm
        · rw [if_neg e] at hb
          exact h1 q (List.mem_cons_of_mem _ hq) b hb
theorem mem_vars {t : Ty} {p : Int × Bool} : p ∈ varsL t ↔ ∃ x ∈ partsL t, numB x.op = true ∧ p = (x.n, decide (x.op = 10)) := by
  unfold varsL
  rw [List.mem_flatMap]
  constructor
  · rintro ⟨x, hx, hp⟩
    unfold varP at hp
    cases hn : numB x.op with
    | false => rw [hn] at hp; simp at hp
    | true => rw [hn] at hp; simp at hp; exact ⟨x, hx, hn, hp⟩
  · rintro ⟨x, hx, hn, rfl⟩
    exact ⟨x, hx, by simp [varP, hn]⟩
theorem once_true {t : Ty} : onceB t = true ↔ ∀ x ∈ partsL t, ∀ y ∈ partsL t, ¬ (x.op = 7 ∧ y.op = 10 ∧ x.n = y.n) := by
  unfold onceB
  rw [List.all_eq_true]
  constructor
  · intro h x hx y hy hc
    have h1 := h x hx
    rw [List.all_eq_true] at h1
    have h2 := h1 y hy
    simp [hc.1, hc.2.1, hc.2.2] at h2
  · intro h x hx
    rw [List.all_eq_true]
    intro y hy
    have := h x hx y hy
    rw [Bool.not_eq_true', Bool.eq_false_iff]
    intro h0
    simp only [Bool.and_eq_true, decide_eq_true_eq] at h0
    exact this h0
theorem vars_once {t : Ty} : (∀ p ∈ varsL t, ∀ q ∈ varsL t, p.1 = q.1 → p.2 = q.2) ↔ onceB t = true := by
  rw [once_true]
  constructor
  · intro h x hx y hy ⟨h7, h10, hn⟩
    have := h (x.n, decide (x.op = 10)) (mem_vars.2 ⟨x, hx, by simp [numB, h7], rfl⟩) (y.n, decide (y.op = 10)) (mem_vars.2 ⟨y, hy, by simp [numB, h10], rfl⟩) hn
    simp [h7, h10] at this
  · intro h p hp q hq e
    obtain ⟨x, hx, hnx, rfl⟩ := mem_vars.1 hp
    obtain ⟨y, hy, hny, rfl⟩ := mem_vars.1 hq
    simp only at e
    simp only [numB, Bool.or_eq_true, decide_eq_true_eq] at hnx hny
    rcases hnx with h1 | h1 <;> rcases hny with h2 | h2
    · simp [h1, h2]
    · exact absurd ⟨h1, h2, e⟩ (h x hx y hy)
    · exact absurd ⟨h2, h1, e.symm⟩ (h y hy x hx)
    · simp [h1, h2]
theorem right_law (t : Ty) (row : Bool) : (rightF t row []).1 = (shapeF t (sortC row) && onceB t) := by
  rw [Bool.eq_iff_iff, Bool.and_eq_true]
  constructor
  · intro h
    have hs := shape_right t row [] h
    rw [right_shape t row [] hs, runM_true] at h
    exact ⟨hs, vars_once.1 h.2⟩
  · rintro ⟨hs, ho⟩
    rw [right_shape t row [] hs, runM_true]
    exact ⟨fun p _ b hb => by simp [getK] at hb, vars_once.2 ho⟩
theorem rightB_law (t : Ty) : (rightF t false []).1 = rightB t := right_law t false
theorem rowB_law (t : Ty) : (rightF t true []).1 = rowB t := right_law t true
abbrev cmpN (a b : ByteArray) : Int := Go.Lib.compareBytes a.data.toList b.data.toList
theorem cmpB_refl : ∀ a : List UInt8, Go.Lib.compareBytes a a = 0
  | [] => rfl
  | x :: a => by
    have : ¬ x < x := by simp
    rw [Go.Lib.compareBytes, if_neg this, if_neg this]; exact cmpB_refl a
theorem cmpB_flip : ∀ a b : List UInt8, Go.Lib.compareBytes b a = - Go.Lib.compareBytes a b
  | [], [] => rfl
  | [], _ :: _ => rfl
  | _ :: _, [] => rfl
  | x :: a, y :: b => by
    simp only [Go.Lib.compareBytes]
    by_cases h : x < y
    · have h2 : ¬ y < x := UInt8.lt_asymm h
      simp [h, h2]
    · by_cases h2 : y < x
      · simp [h, h2]
      · simp [h, h2, cmpB_flip a b]
theorem cmpB_eq : ∀ {a b : List UInt8}, Go.Lib.compareBytes a b = 0 → a = b
  | [], [], _ => rfl
  | [], _ :: _, h => by simp [Go.Lib.compareBytes] at h
  | _ :: _, [], h => by simp [Go.Lib.compareBytes] at h
  | x :: a, y :: b, h => by
    simp only [Go.Lib.compareBytes] at h
    by_cases h1 : x < y
    · simp [h1] at h
    · by_cases h2 : y < x
      · simp [h1, h2] at h
      · simp [h1, h2] at h
        have : x = y := UInt8.le_antisymm (UInt8.not_lt.1 h2) (UInt8.not_lt.1 h1)
        rw [this, cmpB_eq h]
theorem cmpB_trans : ∀ {a b c : List UInt8}, Go.Lib.compareBytes a b < 0 → Go.Lib.compareBytes b c < 0 → Go.Lib.compareBytes a c < 0
  | [], [], _, h, _ => by simp [Go.Lib.compareBytes] at h
  | _ :: _, [], _, h, _ => by simp [Go.Lib.compareBytes] at h
  | [], _ :: _, [], _, k => by simp [Go.Lib.compareBytes] at k
  | [], _ :: _, _ :: _, _, _ => by simp [Go.Lib.compareBytes]
  | _ :: _, _ :: _, [], _, k => by simp [Go.Lib.compareBytes] at k
  | x :: a, y :: b, z :: c, h, k => by
    simp only [Go.Lib.compareBytes] at h k ⊢
    by_cases h1 : x < y
    · by_cases k1 : y < z
      · simp [UInt8.lt_trans h1 k1]
      · by_cases k2 : z < y
        · simp [k1, k2] at k
        · have : y = z := UInt8.le_antisymm (UInt8.not_lt.1 k2) (UInt8.not_lt.1 k1)
          subst this; simp [h1]
    · by_cases h2 : y < x
      · simp [h1, h2] at h
      · have : x = y := UInt8.le_antisymm (UInt8.not_lt.1 h2) (UInt8.not_lt.1 h1)
        subst this
        simp [h1] at h
        by_cases k1 : x < z
        · simp [k1]
        · by_cases k2 : z < x
          · simp [k1, k2] at k
          · simp [k1, k2] at k ⊢
            exact cmpB_trans h k
theorem cmpN_eq {a b : ByteArray} : cmpN a b = 0 ↔ a = b := by
  constructor
  · intro h
    have := cmpB_eq h
    cases a; cases b
    simp only [ByteArray.mk.injEq]
    exact Array.toList_inj.1 this
  · rintro rfl; exact cmpB_refl _
theorem cmpN_flip (a b : ByteArray) : cmpN b a = - cmpN a b := cmpB_flip _ _
/-- a doesn't belong behind b. -/
def leN (a b : ByteArray) : Prop := ¬ cmpN b a < 0
theorem leN_refl (a : ByteArray) : leN a a := by unfold leN; rw [cmpN_eq.2 rfl]; simp
theorem leN_trans {a b c : ByteArray} (h : leN a b) (k : leN b c) : leN a c := by
  unfold leN at *
  intro hca
  by_cases e : a = b
  · subst e; exact k hca
  · have hab : cmpN a b < 0 := by
      have h1 : cmpN a b ≠ 0 := fun e' => e (cmpN_eq.1 e')
      have h2 := cmpN_flip a b
      omega
    exact k (cmpB_trans hca hab)
theorem leN_antisymm {a b : ByteArray} (h : leN a b) (k : leN b a) : a = b := by
  unfold leN at *
  have h2 := cmpN_flip a b
  exact cmpN_eq.1 (by omega)
theorem leN_of_lt {a b : ByteArray} (h : cmpN a b < 0) : leN a b := by
  unfold leN
  have h2 := cmpN_flip a b
  omega
/-- In order. -/
def Srt (l : List Fld) : Prop := l.Pairwise fun x y => leN x.name y.name
/-- The same, name by name, in the same order. -/
def StP (l k : List Fld) : Prop := ∀ s : ByteArray, l.filter (fun f => decide (f.name = s)) = k.filter (fun f => decide (f.name = s))
theorem StP.refl (l : List Fld) : StP l l := fun _ => rfl
theorem StP.trans {a b c : List Fld} (h : StP a b) (k : StP b c) : StP a c := fun s => (h s).trans (k s)
theorem StP.symm {a b : List Fld} (h : StP a b) : StP b a := fun s => (h s).symm
theorem StP.app {a b c d : List Fld} (h : StP a b) (k : StP c d) : StP (a ++ c) (b ++ d) := fun s => by rw [List.filter_append, List.filter_append, h s, k s]
theorem StP.swap {x y : Fld} (h : x.name ≠ y.name) : StP [x, y] [y, x] := fun s => by
  by_cases hx : x.name = s <;> by_cases hy : y.name = s
  · exact absurd (hx.trans hy.symm) h
  · simp [List.filter_cons, hx, hy]
  · simp [List.filter_cons, hx, hy]
  · simp [List.filter_cons, hx, hy]
theorem StP.mem {a b : List Fld} (h : StP a b) {x : Fld} (hx : x ∈ a) : x ∈ b := by
  have : x ∈ a.filter (fun f => decide (f.name = x.name)) := List.mem_filter.2 ⟨hx, by simp⟩
  rw [h x.name] at this
  exact (List.mem_filter.1 this).1
theorem srt_uniq : ∀ {a b : List Fld}, Srt a → Srt b → StP a b → a = b
  | [], [], _, _, _ => rfl
  | [], y :: b, _, _, h => by have := h.symm.mem (List.mem_cons_self (a := y)); cases this
  | x :: a, [], _, _, h => by have := h.mem (List.mem_cons_self (a := x)); cases this
  | x :: a, y :: b, ha, hb, h => by
    have ha' := List.pairwise_cons.1 ha
    have hb' := List.pairwise_cons.1 hb
    have h1 : leN x.name y.name := by
      rcases List.mem_cons.1 (h.symm.mem (List.mem_cons_self (a := y))) with e | hm
      · rw [e]; exact leN_refl _
      · exact ha'.1 y hm
    have h2 : leN y.name x.name := by
      rcases List.mem_cons.1 (h.mem (List.mem_cons_self (a := x))) with e | hm
      · rw [e]; exact leN_refl _
      · exact hb'.1 x hm
    have hn := leN_antisymm h1 h2
    have hs := h x.name
    rw [List.filter_cons_of_pos (by simp), List.filter_cons_of_pos (by simp [hn])] at hs
    have hxy : x = y := (List.cons.inj hs).1
    subst hxy
    rw [srt_uniq ha'.2 hb'.2 (fun s => by
      have := h s
      by_cases e : x.name = s
      · rw [List.filter_cons_of_pos (by simp [e]), List.filter_cons_of_pos (by simp [e])] at this
        exact (List.cons.inj this).2
      · rwa [List.filter_cons_of_neg (by simp [e]), List.filter_cons_of_neg (by simp [e])] at this)]
/-- In order, from place a to place b. -/
def SrtOn (l : List Fld) (a b : Nat) : Prop := ∀ (p q : Nat) (x y : Fld), a ≤ p → p < q → q < b → l[p]? = some x → l[q]? = some y → leN x.name y.name
/-- From place a to place b put otherwise, but name by name as it was; the rest as it was. -/
structure Rng (l k : List Fld) (a b : Nat) : Prop where
  len : k.length = l.length
  out : ∀ j, (j < a ∨ b ≤ j) → k[j]? = l[j]?
  st : StP l k
theorem Rng.refl (l : List Fld) (a b : Nat) : Rng l l a b := ⟨rfl, fun _ _ => rfl, StP.refl l⟩
theorem Rng.trans {l k m : List Fld} {a b : Nat} (h : Rng l k a b) (g : Rng k m a b) : Rng l m a b :=
  ⟨g.len.trans h.len, fun j hj => (g.out j hj).trans (h.out j hj), h.st.trans g.st⟩
theorem Rng.wider {l k : List Fld} {a b a' b' : Nat} (h : Rng l k a b) (ha : a' ≤ a) (hb : b ≤ b') : Rng l k a' b' := ⟨h.len, fun j hj => h.out j (by omega), h.st⟩
theorem two_at {l : List Fld} {j : Nat} (hj : j + 1 < l.length) : l = l.take j ++ ([l[j], l[j + 1]] ++ l.drop (j + 2)) := by
  conv => lhs; rw [← List.take_append_drop j l]
  rw [List.drop_eq_getElem_cons (show j < l.length by omega), List.drop_eq_getElem_cons hj]
  rfl
theorem swap_eq {l : List Fld} {j : Nat} (hj : j + 1 < l.length) : (l.set (j + 1) l[j]).set j l[j + 1] = l.take j ++ ([l[j + 1], l[j]] ++ l.drop (j + 2)) := by
  apply List.ext_getElem?
  intro i
  rw [List.getElem?_set, List.getElem?_set]
  have ht : (l.take j).length = j := by simp; omega
  by_cases h1 : i < j
  · rw [List.getElem?_append_left (by omega), List.getElem?_take]
    simp [h1, show ¬ j = i by omega, show ¬ j + 1 = i by omega]
  · rw [List.getElem?_append_right (by omega), ht]
    by_cases h2 : i = j
    · subst h2; simp [show i < l.length by omega]
    · by_cases h3 : i = j + 1
      · subst h3; simp [show ¬ j = j + 1 by omega, hj]
      · rw [if_neg (by omega), if_neg (by omega), List.getElem?_append_right (by simp; omega), List.getElem?_drop]
        congr 1
        simp
        omega
theorem swap_rng {l : List Fld} {j : Nat} (hj : j + 1 < l.length) (hn : l[j].name ≠ l[j + 1].name) {a b : Nat} (ha : a ≤ j) (hb : j + 1 < b) : Rng l ((l.set (j + 1) l[j]).set j l[j + 1]) a b := by
  refine ⟨by simp, fun i hi => ?_, ?_⟩
  · rw [List.getElem?_set, List.getElem?_set]
    simp [show ¬ j = i by omega, show ¬ j + 1 = i by omega]
  · rw [swap_eq hj]
    conv => lhs; rw [two_at hj]
    exact (StP.refl _).app ((StP.swap hn).app (StP.refl _))
/-- One is on its way forward: from a to i all but number j are in order, and it is ahead of those behind it. -/
structure InsI (l : List Fld) (a i j : Nat) : Prop where
  rest : ∀ (p q : Nat) (x y : Fld), a ≤ p → p < q → q ≤ i → p ≠ j → q ≠ j → l[p]? = some x → l[q]? = some y → leN x.name y.name
  self : ∀ (q : Nat) (x y : Fld), j < q → q ≤ i → l[j]? = some x → l[q]? = some y → leN x.name y.name
theorem ins_start {l : List Fld} {a i : Nat} (h : SrtOn l a i) : InsI l a i i :=
  ⟨fun p q x y hp hpq hq _ hqi hx hy => h p q x y hp hpq (by omega) hx hy, fun q x y h1 h2 => absurd h1 (by omega)⟩
theorem ins_front {l : List Fld} {a i : Nat} (h : InsI l a i a) : SrtOn l a (i + 1) := fun p q x y hp hpq hq hx hy => by
  by_cases e : p = a
  · subst e; exact h.self q x y hpq (by omega) hx hy
  · exact h.rest p q x y hp hpq (by omega) e (by omega) hx hy
theorem ins_stop {l : List Fld} {a i j : Nat} (h : InsI l a i (j + 1)) (ha : a ≤ j) (hi : j + 1 ≤ i) (hj : j + 1 < l.length) (hle : leN l[j].name l[j + 1].name) : SrtOn l a (i + 1) := fun p q x y hp hpq hq hx hy => by
  by_cases e : p = j + 1
  · subst e; exact h.self q x y hpq (by omega) hx hy
  · by_cases e2 : q = j + 1
    · subst e2
      rw [gE hj] at hy
      cases hy
      by_cases e3 : p = j
      · subst e3
        rw [gE (by omega)] at hx
        cases hx; exact hle
      · exact leN_trans (h.rest p j x l[j] hp (by omega) (by omega) e (by omega) hx (gE (by omega))) hle
    · exact h.rest p q x y hp hpq (by omega) e e2 hx hy
theorem swap_get {l : List Fld} {j : Nat} (hj : j + 1 < l.length) (p : Nat) : ((l.set (j + 1) l[j]).set j l[j + 1])[p]? = if p = j then some l[j + 1] else if p = j + 1 then some l[j] else l[p]? := by
  rw [List.getElem?_set, List.getElem?_set]
  by_cases h1 : p = j
  · subst h1; simp [show p < l.length by omega]
  · by_cases h2 : p = j + 1
    · subst h2; simp [hj]
    · simp [h1, h2, show ¬ j = p by omega, show ¬ j + 1 = p by omega]
theorem ins_step {l : List Fld} {a i j : Nat} (h : InsI l a i (j + 1)) (ha : a ≤ j) (hi : j + 1 ≤ i) (hj : j + 1 < l.length) (hlt : cmpN l[j + 1].name l[j].name < 0) : InsI ((l.set (j + 1) l[j]).set j l[j + 1]) a i j := by
  have hjj : l[j]? = some l[j] := gE (by omega)
  have hj1 : l[j + 1]? = some l[j + 1] := gE hj
  refine ⟨fun p q x y hp hpq hq hpj hqj hx hy => ?_, fun q x y hq hqi hx hy => ?_⟩
  · rw [swap_get hj] at hx hy
    rw [if_neg hpj] at hx
    rw [if_neg hqj] at hy
    by_cases e : p = j + 1
    · rw [if_pos e] at hx
      rw [if_neg (by omega)] at hy
      cases hx
      exact h.rest j q _ y (by omega) (by omega) hq (by omega) (by omega) hjj hy
    · rw [if_neg e] at hx
      by_cases e2 : q = j + 1
      · rw [if_pos e2] at hy
        cases hy
        exact h.rest p j x _ hp (by omega) (by omega) e (by omega) hx hjj
      · rw [if_neg e2] at hy
        exact h.rest p q x y hp hpq hq e e2 hx hy
  · rw [swap_get hj] at hx hy
    rw [if_pos rfl] at hx
    rw [if_neg (by omega)] at hy
    cases hx
    by_cases e : q = j + 1
    · rw [if_pos e] at hy
      cases hy
      exact leN_of_lt hlt
    · rw [if_neg e] at hy
      exact h.self q _ y (by omega) hqi hj1 hy
end Rw
namespace Go.Proofs.YtpoahmeacjggfaaGreat
open Go Rw Go.RowKit
set_option maxRecDepth 100000
theorem cmpstring_run (a b : ByteArray) (w : World) : (callFunc 124 ([.string a, .string b] : List Value).toArray).run Tryz.prog w = .ok (.value (.int .i64 (Lib.compareBytes a.data.toList b.data.toList))) w := by
 rw [run_callFunc_extern Tryz.func124 (by kernel_rfl) (by kernel_rfl) (by kernel_rfl) (e := Extern.BytealgCompare.compare) (by kernel_rfl), Lib.run_compareString]
 rfl
theorem compareString_spec (w : World) (a b : ByteArray) :
  Calls Tryz.prog 120 #[.string a, .string b] w (Ret fun r w' => r = .int .i64 (Lib.compareBytes a.data.toList b.data.toList) ∧ w = w') := by
 refine cN (n := 8) Tryz.func120 rfl rfl rfl ?_
 refine q0 (lP 1 tK rfl (q1 (q0 (lP 2 tK rfl ?_))))
 refine lC (o_ext rfl (cmpstring_run a b _) rfl rfl ?_)
 refine lP 1 tK rfl (q1 (cR (x1_ rfl rfl ?_)))
 exact ⟨rfl, rfl⟩
theorem compare_spec (w : World) (a b : ByteArray) :
  Calls Tryz.prog 116 #[.string a, .string b] w (Ret fun r w' => r = .int .i64 (Lib.compareBytes a.data.toList b.data.toList) ∧ w = w') := by
 refine cN (n := 8) Tryz.func116 rfl rfl rfl ?_
 refine q0 (lP 1 tK rfl (q1 (q0 (lP 2 tK rfl ?_))))
 refine lC (oK fo120 rfl rfl rfl (compareString_spec _ a b) ?_)
 rintro _ _ ⟨rfl, rfl⟩
 refine lP 1 tK rfl (q1 (cR (x1_ rfl rfl ?_)))
 exact ⟨rfl, rfl⟩
theorem byName_spec (M : Nat → Prop) (w : World) (x y : Value) (a b : Fld) (ha : Rep.R M w x a) (hb : Rep.R M w y b) (Lw : Low M w) :
  Calls Tryz.prog 115 #[x, y] w (Ret fun r w' => r = .int .i64 (Lib.compareBytes a.name.data.toList b.name.data.toList) ∧ Ext w w') := by
 have hE := Below.refl w.heap.size w
 have hB := lR w.heap.size
 obtain ⟨sza, kva, rfl, hya⟩ := fld_open ha
 obtain ⟨szb, kvb, rfl, hyb⟩ := fld_open hb
 refine cN (n := 10) Tryz.func115 rfl rfl rfl ?_
 refine q0 ?_
 refine lC (o_box rfl rfl rfl ?_)
 intro b1 w1 hb_b1 ew1 h1
 replace h1 : Box _ b1 125 [.string a.name, .int .u8 a.ty.op, .string a.ty.name, .int .i64 a.ty.n, kva] := h1
 replace h1 := h1.at (nO Lw hb_b1)
 replace hE := ew1.bl hE hB
 replace Lw := Lw.Y ew1
 replace hB := ew1.z hB
 refine lC (o_box rfl rfl rfl ?_)
 intro b2 w2 hb_b2 ew2 h2
 replace h2 : Box _ b2 125 [.string b.name, .int .u8 b.ty.op, .string b.ty.name, .int .i64 b.ty.n, kvb] := h2
 replace h2 := h2.at (nO Lw hb_b2)
 replace hE := ew2.bl hE hB
 replace h1 := h1.Y ew2
 replace Lw := Lw.Y ew2
 replace hB := ew2.z hB
 refine lP 1 tK rfl (q1 (q0 (lP 1 tK rfl ?_)))
 refine lC (oD tK (h1.cell 0 _ rfl) rfl rfl rfl rfl rfl ?_)
 refine lP 1 tK rfl ?_
 refine lC (oD tK (h2.cell 0 _ rfl) rfl rfl rfl rfl rfl ?_)
 refine lC (oK fo116 rfl rfl rfl (compare_spec _ a.name b.name) ?_)
 rintro _ _ ⟨rfl, rfl⟩
 refine lP 1 tK rfl (q1 (cR (x1_ rfl rfl ?_)))
 exact ⟨rfl, hE⟩
theorem insertion_spec (M : Nat → Prop) (w : World) (B : Nat) (v : Value) (l : List Fld) (a b : Nat) (hd : OwnSl 125 B M w v l) (hab : a ≤ b) (hb : b ≤ l.length) (hl : l.length < 140737488355328) (Lw : Low M w) (hB : B ≤ w.heap.size) :
  Calls Tryz.prog 122 #[v, .int .i64 (a : Int), .int .i64 (b : Int), .func (.func 115) #[] #[]] w (Ret fun r w' => r = .tuple #[] ∧ (∃ l', OwnSl 125 B M w' v l' ∧ Rng l l' a b ∧ SrtOn l' a b) ∧ Stp B M M w w' ∧ (∀ x, x < w.heap.size → some x ≠ v.ownBlock → w'.heap[x]? = w.heap[x]?)) := by
 have hT : Stp B M M w w := Stp.refl Lw
 have hF : (∀ x, x < w.heap.size → some x ≠ v.ownBlock → w.heap[x]? = w.heap[x]?) := fun _ _ _ => rfl
 refine cN (n := 53) Tryz.func122 rfl rfl rfl ?_
 refine q0 (lP 1 tK rfl ?_)
 refine lC (o_ai rfl rfl rfl (by omega) rfl rfl ?_)
 refine lP 1 tK rfl (q1 (cB ?_))
 refine c_loop2 (X := Nat) (Y := List Fld) (fun i l' => [(0, v), (1, .int .i64 (a : Int)), (2, .int .i64 (b : Int)), (3, .func (.func 115) #[] #[]), (8, .int .i64 (i : Nat))]) (fun i l' w' => a + 1 ≤ i ∧ (i ≤ b ∨ i = a + 1) ∧ SrtOn l' a i ∧ OwnSl 125 B M w' v l' ∧ Rng l l' a b ∧ Low M w' ∧ B ≤ w'.heap.size ∧ Stp B M M w w' ∧ (∀ x, x < w.heap.size → some x ≠ (v : Value).ownBlock → w'.heap[x]? = w.heap[x]?)) (fun i l' => b + 1 - i) (a + 1) (l) (s5 rfl rfl rfl rfl (gN rfl (by omega))) ?_ ?_
 ·exact ⟨lR _, .inr rfl, fun p q x y hp hpq hq => by omega, hd, Rng.refl _ _ _, Lw, hB, hT, hF⟩
 rintro i l2 w1 ⟨hi, hib, hso, hd, hrg, Lw, hB, hT, hF⟩
 refine cS (q0 (lP 3 tK rfl (q1 ?_)))
 refine cP _ rfl (fun c1 => ?_) (fun c1 => ?_)
 ·refine cK (xS (cS (cB (q0 (lP 2 tK rfl (q1 (cB ?_)))))))
  have hin : i < b := by omega
  have hlen := hrg.len
  refine c_loop2 (X := Nat) (Y := List Fld) (fun j l' => [(0, v), (1, .int .i64 (a : Int)), (2, .int .i64 (b : Int)), (3, .func (.func 115) #[] #[]), (8, .int .i64 (i : Nat)), (9, .int .i64 (j : Nat))]) (fun j l' w' => a ≤ j ∧ j ≤ i ∧ InsI l' a i j ∧ OwnSl 125 B M w' v l' ∧ Rng l l' a b ∧ Low M w' ∧ B ≤ w'.heap.size ∧ Stp B M M w w' ∧ (∀ x, x < w.heap.size → some x ≠ (v : Value).ownBlock → w'.heap[x]? = w.heap[x]?)) (fun j l' => j) (i) (l2) (s6 rfl rfl rfl rfl rfl rfl) ?_ ?_
  ·exact ⟨by omega, lR _, ins_start hso, hd, hrg, Lw, hB, hT, hF⟩
  rintro j l3 w2 ⟨haj, hji, hins, hd, hrg, Lw, hB, hT, hF⟩
  refine cS (cS ?_)
  refine a_beg (fun _ _ => True) rfl ?_
  intro w3 ew3
  replace hF : ∀ x, x < w.heap.size → some x ≠ (v : Value).ownBlock → w3.heap[x]? = w.heap[x]? := fun x hx hn => (ew3.block x (lT hx hT.upd.1)).trans (hF x hx hn)
  replace hT := hT.then (Stp.Y ew3 Lw hB)
  replace hd := hd.Y Lw hB ew3
  replace Lw := Lw.Y ew3
  replace hB := ew3.z hB
  have hS : True := trivial
  refine a_p 0 tK rfl rfl rfl rfl (by kernel_rfl) i3 hS ?_
  refine a_p 1 tK rfl rfl rfl rfl (by kernel_rfl) i3 hS ?_
  refine a_p 2 tK rfl rfl rfl rfl (by kernel_rfl) i3 hS ?_
  refine a_p 3 tK rfl rfl rfl rfl (by kernel_rfl) i3 hS ?_
  refine a_splitP 21 _ rfl (fun cj => ?_) (fun cj => ?_)
  ·obtain ⟨j0, rfl⟩ : ∃ j0, j = j0 + 1 := ⟨j - 1, by omega⟩
   have hlen3 := hrg.len
   have hj1 : j0 + 1 < l3.length := by omega
   have hj0 : j0 < l3.length := by omega
   refine a_p 4 tK rfl rfl rfl rfl (by kernel_rfl) i3 hS ?_
   refine a_p 5 tK rfl rfl rfl rfl (by kernel_rfl) i3 hS ?_
   refine a_p 6 tK rfl rfl rfl rfl (by kernel_rfl) i3 hS ?_
   refine a_ixO 7 tK hd (gE hj1) rfl rfl rfl (by omega) rfl rfl rfl rfl rfl rfl (by kernel_rfl) i4 hS ?_
   intro ibq1 iuq1 hobq1 hrq1 hatq1
   obtain ⟨szq1, kvq1, rfl, hyq1⟩ := fld_open hrq1
   replace hatq1 : OAt _ _ _ [.string l3[j0 + 1].name, .int .u8 l3[j0 + 1].ty.op, .string l3[j0 + 1].ty.name, .int .i64 l3[j0 + 1].ty.n, kvq1] := hatq1
   refine a_p 9 tK rfl rfl rfl rfl (by kernel_rfl) i3 hS ?_
   refine a_p 10 tK rfl rfl rfl rfl (by kernel_rfl) i3 hS ?_
   refine a_ar 11 rfl rfl rfl rfl (IntWalk.i64_in _ (by omega)) rfl rfl (by kernel_rfl) i3 hS ?_
   refine a_ixO 12 tK hd (gE hj0) rfl rfl rfl (by omega) rfl rfl rfl rfl rfl rfl (by kernel_rfl) i4 hS ?_
   intro ibq2 iuq2 hobq2 hrq2 hatq2
   obtain ⟨szq2, kvq2, rfl, hyq2⟩ := fld_open hrq2
   replace hatq2 : OAt _ _ _ [.string l3[j0].name, .int .u8 l3[j0].ty.op, .string l3[j0].ty.name, .int .i64 l3[j0].ty.n, kvq2] := hatq2
   refine a_all [8, 13] (by kernel_rfl) rfl (all_cons (i := 8) rfl ?_ (all_cons (i := 13) rfl ?_ all_nil))
   ·refine oL tK (fun j v hv => hatq1.cell j v hv) rfl rfl rfl rfl rfl rfl ?_
    refine ⟨hS, ?_⟩
    refine a_one 13 rfl (by kernel_rfl) (oL tK (fun j v hv => hatq2.cell j v hv) rfl rfl rfl rfl rfl rfl ?_)
    refine ⟨hS, ?_⟩
    refine a_one 14 rfl (by kernel_rfl) (o_dyn rfl fo115 rfl rfl rfl (byName_spec M _ _ _ _ _ hrq1 hrq2 Lw) ?_)
    rintro _ w4 ⟨rfl, ew4⟩
    replace hF : ∀ x, x < w.heap.size → some x ≠ (v : Value).ownBlock → w4.heap[x]? = w.heap[x]? := fun x hx hn => (ew4.block x (lT hx hT.upd.1)).trans (hF x hx hn)
    replace hT := hT.then (Stp.Y ew4 Lw hB)
    replace hd := hd.Y Lw hB ew4
    replace hrq1 := Rep.Y hrq1 ew4
    replace hrq2 := Rep.Y hrq2 ew4
    replace Lw := Lw.Y ew4
    replace hB := ew4.z hB
    refine ⟨hS, ?_⟩
    refine a_p 15 tK rfl rfl rfl rfl (by kernel_rfl) i3 hS ?_
    refine a_p 16 tK rfl rfl rfl rfl (by kernel_rfl) i3 hS ?_
    refine a_end (by kernel_rfl) ?_
    refine xS ?_
    refine cP _ rfl (fun hlt => ?_) (fun hlt => ?_)
    ·have hne : l3[j0].name ≠ l3[j0 + 1].name := fun e => by rw [e] at hlt; exact absurd hlt (by rw [cmpB_refl]; decide)
     refine cK (xS (cS (cB ?_)))
     refine a_beg (fun _ _ => True) rfl ?_
     intro w5 ew5
     replace hF : ∀ x, x < w.heap.size → some x ≠ (v : Value).ownBlock → w5.heap[x]? = w.heap[x]? := fun x hx hn => (ew5.block x (lT hx hT.upd.1)).trans (hF x hx hn)
     replace hT := hT.then (Stp.Y ew5 Lw hB)
     replace hd := hd.Y Lw hB ew5
     replace hrq1 := Rep.Y hrq1 ew5
     replace hrq2 := Rep.Y hrq2 ew5
     replace Lw := Lw.Y ew5
     replace hB := ew5.z hB
     have hS : True := trivial
     refine a_p 0 tK rfl rfl rfl rfl (by kernel_rfl) i3 hS ?_
     refine a_p 1 tK rfl rfl rfl rfl (by kernel_rfl) i3 hS ?_
     refine a_p 2 tK rfl rfl rfl rfl (by kernel_rfl) i3 hS ?_
     refine a_p 3 tK rfl rfl rfl rfl (by kernel_rfl) i3 hS ?_
     refine a_ar 4 rfl rfl rfl rfl (IntWalk.i64_in _ (by omega)) rfl rfl (by kernel_rfl) i3 hS ?_
     refine a_p 5 tK rfl rfl rfl rfl (by kernel_rfl) i3 hS ?_
     refine a_p 6 tK rfl rfl rfl rfl (by kernel_rfl) i3 hS ?_
     refine a_ar 7 rfl rfl rfl rfl (IntWalk.i64_in _ (by omega)) rfl rfl (by kernel_rfl) i3 hS ?_
     refine a_ixO 8 tK hd (gE hj0) rfl rfl rfl (by omega) rfl rfl rfl rfl rfl rfl (by kernel_rfl) i4 hS ?_
     intro ibq3 iuq3 hobq3 hrq3 hatq3
     obtain ⟨szq3, kvq3, rfl, hyq3⟩ := fld_open hrq3
     replace hatq3 : OAt _ _ _ [.string l3[j0].name, .int .u8 l3[j0].ty.op, .string l3[j0].ty.name, .int .i64 l3[j0].ty.n, kvq3] := hatq3
     refine a_p 10 tK rfl rfl rfl rfl (by kernel_rfl) i3 hS ?_
     refine a_p 11 tK rfl rfl rfl rfl (by kernel_rfl) i3 hS ?_
     refine a_ixO 12 tK hd (gE hj1) rfl rfl rfl (by omega) rfl rfl rfl rfl rfl rfl (by kernel_rfl) i4 hS ?_
     intro ibq4 iuq4 hobq4 hrq4 hatq4
     obtain ⟨szq4, kvq4, rfl, hyq4⟩ := fld_open hrq4
     replace hatq4 : OAt _ _ _ [.string l3[j0 + 1].name, .int .u8 l3[j0 + 1].ty.op, .string l3[j0 + 1].ty.name, .int .i64 l3[j0 + 1].ty.n, kvq4] := hatq4
     refine a_all [9, 13] (by kernel_rfl) rfl (all_cons (i := 9) rfl ?_ (all_cons (i := 13) rfl ?_ all_nil))
     ·refine oL tK (fun j v hv => hatq3.cell j v hv) rfl rfl rfl rfl rfl rfl ?_
      refine ⟨hS, ?_⟩
      refine a_one 13 rfl (by kernel_rfl) (oL tK (fun j v hv => hatq4.cell j v hv) rfl rfl rfl rfl rfl rfl ?_)
      refine ⟨hS, ?_⟩
      refine a_ixO 14 tK hd (gE hj1) rfl rfl rfl (by omega) rfl rfl rfl rfl rfl rfl (by kernel_rfl) i4 hS ?_
      intro ibq5 iuq5 hobq5 hrq5 hatq5
      obtain ⟨szq5, kvq5, rfl, hyq5⟩ := fld_open hrq5
      replace hatq5 : OAt _ _ _ [.string l3[j0 + 1].name, .int .u8 l3[j0 + 1].ty.op, .string l3[j0 + 1].ty.name, .int .i64 l3[j0 + 1].ty.n, kvq5] := hatq5
      refine a_one 15 rfl (by kernel_rfl) (o_stO tK hd hobq5 (by first | omega | (simp; omega)) hrq3 Lw rfl rfl rfl rfl rfl rfl ?_)
      intro w6 hw6 sw6 frw6
      replace hF : ∀ x, x < w.heap.size → some x ≠ (v : Value).ownBlock → w6.heap[x]? = w.heap[x]? := fun x hx hn => (frw6 x (lT hx hT.upd.1) (fun e => hn (by rw [hobq5, e]))).trans (hF x hx hn)
      replace hT := hT.then sw6
      replace hrq1 := Rep.sp hrq1 sw6
      replace hrq2 := Rep.sp hrq2 sw6
      replace hrq3 := Rep.sp hrq3 sw6
      replace hrq4 := Rep.sp hrq4 sw6
      replace hrq5 := Rep.sp hrq5 sw6
      replace Lw := sw6.low
      replace hB := sw6.z hB
      refine ⟨hS, ?_⟩
      replace hd := hw6
      clear hw6
      refine a_ixO 16 tK hd (gE (by simpa using hj0)) rfl rfl rfl (by omega) rfl rfl rfl rfl rfl rfl (by kernel_rfl) i4 hS ?_
      intro ibq6 iuq6 hobq6 hrq6 hatq6
      refine a_one 17 rfl (by kernel_rfl) (o_stO tK hd hobq6 (by first | omega | (simp; omega)) hrq4 Lw rfl rfl rfl rfl rfl rfl ?_)
      intro w7 hw7 sw7 frw7
      replace hF : ∀ x, x < w.heap.size → some x ≠ (v : Value).ownBlock → w7.heap[x]? = w.heap[x]? := fun x hx hn => (frw7 x (lT hx hT.upd.1) (fun e => hn (by rw [hobq6, e]))).trans (hF x hx hn)
      replace hT := hT.then sw7
      replace hrq1 := Rep.sp hrq1 sw7
      replace hrq2 := Rep.sp hrq2 sw7
      replace hrq3 := Rep.sp hrq3 sw7
      replace hrq4 := Rep.sp hrq4 sw7
      replace hrq5 := Rep.sp hrq5 sw7
      replace Lw := sw7.low
      replace hB := sw7.z hB
      refine ⟨hS, ?_⟩
      replace hd := hw7
      clear hw7
      refine a_end (by kernel_rfl) ?_
      refine x_blk (xS (cG (lP 1 tK rfl ?_)))
      refine lC (o_ai rfl rfl rfl (by omega) rfl rfl ?_)
      refine lP 1 tK rfl (lN ?_)
      exact xN (j0) (((l3.set (j0 + 1) l3[j0]).set j0 l3[j0 + 1])) (s6 rfl rfl rfl rfl rfl (gN rfl (by omega))) ⟨by omega, by omega, ins_step hins (by omega) (by omega) hj1 hlt, hd, hrg.trans (swap_rng hj1 hne (by omega) (by omega)), Lw, hB, hT, hF⟩ (by omega)
     refine oL tK (fun j v hv => hatq4.cell j v hv) rfl rfl rfl rfl rfl rfl ?_
     refine ⟨hS, ?_⟩
     refine a_one 9 rfl (by kernel_rfl) (oL tK (fun j v hv => hatq3.cell j v hv) rfl rfl rfl rfl rfl rfl ?_)
     refine ⟨hS, ?_⟩
     refine a_ixO 14 tK hd (gE (by simpa using hj1)) rfl rfl rfl (by omega) rfl rfl rfl rfl rfl rfl (by kernel_rfl) i4 hS ?_
     intro ibq7 iuq7 hobq7 hrq7 hatq7
     refine a_one 15 rfl (by kernel_rfl) (o_stO tK hd hobq7 (by first | omega | (simp; omega)) hrq3 Lw rfl rfl rfl rfl rfl rfl ?_)
     intro w8 hw8 sw8 frw8
     replace hF : ∀ x, x < w.heap.size → some x ≠ (v : Value).ownBlock → w8.heap[x]? = w.heap[x]? := fun x hx hn => (frw8 x (lT hx hT.upd.1) (fun e => hn (by rw [hobq7, e]))).trans (hF x hx hn)
     replace hT := hT.then sw8
     replace hrq1 := Rep.sp hrq1 sw8
     replace hrq2 := Rep.sp hrq2 sw8
     replace hrq3 := Rep.sp hrq3 sw8
     replace hrq4 := Rep.sp hrq4 sw8
     replace Lw := sw8.low
     replace hB := sw8.z hB
     refine ⟨hS, ?_⟩
     replace hd := hw8
     clear hw8
     refine a_ixO 16 tK hd (gE (by simpa using hj0)) rfl rfl rfl (by omega) rfl rfl rfl rfl rfl rfl (by kernel_rfl) i4 hS ?_
     intro ibq8 iuq8 hobq8 hrq8 hatq8
     refine a_one 17 rfl (by kernel_rfl) (o_stO tK hd hobq8 (by first | omega | (simp; omega)) hrq4 Lw rfl rfl rfl rfl rfl rfl ?_)
     intro w9 hw9 sw9 frw9
     replace hF : ∀ x, x < w.heap.size → some x ≠ (v : Value).ownBlock → w9.heap[x]? = w.heap[x]? := fun x hx hn => (frw9 x (lT hx hT.upd.1) (fun e => hn (by rw [hobq8, e]))).trans (hF x hx hn)
     replace hT := hT.then sw9
     replace hrq1 := Rep.sp hrq1 sw9
     replace hrq2 := Rep.sp hrq2 sw9
     replace hrq3 := Rep.sp hrq3 sw9
     replace hrq4 := Rep.sp hrq4 sw9
     replace Lw := sw9.low
     replace hB := sw9.z hB
     refine ⟨hS, ?_⟩
     replace hd := hw9
     clear hw9
     refine a_end (by kernel_rfl) ?_
     refine x_blk (xS (cG (lP 1 tK rfl ?_)))
     refine lC (o_ai rfl rfl rfl (by omega) rfl rfl ?_)
     refine lP 1 tK rfl (lN ?_)
     exact xN (j0) (((l3.set (j0 + 1) l3[j0]).set j0 l3[j0 + 1])) (s6 rfl rfl rfl rfl rfl (gN rfl (by omega))) ⟨by omega, by omega, ins_step hins (by omega) (by omega) hj1 hlt, hd, hrg.trans (swap_rng hj1 hne (by omega) (by omega)), Lw, hB, hT, hF⟩ (by omega)
    have hsn := ins_stop hins (by omega) (by omega) hj1 hlt
    refine c_exit (xE (xE (x_blkE (x_blk (xS (cG (lP 1 tK rfl ?_)))))))
    refine lC (o_ai rfl rfl rfl (by omega) rfl rfl ?_)
    refine lP 1 tK rfl (lN ?_)
    exact xN (i + 1) (l3) (s5 rfl rfl rfl rfl rfl) ⟨by omega, by omega, hsn, hd, hrg, Lw, hB, hT, hF⟩ (by omega)
   refine oL tK (fun j v hv => hatq2.cell j v hv) rfl rfl rfl rfl rfl rfl ?_
   refine ⟨hS, ?_⟩
   refine a_one 8 rfl (by kernel_rfl) (oL tK (fun j v hv => hatq1.cell j v hv) rfl rfl rfl rfl rfl rfl ?_)
   refine ⟨hS, ?_⟩
   refine a_one 14 rfl (by kernel_rfl) (o_dyn rfl fo115 rfl rfl rfl (byName_spec M _ _ _ _ _ hrq1 hrq2 Lw) ?_)
   rintro _ w10 ⟨rfl, ew10⟩
   replace hF : ∀ x, x < w.heap.size → some x ≠ (v : Value).ownBlock → w10.heap[x]? = w.heap[x]? := fun x hx hn => (ew10.block x (lT hx hT.upd.1)).trans (hF x hx hn)
   replace hT := hT.then (Stp.Y ew10 Lw hB)
   replace hd := hd.Y Lw hB ew10
   replace hrq1 := Rep.Y hrq1 ew10
   replace hrq2 := Rep.Y hrq2 ew10
   replace Lw := Lw.Y ew10
   replace hB := ew10.z hB
   refine ⟨hS, ?_⟩
   refine a_p 15 tK rfl rfl rfl rfl (by kernel_rfl) i3 hS ?_
   refine a_p 16 tK rfl rfl rfl rfl (by kernel_rfl) i3 hS ?_
   refine a_end (by kernel_rfl) ?_
   refine xS ?_
   refine cP _ rfl (fun hlt => ?_) (fun hlt => ?_)
   ·have hne : l3[j0].name ≠ l3[j0 + 1].name := fun e => by rw [e] at hlt; exact absurd hlt (by rw [cmpB_refl]; decide)
    refine cK (xS (cS (cB ?_)))
    refine a_beg (fun _ _ => True) rfl ?_
    intro w11 ew11
    replace hF : ∀ x, x < w.heap.size → some x ≠ (v : Value).ownBlock → w11.heap[x]? = w.heap[x]? := fun x hx hn => (ew11.block x (lT hx hT.upd.1)).trans (hF x hx hn)
    replace hT := hT.then (Stp.Y ew11 Lw hB)
    replace hd := hd.Y Lw hB ew11
    replace hrq1 := Rep.Y hrq1 ew11
    replace hrq2 := Rep.Y hrq2 ew11
    replace Lw := Lw.Y ew11
    replace hB := ew11.z hB
    have hS : True := trivial
    refine a_p 0 tK rfl rfl rfl rfl (by kernel_rfl) i3 hS ?_
    refine a_p 1 tK rfl rfl rfl rfl (by kernel_rfl) i3 hS ?_
    refine a_p 2 tK rfl rfl rfl rfl (by kernel_rfl) i3 hS ?_
    refine a_p 3 tK rfl rfl rfl rfl (by kernel_rfl) i3 hS ?_
    refine a_ar 4 rfl rfl rfl rfl (IntWalk.i64_in _ (by omega)) rfl rfl (by kernel_rfl) i3 hS ?_
    refine a_p 5 tK rfl rfl rfl rfl (by kernel_rfl) i3 hS ?_
    refine a_p 6 tK rfl rfl rfl rfl (by kernel_rfl) i3 hS ?_
    refine a_ar 7 rfl rfl rfl rfl (IntWalk.i64_in _ (by omega)) rfl rfl (by kernel_rfl) i3 hS ?_
    refine a_ixO 8 tK hd (gE hj0) rfl rfl rfl (by omega) rfl rfl rfl rfl rfl rfl (by kernel_rfl) i4 hS ?_
    intro ibq9 iuq9 hobq9 hrq9 hatq9
    obtain ⟨szq9, kvq9, rfl, hyq9⟩ := fld_open hrq9
    replace hatq9 : OAt _ _ _ [.string l3[j0].name, .int .u8 l3[j0].ty.op, .string l3[j0].ty.name, .int .i64 l3[j0].ty.n, kvq9] := hatq9
    refine a_p 10 tK rfl rfl rfl rfl (by kernel_rfl) i3 hS ?_
    refine a_p 11 tK rfl rfl rfl rfl (by kernel_rfl) i3 hS ?_
    refine a_ixO 12 tK hd (gE hj1) rfl rfl rfl (by omega) rfl rfl rfl rfl rfl rfl (by kernel_rfl) i4 hS ?_
    intro ibq10 iuq10 hobq10 hrq10 hatq10
    obtain ⟨szq10, kvq10, rfl, hyq10⟩ := fld_open hrq10
    replace hatq10 : OAt _ _ _ [.string l3[j0 + 1].name, .int .u8 l3[j0 + 1].ty.op, .string l3[j0 + 1].ty.name, .int .i64 l3[j0 + 1].ty.n, kvq10] := hatq10
    refine a_all [9, 13] (by kernel_rfl) rfl (all_cons (i := 9) rfl ?_ (all_cons (i := 13) rfl ?_ all_nil))
    ·refine oL tK (fun j v hv => hatq9.cell j v hv) rfl rfl rfl rfl rfl rfl ?_
     refine ⟨hS, ?_⟩
     refine a_one 13 rfl (by kernel_rfl) (oL tK (fun j v hv => hatq10.cell j v hv) rfl rfl rfl rfl rfl rfl ?_)
     refine ⟨hS, ?_⟩
     refine a_ixO 14 tK hd (gE hj1) rfl rfl rfl (by omega) rfl rfl rfl rfl rfl rfl (by kernel_rfl) i4 hS ?_
     intro ibq11 iuq11 hobq11 hrq11 hatq11
     obtain ⟨szq11, kvq11, rfl, hyq11⟩ := fld_open hrq11
     replace hatq11 : OAt _ _ _ [.string l3[j0 + 1].name, .int .u8 l3[j0 + 1].ty.op, .string l3[j0 + 1].ty.name, .int .i64 l3[j0 + 1].ty.n, kvq11] := hatq11
     refine a_one 15 rfl (by kernel_rfl) (o_stO tK hd hobq11 (by first | omega | (simp; omega)) hrq9 Lw rfl rfl rfl rfl rfl rfl ?_)
     intro w12 hw12 sw12 frw12
     replace hF : ∀ x, x < w.heap.size → some x ≠ (v : Value).ownBlock → w12.heap[x]? = w.heap[x]? := fun x hx hn => (frw12 x (lT hx hT.upd.1) (fun e => hn (by rw [hobq11, e]))).trans (hF x hx hn)
     replace hT := hT.then sw12
     replace hrq1 := Rep.sp hrq1 sw12
     replace hrq2 := Rep.sp hrq2 sw12
     replace hrq9 := Rep.sp hrq9 sw12
     replace hrq10 := Rep.sp hrq10 sw12
     replace hrq11 := Rep.sp hrq11 sw12
     replace Lw := sw12.low
     replace hB := sw12.z hB
     refine ⟨hS, ?_⟩
     replace hd := hw12
     clear hw12
     refine a_ixO 16 tK hd (gE (by simpa using hj0)) rfl rfl rfl (by omega) rfl rfl rfl rfl rfl rfl (by kernel_rfl) i4 hS ?_
     intro ibq12 iuq12 hobq12 hrq12 hatq12
     refine a_one 17 rfl (by kernel_rfl) (o_stO tK hd hobq12 (by first | omega | (simp; omega)) hrq10 Lw rfl rfl rfl rfl rfl rfl ?_)
     intro w13 hw13 sw13 frw13
     replace hF : ∀ x, x < w.heap.size → some x ≠ (v : Value).ownBlock → w13.heap[x]? = w.heap[x]? := fun x hx hn => (frw13 x (lT hx hT.upd.1) (fun e => hn (by rw [hobq12, e]))).trans (hF x hx hn)
     replace hT := hT.then sw13
     replace hrq1 := Rep.sp hrq1 sw13
     replace hrq2 := Rep.sp hrq2 sw13
     replace hrq9 := Rep.sp hrq9 sw13
     replace hrq10 := Rep.sp hrq10 sw13
     replace hrq11 := Rep.sp hrq11 sw13
     replace Lw := sw13.low
     replace hB := sw13.z hB
     refine ⟨hS, ?_⟩
     replace hd := hw13
     clear hw13
     refine a_end (by kernel_rfl) ?_
     refine x_blk (xS (cG (lP 1 tK rfl ?_)))
     refine lC (o_ai rfl rfl rfl (by omega) rfl rfl ?_)
     refine lP 1 tK rfl (lN ?_)
     exact xN (j0) (((l3.set (j0 + 1) l3[j0]).set j0 l3[j0 + 1])) (s6 rfl rfl rfl rfl rfl (gN rfl (by omega))) ⟨by omega, by omega, ins_step hins (by omega) (by omega) hj1 hlt, hd, hrg.trans (swap_rng hj1 hne (by omega) (by omega)), Lw, hB, hT, hF⟩ (by omega)
    refine oL tK (fun j v hv => hatq10.cell j v hv) rfl rfl rfl rfl rfl rfl ?_
    refine ⟨hS, ?_⟩
    refine a_one 9 rfl (by kernel_rfl) (oL tK (fun j v hv => hatq9.cell j v hv) rfl rfl rfl rfl rfl rfl ?_)
    refine ⟨hS, ?_⟩
    refine a_ixO 14 tK hd (gE (by simpa using hj1)) rfl rfl rfl (by omega) rfl rfl rfl rfl rfl rfl (by kernel_rfl) i4 hS ?_
    intro ibq13 iuq13 hobq13 hrq13 hatq13
    refine a_one 15 rfl (by kernel_rfl) (o_stO tK hd hobq13 (by first | omega | (simp; omega)) hrq9 Lw rfl rfl rfl rfl rfl rfl ?_)
    intro w14 hw14 sw14 frw14
    replace hF : ∀ x, x < w.heap.size → some x ≠ (v : Value).ownBlock → w14.heap[x]? = w.heap[x]? := fun x hx hn => (frw14 x (lT hx hT.upd.1) (fun e => hn (by rw [hobq13, e]))).trans (hF x hx hn)
    replace hT := hT.then sw14
    replace hrq1 := Rep.sp hrq1 sw14
    replace hrq2 := Rep.sp hrq2 sw14
    replace hrq9 := Rep.sp hrq9 sw14
    replace hrq10 := Rep.sp hrq10 sw14
    replace Lw := sw14.low
    replace hB := sw14.z hB
    refine ⟨hS, ?_⟩
    replace hd := hw14
    clear hw14
    refine a_ixO 16 tK hd (gE (by simpa using hj0)) rfl rfl rfl (by omega) rfl rfl rfl rfl rfl rfl (by kernel_rfl) i4 hS ?_
    intro ibq14 iuq14 hobq14 hrq14 hatq14
    refine a_one 17 rfl (by kernel_rfl) (o_stO tK hd hobq14 (by first | omega | (simp; omega)) hrq10 Lw rfl rfl rfl rfl rfl rfl ?_)
    intro w15 hw15 sw15 frw15
    replace hF : ∀ x, x < w.heap.size → some x ≠ (v : Value).ownBlock → w15.heap[x]? = w.heap[x]? := fun x hx hn => (frw15 x (lT hx hT.upd.1) (fun e => hn (by rw [hobq14, e]))).trans (hF x hx hn)
    replace hT := hT.then sw15
    replace hrq1 := Rep.sp hrq1 sw15
    replace hrq2 := Rep.sp hrq2 sw15
    replace hrq9 := Rep.sp hrq9 sw15
    replace hrq10 := Rep.sp hrq10 sw15
    replace Lw := sw15.low
    replace hB := sw15.z hB
    refine ⟨hS, ?_⟩
    replace hd := hw15
    clear hw15
    refine a_end (by kernel_rfl) ?_
    refine x_blk (xS (cG (lP 1 tK rfl ?_)))
    refine lC (o_ai rfl rfl rfl (by omega) rfl rfl ?_)
    refine lP 1 tK rfl (lN ?_)
    exact xN (j0) (((l3.set (j0 + 1) l3[j0]).set j0 l3[j0 + 1])) (s6 rfl rfl rfl rfl rfl (gN rfl (by omega))) ⟨by omega, by omega, ins_step hins (by omega) (by omega) hj1 hlt, hd, hrg.trans (swap_rng hj1 hne (by omega) (by omega)), Lw, hB, hT, hF⟩ (by omega)
   have hsn := ins_stop hins (by omega) (by omega) hj1 hlt
   refine c_exit (xE (xE (x_blkE (x_blk (xS (cG (lP 1 tK rfl ?_)))))))
   refine lC (o_ai rfl rfl rfl (by omega) rfl rfl ?_)
   refine lP 1 tK rfl (lN ?_)
   exact xN (i + 1) (l3) (s5 rfl rfl rfl rfl rfl) ⟨by omega, by omega, hsn, hd, hrg, Lw, hB, hT, hF⟩ (by omega)
  obtain rfl : j = a := by omega
  have hsn := ins_front hins
  refine aK 4 rfl rfl rfl (by kernel_rfl) i3 hS ?_
  refine aK 5 rfl rfl rfl (by kernel_rfl) i3 hS ?_
  refine aK 6 rfl rfl rfl (by kernel_rfl) i3 hS ?_
  refine aK 7 rfl rfl rfl (by kernel_rfl) i3 hS ?_
  refine aK 8 rfl rfl rfl (by kernel_rfl) i3 hS ?_
  refine aK 9 rfl rfl rfl (by kernel_rfl) i3 hS ?_
  refine aK 10 rfl rfl rfl (by kernel_rfl) i3 hS ?_
  refine aK 11 rfl rfl rfl (by kernel_rfl) i3 hS ?_
  refine aK 12 rfl rfl rfl (by kernel_rfl) i3 hS ?_
  refine aK 13 rfl rfl rfl (by kernel_rfl) i3 hS ?_
  refine aK 14 rfl rfl rfl (by kernel_rfl) i3 hS ?_
  refine aK 15 rfl rfl rfl (by kernel_rfl) i3 hS ?_
  refine a_p 16 tK rfl rfl rfl rfl (by kernel_rfl) i3 hS ?_
  refine a_end (by kernel_rfl) ?_
  refine xS (c_ifF rfl (c_exit (xE (xE (x_blkE (x_blk (xS (cG (lP 1 tK rfl ?_)))))))))
  refine lC (o_ai rfl rfl rfl (by omega) rfl rfl ?_)
  refine lP 1 tK rfl (lN ?_)
  exact xN (i + 1) (l3) (s5 rfl rfl rfl rfl rfl) ⟨by omega, by omega, hsn, hd, hrg, Lw, hB, hT, hF⟩ (by omega)
 refine c_exit (xE (xE (x_blkE ?_)))
 refine x_ret0n rfl ?_
 exact ⟨rfl, ⟨l2, hd, hrg, fun p q x y hp hpq hq => hso p q x y hp hpq (by omega)⟩, hT, hF⟩
end Go.Proofs.YtpoahmeacjggfaaGreat
namespace Rw
/-! ## One thing moved forward, or back, to its place among those in order -/
/-- It stands at place k and goes up: behind it up to i are lesser ones. -/
structure RunF (l : List Fld) (a k i b : Nat) : Prop where
  rest : ∀ (p q : Nat) (x y : Fld), a ≤ p → p < q → q < b → p ≠ k → q ≠ k → l[p]? = some x → l[q]? = some y → leN x.name y.name
  lo : ∀ (p : Nat) (x y : Fld), a ≤ p → p < k → l[p]? = some x → l[k]? = some y → leN x.name y.name
  mid : ∀ (q : Nat) (x y : Fld), k < q → q < i → l[k]? = some x → l[q]? = some y → cmpN y.name x.name < 0
  hi : ∀ (q : Nat) (x y : Fld), k < q → i ≤ q → q < b → l[k]? = some x → l[q]? = some y → leN x.name y.name
theorem cmpN_lt_of_le_lt {a b c : ByteArray} (h : leN a b) (k : cmpN b c < 0) : cmpN a c < 0 := by
  by_cases e : a = b
  · subst e; exact k
  · unfold leN at h
    have h1 : cmpN a b ≠ 0 := fun e' => e (cmpN_eq.1 e')
    have h2 := cmpN_flip a b
    exact cmpB_trans (b := b.data.toList) (by show cmpN a b < 0; omega) k
theorem cmpN_lt_of_lt_le {a b c : ByteArray} (h : cmpN a b < 0) (k : leN b c) : cmpN a c < 0 := by
  by_cases e : b = c
  · subst e; exact h
  · unfold leN at k
    have h1 : cmpN b c ≠ 0 := fun e' => e (cmpN_eq.1 e')
    have h2 := cmpN_flip b c
    exact cmpB_trans (b := b.data.toList) h (by show cmpN b c < 0; omega)
theorem leN_of_nlt {a b : ByteArray} (h : ¬ cmpN b a < 0) : leN a b := h
theorem runF_start {l : List Fld} {a b i : Nat} (hs : SrtOn l (a + 1) b) (hb : b ≤ l.length) (hab : a < b) (hi : a + 1 ≤ i) (hib : i ≤ b)
    (hl : ∀ x y, a + 1 < i → l[i - 1]? = some x → l[a]? = some y → cmpN x.name y.name < 0)
    (hr : ∀ x y, i < b → l[i]? = some x → l[a]? = some y → leN y.name x.name) : RunF l a a i b := by
  refine ⟨fun p q x y hp hpq hq hpa _ hx hy => hs p q x y (by omega) hpq hq hx hy, fun p x y hp hk => absurd hk (by omega), fun q x y hk hq hx hy => ?_, fun q x y hk hiq hq hx hy => ?_⟩
  · by_cases e : q = i - 1
    · subst e; exact hl y x (by omega) hy hx
    · have hlt : i - 1 < l.length := by omega
      exact cmpN_lt_of_le_lt (hs q (i - 1) y _ (by omega) (by omega) (by omega) hy (gE hlt)) (hl _ x (by omega) (gE hlt) hx)
  · by_cases e : q = i
    · subst e; exact hr y x (by omega) hy hx
    · have hlt : i < l.length := by omega
      exact leN_trans (hr _ x (by omega) (gE hlt) hx) (hs i q _ y (by omega) (by omega) hq (gE hlt) hy)
theorem runF_step {l : List Fld} {a k i b : Nat} (h : RunF l a k i b) (hk : k + 1 < i) (ha : a ≤ k) (hib : i ≤ b) (hj : k + 1 < l.length) : RunF ((l.set (k + 1) l[k]).set k l[k + 1]) a (k + 1) i b := by
  have hkk : l[k]? = some l[k] := gE (by omega)
  have hk1 : l[k + 1]? = some l[k + 1] := gE hj
  refine ⟨fun p q x y hp hpq hq hpk hqk hx hy => ?_, fun p x y hp hpk hx hy => ?_, fun q x y hkq hq hx hy => ?_, fun q x y hkq hiq hq hx hy => ?_⟩
  · rw [swap_get hj] at hx hy
    rw [if_neg hpk] at hx
    rw [if_neg hqk] at hy
    by_cases e : p = k
    · rw [if_pos e] at hx
      rw [if_neg (by omega)] at hy
      cases hx
      exact h.rest (k + 1) q _ y (by omega) (by omega) hq (by omega) (by omega) hk1 hy
    · rw [if_neg e] at hx
      by_cases e2 : q = k
      · rw [if_pos e2] at hy
        cases hy
        exact h.rest p (k + 1) x _ hp (by omega) (by omega) e (by omega) hx hk1
      · rw [if_neg e2] at hy
        exact h.rest p q x y hp hpq hq e e2 hx hy
  · rw [swap_get hj] at hx hy
    rw [if_neg (by omega), if_pos rfl] at hy
    cases hy
    by_cases e : p = k
    · rw [if_pos e] at hx
      cases hx
      exact leN_of_lt (h.mid (k + 1) _ _ (by omega) hk hkk hk1)
    · rw [if_neg e, if_neg (by omega)] at hx
      exact h.lo p x _ hp (by omega) hx hkk
  · rw [swap_get hj] at hx hy
    rw [if_neg (by omega), if_pos rfl] at hx
    rw [if_neg (by omega), if_neg (by omega)] at hy
    cases hx
    exact h.mid q _ y (by omega) hq hkk hy
  · rw [swap_get hj] at hx hy
    rw [if_neg (by omega), if_pos rfl] at hx
    rw [if_neg (by omega), if_neg (by omega)] at hy
    cases hx
    exact h.hi q _ y (by omega) hiq hq hkk hy
theorem runF_end {l : List Fld} {a k i b : Nat} (h : RunF l a k i b) (hk : i ≤ k + 1) : SrtOn l a b := fun p q x y hp hpq hq hx hy => by
  by_cases e : p = k
  · subst e; exact h.hi q x y hpq (by omega) hq hx hy
  · by_cases e2 : q = k
    · subst e2; exact h.lo p x y hp hpq hx hy
    · exact h.rest p q x y hp hpq hq e e2 hx hy
/-- It stands at place k and goes down: ahead of it from i on are greater ones. -/
structure RunB (l : List Fld) (a k i b : Nat) : Prop where
  rest : ∀ (p q : Nat) (x y : Fld), a ≤ p → p < q → q < b → p ≠ k → q ≠ k → l[p]? = some x → l[q]? = some y → leN x.name y.name
  hi : ∀ (q : Nat) (x y : Fld), k < q → q < b → l[k]? = some x → l[q]? = some y → leN x.name y.name
  mid : ∀ (p : Nat) (x y : Fld), i ≤ p → p < k → l[p]? = some x → l[k]? = some y → cmpN y.name x.name < 0
  lo : ∀ (p : Nat) (x y : Fld), a ≤ p → p < i → p < k → l[p]? = some x → l[k]? = some y → leN x.name y.name
theorem runB_start {l : List Fld} {a m i : Nat} (hs : SrtOn l a m) (hb : m < l.length) (ha : a ≤ i) (hi : i ≤ m)
    (hl : ∀ x y, a < i → l[i - 1]? = some x → l[m]? = some y → leN x.name y.name)
    (hr : ∀ x y, i < m → l[i]? = some x → l[m]? = some y → cmpN y.name x.name < 0) : RunB l a m i (m + 1) := by
  refine ⟨fun p q x y hp hpq hq hpm hqm hx hy => hs p q x y hp hpq (by omega) hx hy, fun q x y h1 h2 => by omega, fun p x y hip hpm hx hy => ?_, fun p x y hp hpi hpm hx hy => ?_⟩
  · by_cases e : p = i
    · subst e; exact hr x y hpm hx hy
    · have hlt : i < l.length := by omega
      exact cmpN_lt_of_lt_le (hr _ y (by omega) (gE hlt) hy) (hs i p _ x (by omega) (by omega) hpm (gE hlt) hx)
  · by_cases e : p = i - 1
    · subst e; exact hl x y (by omega) hx hy
    · have hlt : i - 1 < l.length := by omega
      exact leN_trans (hs p (i - 1) x _ hp (by omega) (by omega) hx (gE hlt)) (hl _ y (by omega) (gE hlt) hy)
theorem runB_step {l : List Fld} {a k i b : Nat} (h : RunB l a (k + 1) i b) (hk : i ≤ k) (ha : a ≤ i) (hb : k + 1 < b) (hj : k + 1 < l.length) : RunB ((l.set (k + 1) l[k]).set k l[k + 1]) a k i b := by
  have hkk : l[k]? = some l[k] := gE (by omega)
  have hk1 : l[k + 1]? = some l[k + 1] := gE hj
  refine ⟨fun p q x y hp hpq hq hpk hqk hx hy => ?_, fun q x y hkq hq hx hy => ?_, fun p x y hip hpk hx hy => ?_, fun p x y hp hpi hpk hx hy => ?_⟩
  · rw [swap_get hj] at hx hy
    rw [if_neg hpk] at hx
    rw [if_neg hqk] at hy
    by_cases e : p = k + 1
    · rw [if_pos e] at hx
      rw [if_neg (by omega)] at hy
      cases hx
      exact h.rest k q _ y (by omega) (by omega) hq (by omega) (by omega) hkk hy
    · rw [if_neg e] at hx
      by_cases e2 : q = k + 1
      · rw [if_pos e2] at hy
        cases hy
        exact h.rest p k x _ hp (by omega) (by omega) e (by omega) hx hkk
      · rw [if_neg e2] at hy
        exact h.rest p q x y hp hpq hq e e2 hx hy
  · rw [swap_get hj] at hx hy
    rw [if_pos rfl] at hx
    cases hx
    rw [if_neg (by omega)] at hy
    by_cases e : q = k + 1
    · rw [if_pos e] at hy
      cases hy
      exact leN_of_lt (h.mid k _ _ hk (by omega) hkk hk1)
    · rw [if_neg e] at hy
      exact h.hi q _ y (by omega) hq hk1 hy
  · rw [swap_get hj] at hx hy
    rw [if_neg (by omega), if_neg (by omega)] at hx
    rw [if_pos rfl] at hy
    cases hy
    exact h.mid p x _ hip (by omega) hx hk1
  · rw [swap_get hj] at hx hy
    rw [if_neg (by omega), if_neg (by omega)] at hx
    rw [if_pos rfl] at hy
    cases hy
    exact h.lo p x _ hp hpi (by omega) hx hk1
theorem runB_end {l : List Fld} {a k i b : Nat} (h : RunB l a k i b) (hk : k ≤ i) : SrtOn l a b := fun p q x y hp hpq hq hx hy => by
  by_cases e : p = k
  · subst e; exact h.hi q x y hpq hq hx hy
  · by_cases e2 : q = k
    · subst e2; exact h.lo p x y hp (by omega) hpq hx hy
    · exact h.rest p q x y hp hpq hq e e2 hx hy
/-! ## Two ranges change places -/
/-- n from a on and n from b on have changed places. -/
structure SwR (l k : List Fld) (a b n : Nat) : Prop where
  len : k.length = l.length
  get : ∀ p, k[p]? = if a ≤ p ∧ p < a + n then l[p - a + b]? else if b ≤ p ∧ p < b + n then l[p - b + a]? else l[p]?
theorem SwR.zero (l : List Fld) (a b : Nat) : SwR l l a b 0 := ⟨rfl, fun p => by rw [if_neg (by omega), if_neg (by omega)]⟩
theorem SwR.step {l k : List Fld} {a b n : Nat} (h : SwR l k a b n) (hab : a + n < b) (hb : b + n < l.length) (h1 : a + n < k.length) (h2 : b + n < k.length) : SwR l ((k.set (a + n) k[b + n]).set (b + n) k[a + n]) a b (n + 1) := by
  have e1 : some k[b + n] = l[b + n]? := by
    rw [← gE h2, h.get, if_neg (by omega), if_neg (by omega)]
  have e2 : some k[a + n] = l[a + n]? := by
    rw [← gE h1, h.get, if_neg (by omega), if_neg (by omega)]
  refine ⟨by simp [h.len], fun p => ?_⟩
  rw [List.getElem?_set, List.getElem?_set]
  simp only [List.length_set]
  by_cases p1 : b + n = p
  · subst p1
    rw [if_pos rfl, if_pos (by omega), if_neg (by omega), if_pos (by omega), e2]
    congr 1; omega
  · rw [if_neg p1]
    by_cases p2 : a + n = p
    · subst p2
      rw [if_pos rfl, if_pos h1, if_pos (by omega), e1]
      congr 1; omega
    · rw [if_neg p2, h.get]
      repeat' split
      all_goals first | rfl | (exfalso; omega) | (congr 1; omega)
/-- From a to b two neighbouring ranges, parted at m, have changed places. -/
structure Rot (l k : List Fld) (a m b : Nat) : Prop where
  len : k.length = l.length
  get : ∀ p, k[p]? = if p < a then l[p]? else if p < a + (b - m) then l[p + (m - a)]? else if p < b then l[p - (b - m)]? else l[p]?
theorem rot_last {l k : List Fld} {m i : Nat} (h : SwR l k (m - i) m i) (hi : i ≤ m) : Rot l k (m - i) m (m + i) := by
  refine ⟨h.len, fun p => ?_⟩
  rw [h.get]
  repeat' split
  all_goals first | rfl | (exfalso; omega) | (congr 1; omega)
theorem rot_up {l k r : List Fld} {m i j : Nat} (h : SwR l k (m - i) m j) (hij : j < i) (hi : i ≤ m) (hr : Rot k r (m - (i - j)) m (m + j)) : Rot l r (m - i) m (m + j) := by
  refine ⟨hr.len.trans h.len, fun p => ?_⟩
  rw [hr.get]
  simp only [h.get]
  repeat' split
  all_goals first | rfl | (exfalso; omega) | (congr 1; omega)
theorem rot_down {l k r : List Fld} {m i j : Nat} (h : SwR l k (m - i) (m + j - i) i) (hij : i < j) (hi : i ≤ m) (hr : Rot k r (m - i) m (m + (j - i))) : Rot l r (m - i) m (m + j) := by
  refine ⟨hr.len.trans h.len, fun p => ?_⟩
  rw [hr.get]
  simp only [h.get]
  repeat' split
  all_goals first | rfl | (exfalso; omega) | (congr 1; omega)
theorem rot_none {l : List Fld} {a m b : Nat} (ha : a ≤ m) (hb : m ≤ b) (h : a = m ∨ m = b) : Rot l l a m b := by
  refine ⟨rfl, fun p => ?_⟩
  repeat' split
  all_goals first | rfl | (exfalso; omega) | (congr 1; omega)
theorem StP.swap2 {X Y : List Fld} (h : ∀ x ∈ X, ∀ y ∈ Y, x.name ≠ y.name) : StP (X ++ Y) (Y ++ X) := fun s => by
  rw [List.filter_append, List.filter_append]
  by_cases e : X.filter (fun f => decide (f.name = s)) = []
  · rw [e]; simp
  · have : Y.filter (fun f => decide (f.name = s)) = [] := by
      rw [List.filter_eq_nil_iff]
      intro y hy hys
      obtain ⟨x, hx⟩ := List.exists_mem_of_ne_nil _ e
      obtain ⟨hx, hxs⟩ := List.mem_filter.1 hx
      exact h x hx y hy ((of_decide_eq_true hxs).trans (of_decide_eq_true hys).symm)
    rw [this]; simp
theorem parts4 (l : List Fld) {a m b : Nat} (ha : a ≤ m) (hb : m ≤ b) : l = l.take a ++ (((l.drop a).take (m - a) ++ (l.drop m).take (b - m)) ++ l.drop b) := by
  have e1 : l.drop m = (l.drop a).drop (m - a) := by rw [List.drop_drop]; congr 1; omega
  have e2 : l.drop b = (l.drop m).drop (b - m) := by rw [List.drop_drop]; congr 1; omega
  rw [List.append_assoc, e2, List.take_append_drop, e1, List.take_append_drop, List.take_append_drop]
theorem Rot.eq {l k : List Fld} {a m b : Nat} (h : Rot l k a m b) (ha : a ≤ m) (hb : m ≤ b) (hl : b ≤ l.length) : k = l.take a ++ (((l.drop m).take (b - m) ++ (l.drop a).take (m - a)) ++ l.drop b) := by
  apply List.ext_getElem?
  intro p
  rw [h.get]
  have t1 : (l.take a).length = a := by rw [List.length_take]; omega
  have t2 : ((l.drop m).take (b - m)).length = b - m := by rw [List.length_take, List.length_drop]; omega
  have t3 : ((l.drop a).take (m - a)).length = m - a := by rw [List.length_take, List.length_drop]; omega
  by_cases c1 : p < a
  · rw [if_pos c1, List.getElem?_append_left (by omega), List.getElem?_take, if_pos c1]
  · rw [if_neg c1, List.getElem?_append_right (by omega), t1]
    by_cases c2 : p < a + (b - m)
    · rw [if_pos c2, List.getElem?_append_left (by rw [List.length_append]; omega), List.getElem?_append_left (by omega), List.getElem?_take, if_pos (by omega), List.getElem?_drop]
      congr 1; omega
    · rw [if_neg c2]
      by_cases c3 : p < b
      · rw [if_pos c3, List.getElem?_append_left (by rw [List.length_append]; omega), List.getElem?_append_right (by omega), t2, List.getElem?_take, if_pos (by omega), List.getElem?_drop]
        congr 1; omega
      · rw [if_neg c3, List.getElem?_append_right (by rw [List.length_append]; omega), List.length_append, t2, t3, List.getElem?_drop]
        congr 1; omega
theorem Rot.rng {l k : List Fld} {a m b : Nat} (h : Rot l k a m b) (ha : a ≤ m) (hb : m ≤ b) (hl : b ≤ l.length)
    (hn : ∀ (p q : Nat) (x y : Fld), a ≤ p → p < m → m ≤ q → q < b → l[p]? = some x → l[q]? = some y → x.name ≠ y.name) : Rng l k a b := by
  refine ⟨h.len, fun j hj => ?_, ?_⟩
  · rw [h.get]
    repeat' split
    all_goals first | rfl | (exfalso; omega) | (congr 1; omega)
  · rw [h.eq ha hb hl]
    conv => lhs; rw [parts4 l ha hb]
    refine (StP.refl _).app ((StP.swap2 fun x hx y hy => ?_).app (StP.refl _))
    obtain ⟨p, hp⟩ := List.mem_iff_getElem?.1 hx
    obtain ⟨q, hq⟩ := List.mem_iff_getElem?.1 hy
    have hp2 : p < m - a := by
      have := (List.getElem?_eq_some_iff.1 hp).1
      rw [List.length_take] at this; omega
    have hq2 : q < b - m := by
      have := (List.getElem?_eq_some_iff.1 hq).1
      rw [List.length_take] at this; omega
    rw [List.getElem?_take, if_pos hp2, List.getElem?_drop] at hp
    rw [List.getElem?_take, if_pos hq2, List.getElem?_drop] at hq
    exact hn _ _ x y (by omega) (by omega) (by omega) (by omega) hp hq
/-! ## The merge -/
/-- What the search has found: it stands between lo and hi. -/
structure Cut (l : List Fld) (n lo0 hi0 lo hi : Nat) : Prop where
  lo : lo = lo0 ∨ (lo0 < lo ∧ ∀ x y, l[lo - 1]? = some x → l[n - lo]? = some y → leN x.name y.name)
  hi : hi = hi0 ∨ (hi < hi0 ∧ ∀ x y, l[hi]? = some x → l[n - 1 - hi]? = some y → cmpN y.name x.name < 0)
theorem get_eq {l : List Fld} {p q : Nat} {x : Fld} (hp : p < l.length) (e : p = q) (hx : l[q]? = some x) : x = l[p] := by
  subst e
  rw [gE hp] at hx
  exact (Option.some.inj hx).symm
/-- The search for the place of l[a] among those from m to b. -/
structure FindF (l : List Fld) (a m b i j : Nat) : Prop where
  lo : i = m ∨ (m < i ∧ ∀ x y, l[i - 1]? = some x → l[a]? = some y → cmpN x.name y.name < 0)
  hi : j = b ∨ (j < b ∧ ∀ x y, l[j]? = some x → l[a]? = some y → leN y.name x.name)
theorem FindF.start (l : List Fld) (a m b : Nat) : FindF l a m b m b := ⟨.inl rfl, .inl rfl⟩
theorem FindF.up {l : List Fld} {a m b i j h : Nat} (f : FindF l a m b i j) (hm : m ≤ h) (h1 : h < l.length) (h2 : a < l.length) (hlt : cmpN l[h].name l[a].name < 0) : FindF l a m b (h + 1) j :=
  ⟨.inr ⟨by omega, fun x y hx hy => by rw [get_eq h1 (by omega) hx, get_eq h2 rfl hy]; exact hlt⟩, f.hi⟩
theorem FindF.down {l : List Fld} {a m b i j h : Nat} (f : FindF l a m b i j) (hb : h < b) (h1 : h < l.length) (h2 : a < l.length) (hle : ¬ cmpN l[h].name l[a].name < 0) : FindF l a m b i h :=
  ⟨f.lo, .inr ⟨hb, fun x y hx hy => by rw [get_eq h1 rfl hx, get_eq h2 rfl hy]; exact hle⟩⟩
theorem FindF.run {l : List Fld} {a b i j : Nat} (f : FindF l a (a + 1) b i j) (hij : ¬ i < j) (hle : i ≤ j) (hs : SrtOn l (a + 1) b) (hb : b ≤ l.length) (hab : a + 1 < b) (hi : a + 1 ≤ i) (hib : j ≤ b) : RunF l a a i b := by
  obtain rfl : i = j := by omega
  refine runF_start hs hb (by omega) hi hib (fun x y h1 hx hy => ?_) (fun x y h1 hx hy => ?_)
  · rcases f.lo with e | ⟨_, e⟩
    · omega
    · exact e x y hx hy
  · rcases f.hi with e | ⟨_, e⟩
    · omega
    · exact e x y hx hy
/-- The search for the place of l[m] among those from a to m. -/
structure FindB (l : List Fld) (a m i j : Nat) : Prop where
  lo : i = a ∨ (a < i ∧ ∀ x y, l[i - 1]? = some x → l[m]? = some y → leN x.name y.name)
  hi : j = m ∨ (j < m ∧ ∀ x y, l[j]? = some x → l[m]? = some y → cmpN y.name x.name < 0)
theorem FindB.start (l : List Fld) (a m : Nat) : FindB l a m a m := ⟨.inl rfl, .inl rfl⟩
theorem FindB.up {l : List Fld} {a m i j h : Nat} (f : FindB l a m i j) (ha : a ≤ h) (h1 : h < l.length) (h2 : m < l.length) (hle : ¬ cmpN l[m].name l[h].name < 0) : FindB l a m (h + 1) j :=
  ⟨.inr ⟨by omega, fun x y hx hy => by rw [get_eq h1 (by omega) hx, get_eq h2 rfl hy]; exact hle⟩, f.hi⟩
theorem FindB.down {l : List Fld} {a m i j h : Nat} (f : FindB l a m i j) (hm : h < m) (h1 : h < l.length) (h2 : m < l.length) (hlt : cmpN l[m].name l[h].name < 0) : FindB l a m i h :=
  ⟨f.lo, .inr ⟨hm, fun x y hx hy => by rw [get_eq h1 rfl hx, get_eq h2 rfl hy]; exact hlt⟩⟩
theorem FindB.run {l : List Fld} {a m i j : Nat} (f : FindB l a m i j) (hij : ¬ i < j) (hle : i ≤ j) (hs : SrtOn l a m) (hb : m < l.length) (ha : a ≤ i) (hj : j ≤ m) : RunB l a m i (m + 1) := by
  obtain rfl : i = j := by omega
  refine runB_start hs hb ha hj (fun x y h1 hx hy => ?_) (fun x y h1 hx hy => ?_)
  · rcases f.lo with e | ⟨_, e⟩
    · omega
    · exact e x y hx hy
  · rcases f.hi with e | ⟨_, e⟩
    · omega
    · exact e x y hx hy
theorem Cut.start (l : List Fld) (n lo0 hi0 : Nat) : Cut l n lo0 hi0 lo0 hi0 := ⟨.inl rfl, .inl rfl⟩
theorem Cut.up {l : List Fld} {n lo0 hi0 lo hi c : Nat} (f : Cut l n lo0 hi0 lo hi) (hc : lo0 ≤ c) (h1 : c < l.length) (h2 : n - 1 - c < l.length) (hle : ¬ cmpN l[n - 1 - c].name l[c].name < 0) : Cut l n lo0 hi0 (c + 1) hi :=
  ⟨.inr ⟨by omega, fun x y hx hy => by rw [get_eq h1 (by omega) hx, get_eq h2 (by omega) hy]; exact hle⟩, f.hi⟩
theorem Cut.down {l : List Fld} {n lo0 hi0 lo hi c : Nat} (f : Cut l n lo0 hi0 lo hi) (hc : c < hi0) (h1 : c < l.length) (h2 : n - 1 - c < l.length) (hlt : cmpN l[n - 1 - c].name l[c].name < 0) : Cut l n lo0 hi0 lo c :=
  ⟨f.lo, .inr ⟨hc, fun x y hx hy => by rw [get_eq h1 rfl hx, get_eq h2 rfl hy]; exact hlt⟩⟩
/-- All that is needed of a merge's place: both parts in order, the place s found. -/
structure Mrg (l : List Fld) (a m b s : Nat) : Prop where
  am : a < m
  mb : m < b
  len : b ≤ l.length
  s1 : SrtOn l a m
  s2 : SrtOn l m b
  aS : a ≤ s
  sm : s ≤ m
  smid : s ≤ (a + b) / 2
  e1 : m ≤ (a + b) / 2 + m - s
  e2 : (a + b) / 2 + m - s ≤ b
  lo : ∀ x y, a < s → (a + b) / 2 + m - s < b → l[s - 1]? = some x → l[(a + b) / 2 + m - s]? = some y → leN x.name y.name
  hi : ∀ x y, s < m → m < (a + b) / 2 + m - s → l[s]? = some x → l[(a + b) / 2 + m - s - 1]? = some y → cmpN y.name x.name < 0
theorem mrg_of {l : List Fld} {a m b s lo0 hi0 : Nat} (am : a < m) (mb : m < b) (len : b ≤ l.length) (s1 : SrtOn l a m) (s2 : SrtOn l m b)
    (h0 : ((a + b) / 2 < m ∧ lo0 = (a + b) / 2 + m - b ∧ hi0 = (a + b) / 2) ∨ (m ≤ (a + b) / 2 ∧ lo0 = a ∧ hi0 = m)) (hs : lo0 ≤ s) (hs2 : s ≤ hi0) (hc : Cut l ((a + b) / 2 + m) lo0 hi0 s s) : Mrg l a m b s := by
  refine ⟨am, mb, len, s1, s2, by omega, by omega, by omega, by omega, by omega, fun x y h1 h2 hx hy => ?_, fun x y h1 h2 hx hy => ?_⟩
  · rcases hc.lo with e | ⟨_, e⟩
    · omega
    · exact e x y hx hy
  · rcases hc.hi with e | ⟨_, e⟩
    · omega
    · exact e x y hx (by rwa [show (a + b) / 2 + m - s - 1 = (a + b) / 2 + m - 1 - s by omega] at hy)
/-- Behind the rotation: four ranges in order, the first two nowhere above the last two. -/
structure Four (l : List Fld) (a s mid e b : Nat) : Prop where
  s1 : SrtOn l a s
  s2 : SrtOn l s mid
  s3 : SrtOn l mid e
  s4 : SrtOn l e b
  le : ∀ (p q : Nat) (x y : Fld), a ≤ p → p < mid → mid ≤ q → q < b → l[p]? = some x → l[q]? = some y → leN x.name y.name
theorem some_at {l : List Fld} {p : Nat} (h : p < l.length) : ∃ x, l[p]? = some x := ⟨_, gE h⟩
theorem SrtOn.le {l : List Fld} {a b : Nat} (h : SrtOn l a b) {p q : Nat} {x y : Fld} (hp : a ≤ p) (hpq : p ≤ q) (hq : q < b) (hx : l[p]? = some x) (hy : l[q]? = some y) : leN x.name y.name := by
  by_cases e : p = q
  · subst e; rw [hx] at hy; cases hy; exact leN_refl _
  · exact h p q x y hp (by omega) hq hx hy
theorem Mrg.apart {l : List Fld} {a m b s : Nat} (h : Mrg l a m b s) {p q : Nat} {x y : Fld} (hp : s ≤ p) (hpm : p < m) (hq : m ≤ q) (hqe : q < (a + b) / 2 + m - s) (hx : l[p]? = some x) (hy : l[q]? = some y) : cmpN y.name x.name < 0 := by
  have := h.len; have := h.e2; have := h.mb; have := h.aS
  obtain ⟨u, hu⟩ := some_at (l := l) (p := s) (by omega)
  obtain ⟨v, hv⟩ := some_at (l := l) (p := (a + b) / 2 + m - s - 1) (by omega)
  have h1 := h.hi u v (by omega) (by omega) hu hv
  have h2 := h.s1.le (by omega) hp hpm hu hx
  have h3 := h.s2.le (by omega) (show q ≤ (a + b) / 2 + m - s - 1 by omega) (by omega) hy hv
  exact cmpN_lt_of_le_lt h3 (cmpN_lt_of_lt_le h1 h2)
theorem Mrg.four {l k : List Fld} {a m b s : Nat} (h : Mrg l a m b s) (hr : Rot l k s m ((a + b) / 2 + m - s)) : Rng l k a b ∧ Four k a s ((a + b) / 2) ((a + b) / 2 + m - s) b := by
  have q1 := h.am; have q2 := h.mb; have q3 := h.len; have q4 := h.aS; have q5 := h.sm; have q6 := h.smid; have q7 := h.e1; have q8 := h.e2
  have hg : ∀ p, k[p]? = if p < s then l[p]? else if p < (a + b) / 2 then l[p + (m - s)]? else if p < (a + b) / 2 + m - s then l[p - ((a + b) / 2 - s)]? else l[p]? := fun p => by
    rw [hr.get]
    rw [show s + ((a + b) / 2 + m - s - m) = (a + b) / 2 by omega, show (a + b) / 2 + m - s - m = (a + b) / 2 - s by omega]
  refine ⟨(hr.rng h.sm h.e1 (by omega) fun p q x y hp hpm hq hqe hx hy e => ?_).wider h.aS h.e2, ?_, ?_, ?_, ?_, ?_⟩
  · have := h.apart hp hpm hq hqe hx hy
    rw [e, show cmpN y.name y.name = 0 from cmpN_eq.2 rfl] at this
    omega
  · intro p q x y hp hpq hq hx hy
    rw [hg, if_pos (by omega)] at hx hy
    exact h.s1 p q x y hp hpq (by omega) hx hy
  · intro p q x y hp hpq hq hx hy
    rw [hg, if_neg (by omega), if_pos (by omega)] at hx hy
    exact h.s2 _ _ x y (by omega) (by omega) (by omega) hx hy
  · intro p q x y hp hpq hq hx hy
    rw [hg, if_neg (by omega), if_neg (by omega), if_pos (by omega)] at hx hy
    exact h.s1 _ _ x y (by omega) (by omega) (by omega) hx hy
  · intro p q x y hp hpq hq hx hy
    rw [hg, if_neg (by omega), if_neg (by omega), if_neg (by omega)] at hx hy
    exact h.s2 _ _ x y (by omega) (by omega) (by omega) hx hy
  · intro p q x y hp hpm hq hqb hx hy
    rw [hg] at hx hy
    rw [if_neg (by omega), if_neg (by omega)] at hy
    by_cases c1 : p < s
    · rw [if_pos c1] at hx
      by_cases c2 : q < (a + b) / 2 + m - s
      · rw [if_pos c2] at hy
        exact h.s1 _ _ x y (by omega) (by omega) (by omega) hx hy
      · rw [if_neg c2] at hy
        obtain ⟨u, hu⟩ := some_at (l := l) (p := s - 1) (by omega)
        obtain ⟨v, hv⟩ := some_at (l := l) (p := (a + b) / 2 + m - s) (by omega)
        exact leN_trans (h.s1.le hp (by omega) (by omega) hx hu) (leN_trans (h.lo u v (by omega) (by omega) hu hv) (h.s2.le (by omega) (by omega) hqb hv hy))
    · rw [if_neg c1, if_pos hpm] at hx
      by_cases c2 : q < (a + b) / 2 + m - s
      · rw [if_pos c2] at hy
        exact leN_of_lt (h.apart (by omega) (by omega) (by omega) (by omega) hy hx)
      · rw [if_neg c2] at hy
        exact h.s2 _ _ x y (by omega) (by omega) hqb hx hy
theorem Rng.from {l k : List Fld} {a b : Nat} (h : Rng l k a b) (hab : a ≤ b) (hb : b ≤ l.length) {p : Nat} {x : Fld} (hp : a ≤ p) (hpb : p < b) (hx : k[p]? = some x) : ∃ q, a ≤ q ∧ q < b ∧ l[q]? = some x := by
  have el := parts4 l hab (lR b)
  have ek := parts4 k hab (lR b)
  simp only [Nat.sub_self, List.take_zero, List.append_nil] at el ek
  have t1 : l.take a = k.take a := by
    apply List.ext_getElem?; intro j
    rw [List.getElem?_take, List.getElem?_take]
    split
    · rw [h.out j (.inl (by assumption))]
    · rfl
  have t2 : l.drop b = k.drop b := by
    apply List.ext_getElem?; intro j
    rw [List.getElem?_drop, List.getElem?_drop, h.out _ (.inr (by omega))]
  have hst : StP ((l.drop a).take (b - a)) ((k.drop a).take (b - a)) := fun s => by
    have := h.st s
    rw [el, ek, t1, t2, List.filter_append, List.filter_append, List.filter_append, List.filter_append] at this
    exact List.append_cancel_right (List.append_cancel_left this)
  have hmem : x ∈ (k.drop a).take (b - a) := by
    refine List.mem_iff_getElem?.2 ⟨p - a, ?_⟩
    rw [List.getElem?_take, if_pos (by omega), List.getElem?_drop, show a + (p - a) = p by omega, hx]
  obtain ⟨q, hq⟩ := List.mem_iff_getElem?.1 (hst.symm.mem hmem)
  have hq2 : q < b - a := by
    have := (List.getElem?_eq_some_iff.1 hq).1
    rw [List.length_take] at this; omega
  rw [List.getElem?_take, if_pos hq2, List.getElem?_drop] at hq
  exact ⟨a + q, by omega, by omega, hq⟩
theorem Rng.srt {l k : List Fld} {a b c d : Nat} (h : Rng l k a b) (hs : SrtOn l c d) (ho : d ≤ a ∨ b ≤ c) : SrtOn k c d := fun p q x y hp hpq hq hx hy => by
  rw [h.out p (by omega)] at hx
  rw [h.out q (by omega)] at hy
  exact hs p q x y hp hpq hq hx hy
theorem Four.left {l k : List Fld} {a s mid e b : Nat} (h : Four l a s mid e b) (hm : a ≤ mid) (hmb : mid ≤ b) (he : mid ≤ e) (hl : b ≤ l.length) (hr : Rng l k a mid) (hs : SrtOn k a mid) : Four k a mid mid e b :=
  ⟨hs, fun p q x y h1 h2 h3 => by omega, hr.srt h.s3 (.inr (lR _)), hr.srt h.s4 (.inr he), fun p q x y hp hpm hq hqb hx hy => by
    obtain ⟨p', h1, h2, h3⟩ := hr.from hm (by omega) hp hpm hx
    rw [hr.out q (.inr hq)] at hy
    exact h.le p' q x y h1 h2 hq hqb h3 hy⟩
theorem Four.leftN {l : List Fld} {a s mid e b : Nat} (h : Four l a s mid e b) (hc : a = s ∨ s = mid) : Four l a mid mid e b := by
  refine ⟨?_, fun p q x y h1 h2 h3 => by omega, h.s3, h.s4, h.le⟩
  rcases hc with e | e
  · rw [e]; exact h.s2
  · rw [← e]; exact h.s1
theorem Four.right {l k : List Fld} {a mid e b : Nat} (h : Four l a mid mid e b) (hm : a ≤ mid) (hmb : mid ≤ b) (hl : b ≤ l.length) (hr : Rng l k mid b) (hs : SrtOn k mid b) : SrtOn k a b := fun p q x y hp hpq hq hx hy => by
  by_cases c1 : p < mid
  · rw [hr.out p (.inl c1)] at hx
    by_cases c2 : q < mid
    · rw [hr.out q (.inl c2)] at hy
      exact h.s1 p q x y hp hpq c2 hx hy
    · obtain ⟨q', h1, h2, h3⟩ := hr.from hmb (by omega) (by omega) hq hy
      exact h.le p q' x y hp c1 h1 h2 hx h3
  · exact hs p q x y (by omega) hpq hq hx hy
theorem Four.rightN {l : List Fld} {a mid e b : Nat} (h : Four l a mid mid e b) (hc : mid = e ∨ e = b) : SrtOn l a b := fun p q x y hp hpq hq hx hy => by
  have h3 : SrtOn l mid b := by
    rcases hc with c | c
    · rw [c]; exact h.s4
    · rw [← c]; exact h.s3
  by_cases c1 : p < mid
  · by_cases c2 : q < mid
    · exact h.s1 p q x y hp hpq c2 hx hy
    · exact h.le p q x y hp c1 (by omega) hq hx hy
  · exact h3 p q x y (by omega) hpq hq hx hy
/-! ## Blocks in order -/
theorem dvd_gap {n p a : Nat} (hp : n ∣ p) (ha : n ∣ a) (h : p < a) : p + n ≤ a := by
  have := Nat.le_of_dvd (by omega) (Nat.dvd_sub ha hp)
  omega
theorem SrtOn.mono {l : List Fld} {a b a' b' : Nat} (h : SrtOn l a b) (ha : a ≤ a') (hb : b' ≤ b) : SrtOn l a' b' := fun p q x y hp hpq hq => h p q x y (by omega) hpq (by omega)
theorem SrtOn.none {l : List Fld} {a b : Nat} (h : b ≤ a) : SrtOn l a b := fun p q x y hp hpq hq => by omega
/-- Each block of n is in order, up to the end e. -/
def Blk (l : List Fld) (n e : Nat) : Prop := ∀ p, n ∣ p → SrtOn l p (min (p + n) e)
/-- Those of n ahead of a are. -/
def Blk1 (l : List Fld) (n a : Nat) : Prop := ∀ p, n ∣ p → p < a → SrtOn l p (p + n)
theorem Blk1.zero {l : List Fld} {n : Nat} : Blk1 l n 0 := fun p _ h => by omega
theorem Blk1.step {l k : List Fld} {n a : Nat} (h : Blk1 l n a) (ha : n ∣ a) (hr : Rng l k a (a + n)) (hs : SrtOn k a (a + n)) : Blk1 k n (a + n) := fun p hp hlt => by
  by_cases c : p < a
  · exact hr.srt (h p hp c) (.inl (dvd_gap hp ha c))
  · by_cases c2 : a < p
    · have := dvd_gap ha hp c2; omega
    · rw [show p = a by omega]; exact hs
theorem Blk1.fin {l k : List Fld} {n a e : Nat} (h : Blk1 l n a) (ha : n ∣ a) (he : e < a + n) (hr : Rng l k a e) (hs : SrtOn k a e) : Blk k n e := fun p hp => by
  by_cases c : p < a
  · exact (hr.srt (h p hp c) (.inl (dvd_gap hp ha c))).mono (lR _) (Nat.min_le_left _ _)
  · by_cases c2 : a < p
    · have := dvd_gap ha hp c2
      exact SrtOn.none (by omega)
    · rw [show p = a by omega]; exact hs.mono (lR _) (Nat.min_le_right _ _)
/-- Blocks of n: those ahead of a have been merged by two. -/
structure B2 (l : List Fld) (n a e : Nat) : Prop where
  dv : 2 * n ∣ a
  lt : Blk1 l (2 * n) a
  ge : ∀ p, n ∣ p → a ≤ p → SrtOn l p (min (p + n) e)
theorem B2.start {l : List Fld} {n e : Nat} (h : Blk l n e) : B2 l n 0 e := ⟨Nat.dvd_zero _, Blk1.zero, fun p hp _ => h p hp⟩
theorem B2.dv1 {l : List Fld} {n a e : Nat} (h : B2 l n a e) : n ∣ a := Nat.dvd_trans ⟨2, by rw [Nat.mul_comm]⟩ h.dv
theorem B2.left {l : List Fld} {n a e : Nat} (h : B2 l n a e) (he : a + n ≤ e) : SrtOn l a (a + n) := by
  have := h.ge a h.dv1 (lR _)
  rwa [Nat.min_eq_left he] at this
theorem B2.right {l : List Fld} {n a e : Nat} (h : B2 l n a e) : SrtOn l (a + n) (min (a + 2 * n) e) := by
  have := h.ge (a + n) ((Nat.dvd_add_right h.dv1).2 (Nat.dvd_refl n)) (by omega)
  rwa [show a + n + n = a + 2 * n by omega] at this
theorem B2.step {l k : List Fld} {n a e : Nat} (h : B2 l n a e) (hr : Rng l k a (a + 2 * n)) (hs : SrtOn k a (a + 2 * n)) : B2 k n (a + 2 * n) e :=
  ⟨(Nat.dvd_add_right h.dv).2 (Nat.dvd_refl _), h.lt.step h.dv hr hs, fun p hp hap => hr.srt (h.ge p hp (by omega)) (.inr hap)⟩
theorem B2.fin {l k : List Fld} {n a e : Nat} (h : B2 l n a e) (he : e < a + 2 * n) (hr : Rng l k a e) (hs : SrtOn k a e) : Blk k (2 * n) e := h.lt.fin h.dv he hr hs
theorem B2.finN {l : List Fld} {n a e : Nat} (h : B2 l n a e) (he : e < a + 2 * n) (hm : e ≤ a + n) : Blk l (2 * n) e :=
  h.lt.fin h.dv he (Rng.refl _ _ _) ((h.ge a h.dv1 (lR _)).mono (lR _) (by omega))
theorem Blk.all {l : List Fld} {n e : Nat} (h : Blk l n e) (he : e ≤ n) : SrtOn l 0 e := (h 0 (Nat.dvd_zero _)).mono (lR _) (by omega)
theorem srt_of {l : List Fld} (h : SrtOn l 0 l.length) : Srt l := by
  unfold Srt
  rw [List.pairwise_iff_getElem]
  intro i j hi hj hij
  exact h i j _ _ (Nat.zero_le _) hij hj (gE hi) (gE hj)
end Rw
