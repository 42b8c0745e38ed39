/- Walks: the program's right. Printed by wip/walks/kinds5.py. -/
import Derived.Test.YtohfnpmehgpphaaWd
import Derived.Test.YtohfnpmehgpphaaPlainW
namespace Go.Proofs.Ytohfnpmehgpphaa
open Go Rw Go.RowKit
set_option maxRecDepth 4000

/-- meet: a variable of a sort; false: it was one of the other sort. -/
theorem meet_spec (M : Nat → Prop) (w : World) (B b : Nat) (l : St) (n : Int) (row : Bool) (hs : OM (κ := Int) (fun x : Bool => Value.bool x) B M w b l) (hlow : Low M w) :
    Calls Try.prog 113 #[.map (some b), .int .i64 n, .bool row] w (Ret fun r w' => r = .bool (meetS l n row).1 ∧ OM (κ := Int) (fun x : Bool => Value.bool x) B M w' b (meetS l n row).2 ∧ UpdB b w w') := by
  have hU := UpdB.refl b w
  have hB : B ≤ w.heap.size := Nat.le_trans hs.ge (Nat.le_of_lt hs.lt)
  refine c_enter (n := 25) Try.func113 rfl rfl rfl ?_
  refine q0 (l_p 1 tbOk rfl (q1 (q0 (l_p 2 tbOk rfl ?_))))
  refine l_cons (o_look (z := false) tbOk hs.map (k := n) rfl rfl rfl rfl ⟨_, Try.underlying3, rfl⟩ rfl rfl rfl rfl ?_)
  refine l_p 5 tbOk rfl (q1 (q0 (l_p 3 tbOk rfl ?_)))
  refine l_cons (o_mupd tbOk hs.map (k := n) (v := row) rfl rfl rfl rfl rfl ⟨_, Try.underlying3, rfl⟩ rfl ?_)
  intro w1 hw1 qw1 bew1
  have uw1 : UpdB _ _ _ := ⟨qw1, bew1⟩
  have sw1 := uw1.stp hs.inM hlow hs.ge
  have frw1 := qw1.2
  replace hU := hU.trans uw1
  replace hlow := sw1.low
  replace hB := Nat.le_trans hB sw1.upd.1
  replace hs : OM _ _ _ w1 _ (putK l n row) := ⟨hw1, hs.inM, hs.ge⟩
  refine q1 (q0 (l_p 3 tbOk rfl ?_))
  refine l_splitB 20 _ rfl (fun c1 => ?_) (fun c1 => ?_)
  · refine l_p 5 tbOk rfl (q1 (c_ret (x_ret1 rfl rfl ?_)))
    refine ⟨?_, hs, hU⟩
    cases hg : getK l n <;> simp_all [meetS]
  refine l_p 2 tbOk rfl ?_
  refine l_cons (o_beq tbOk rfl rfl rfl rfl rfl rfl ?_)
  refine l_p 2 tbOk rfl (q1 (c_ret (x_ret1 rfl rfl ?_)))
  refine ⟨?_, hs, hU⟩
  cases hg : getK l n <;> simp_all [meetS]

/-- right: is it a type (or a row)? -/
theorem right_spec : ∀ (t : Ty) (row : Bool) (l : St) (M : Nat → Prop) (w : World) (v : Value) (B b : Nat), Rep.R M w v t → OM (κ := Int) (fun x : Bool => Value.bool x) B M w b l → Low M w → Calls Try.prog 91 #[.map (some b), v, .bool row] w (Ret fun r w' => r = .bool (rightF t row l).1 ∧ OM (κ := Int) (fun x : Bool => Value.bool x) B M w' b (rightF t row l).2 ∧ UpdB b w w') := by
  refine Ty.ind fun t ih => ?_
  intro row l M w v B b ht hs hlow
  have hU := UpdB.refl b w
  have hB : B ≤ w.heap.size := Nat.le_trans hs.ge (Nat.le_of_lt hs.lt)
  obtain ⟨kv, rfl, op, nm, n64, hk⟩ := ty_open ht
  have hlt := hk.lt
  refine c_enter (n := 113) Try.func91 rfl rfl rfl ?_
  refine q0 ?_
  refine l_cons (o_box rfl rfl rfl ?_)
  intro b1 w1 hb_b1 ew1 h1
  replace h1 : Box _ b1 40 [.int .u8 t.op, .string t.name, .int .i64 t.n, kv] := h1
  replace h1 := h1.at (nM_of hlow hb_b1)
  replace hU := hU.trans (UpdB.ext ew1 hs.lt)
  replace hs := hs.ext hlow hB ew1
  replace ht := Rep.ext ht ew1
  replace hk := hk.ext ew1
  replace hlow := hlow.ext ew1
  replace hB := Nat.le_trans hB ew1.size
  refine l_p 1 tbOk rfl (q1 (q0 (l_p 1 tbOk rfl (q1 (q0 (l_p 2 tbOk rfl (q1 ?_)))))))
  refine c_cut3 (X := Int) (Y := Bool) (Z := Bool) (fun kc nd nb => [(0, .map (some b)), (2, .bool row), (4, .pointer (some ⟨b1, 0, none⟩)), (7, .int .i64 kc), (8, .bool nd), (9, .bool nb)]) (fun kc nd nb w' => w1 = w' ∧ (∃ ks, kidsOf t.op = some ks ∧ (ks.size : Int) = kc) ∧ nd = decide (t.op = 11) ∧ nb = numB t.op) ?_ ?_
  · refine q0 (l_p 1 tbOk rfl ?_)
    refine l_cons (o_ld tbOk (h1.cell 0 _ rfl) rfl rfl rfl rfl rfl ?_)
    refine q1 (c_blk (c_seq (q0 (l_p 2 tbOk rfl (q1 ?_)))))
    refine c_splitP 14 _ rfl (fun c1 => c_ifT rfl ?_) (fun c1 => c_ifF rfl ?_)
    · refine c_skip (x_seq (c_ifT rfl (c_skip (x_blk ?_))))
      exact x_cut3 (0) (false) (false) (s6 rfl rfl rfl rfl rfl rfl) ⟨rfl, ⟨⟨#[]⟩, by simp [kidsOf, *], rfl⟩, by simp [*], by simp [numB, *]⟩
    refine q0 (l_p 2 tbOk rfl (q1 ?_))
    refine c_splitP 14 _ rfl (fun c2 => c_ifT rfl ?_) (fun c2 => c_ifF rfl ?_)
    · refine c_skip (x_seq (c_ifT rfl (c_skip (x_blk ?_))))
      exact x_cut3 (0) (false) (false) (s6 rfl rfl rfl rfl rfl rfl) ⟨rfl, ⟨⟨#[]⟩, by simp [kidsOf, *], rfl⟩, by simp [*], by simp [numB, *]⟩
    refine c_reg (l_p 2 tbOk rfl (q1 ?_))
    refine c_splitP 14 _ rfl (fun c3 => c_ifT rfl ?_) (fun c3 => c_ifF rfl ?_)
    · refine c_skip (x_blk ?_)
      exact x_cut3 (0) (false) (false) (s6 rfl rfl rfl rfl rfl rfl) ⟨rfl, ⟨⟨#[]⟩, by simp [kidsOf, *], rfl⟩, by simp [*], by simp [numB, *]⟩
    refine q0 (l_p 2 tbOk rfl (q1 ?_))
    refine c_ifP _ rfl (fun c4 => ?_) (fun c4 => ?_)
    · refine c_reg (l_p 1 tbOk rfl (q2 ?_))
      exact x_cut3 (2) (false) (false) (s6 rfl rfl rfl rfl rfl rfl) ⟨rfl, ⟨⟨#[116, 116]⟩, by simp [kidsOf, *], rfl⟩, by simp [*], by simp [numB, *]⟩
    refine c_seq (q0 (l_p 2 tbOk rfl (q1 ?_)))
    refine c_splitP 20 _ rfl (fun c5 => c_ifT rfl ?_) (fun c5 => c_ifF rfl ?_)
    · refine c_skip (x_seq (c_ifT rfl (c_reg (l_p 1 tbOk rfl (q2 ?_)))))
      exact x_cut3 (1) (false) (false) (s6 rfl rfl rfl rfl rfl rfl) ⟨rfl, ⟨⟨#[114]⟩, by simp [kidsOf, *], rfl⟩, by simp [*], by simp [numB, *]⟩
    refine c_reg (l_p 2 tbOk rfl (q1 ?_))
    refine c_splitP 20 _ rfl (fun c6 => c_ifT rfl ?_) (fun c6 => c_ifF rfl ?_)
    · refine c_reg (l_p 1 tbOk rfl (q2 ?_))
      exact x_cut3 (1) (false) (false) (s6 rfl rfl rfl rfl rfl rfl) ⟨rfl, ⟨⟨#[114]⟩, by simp [kidsOf, *], rfl⟩, by simp [*], by simp [numB, *]⟩
    refine q0 (l_p 2 tbOk rfl (q1 ?_))
    refine c_ifP _ rfl (fun c7 => ?_) (fun c7 => ?_)
    · refine c_reg (l_p 1 tbOk rfl (q2 ?_))
      exact x_cut3 (0) (false) (true) (s6 rfl rfl rfl rfl rfl rfl) ⟨rfl, ⟨⟨#[]⟩, by simp [kidsOf, *], rfl⟩, by simp [*], by simp [numB, *]⟩
    refine c_seq (q0 (l_p 2 tbOk rfl (q1 ?_)))
    refine c_splitP 25 _ rfl (fun c8 => c_ifT rfl ?_) (fun c8 => c_ifF rfl ?_)
    · refine c_skip (x_seq (c_ifT rfl (c_skip (x_blk ?_))))
      exact x_cut3 (0) (false) (false) (s6 rfl rfl rfl rfl rfl rfl) ⟨rfl, ⟨⟨#[]⟩, by simp [kidsOf, *], rfl⟩, by simp [*], by simp [numB, *]⟩
    refine c_reg (l_p 2 tbOk rfl (q1 ?_))
    refine c_splitP 25 _ rfl (fun c9 => c_ifT rfl ?_) (fun c9 => c_ifF rfl ?_)
    · refine c_skip (x_blk ?_)
      exact x_cut3 (0) (false) (false) (s6 rfl rfl rfl rfl rfl rfl) ⟨rfl, ⟨⟨#[]⟩, by simp [kidsOf, *], rfl⟩, by simp [*], by simp [numB, *]⟩
    refine q0 (l_p 2 tbOk rfl (q1 ?_))
    refine c_ifP _ rfl (fun c10 => ?_) (fun c10 => ?_)
    · refine c_reg (l_p 1 tbOk rfl (q2 ?_))
      exact x_cut3 (0) (false) (true) (s6 rfl rfl rfl rfl rfl rfl) ⟨rfl, ⟨⟨#[]⟩, by simp [kidsOf, *], rfl⟩, by simp [*], by simp [numB, *]⟩
    refine q0 (l_p 2 tbOk rfl (q1 ?_))
    refine c_ifP _ rfl (fun c11 => ?_) (fun c11 => ?_)
    · refine c_reg (l_p 2 tbOk rfl (q2 ?_))
      exact x_cut3 (2) (true) (false) (s6 rfl rfl rfl rfl rfl rfl) ⟨rfl, ⟨⟨#[116, 114]⟩, by simp [kidsOf, *], rfl⟩, by simp [*], by simp [numB, *]⟩
    refine q0 (l_p 1 tbOk rfl (q1 (c_ret (x_blkR (x_seqR (x_ret1 rfl rfl ?_))))))
    rw [right_pre_no (by rw [preR, show kidsOf t.op = none by simp [kidsOf, *]])]
    exact ⟨rfl, hs, hU⟩
  rintro kc nd nb _ ⟨rfl, ⟨ks, hko, hkc⟩, hnd, hnb⟩
  refine c_seq (q0 (l_p 2 tbOk rfl ?_))
  refine l_cons (o_ld tbOk (h1.cell 0 _ rfl) rfl rfl rfl rfl rfl ?_)
  refine l_p 1 tbOk rfl ?_
  refine l_cons (o_bne tbOk rfl rfl rfl rfl rfl rfl ?_)
  refine l_p 1 tbOk rfl ?_
  refine l_split 37 _ rfl (fun c12 => ?_) (fun c12 => ?_)
  · refine l_p 20 tbOk rfl (q1 (c_ifT rfl (q0 (l_p 1 tbOk rfl (q1 (c_ret (x_seqR (x_ret1 rfl rfl ?_))))))))
    rw [right_pre_no (by clear ih; rw [preR, hko]; unfold headOk; simp_all [numB] <;> omega)]
    exact ⟨rfl, hs, hU⟩
  refine l_p 1 tbOk rfl ?_
  refine l_cons (o_ld tbOk (h1.cell 3 _ rfl) rfl rfl rfl rfl rfl ?_)
  refine l_cons (o_len tbOk hk rfl rfl rfl rfl rfl ?_)
  refine l_p 4 tbOk rfl ?_
  refine l_splitN 44 _ rfl (fun c13 => ?_) (fun c13 => ?_)
  · refine l_p 13 tbOk rfl (q1 (c_ifT rfl (q0 (l_p 1 tbOk rfl (q1 (c_ret (x_seqR (x_ret1 rfl rfl ?_))))))))
    rw [right_pre_no (by clear ih; rw [preR, hko]; unfold headOk; simp_all [numB] <;> omega)]
    exact ⟨rfl, hs, hU⟩
  refine l_p 1 tbOk rfl ?_
  refine l_cons (o_ld tbOk (h1.cell 2 _ rfl) rfl rfl rfl rfl rfl ?_)
  refine l_p 3 tbOk rfl ?_
  refine l_splitP 49 _ rfl (fun c14 => ?_) (fun c14 => ?_)
  · refine l_p 8 tbOk rfl (q1 (c_ifT rfl (q0 (l_p 1 tbOk rfl (q1 (c_ret (x_seqR (x_ret1 rfl rfl ?_))))))))
    rw [right_pre_no (by clear ih; rw [preR, hko]; unfold headOk; simp_all [numB] <;> omega)]
    exact ⟨rfl, hs, hU⟩
  refine l_p 3 tbOk rfl ?_
  refine l_splitB 52 _ rfl (fun c15 => ?_) (fun c15 => ?_)
  · refine l_p 1 tbOk rfl ?_
    refine l_cons (o_ld tbOk (h1.cell 2 _ rfl) rfl rfl rfl rfl rfl ?_)
    refine l_p 3 tbOk rfl (q1 ?_)
    refine c_ifN _ rfl (fun c16 => ?_) (fun c16 => ?_)
    · refine q0 (l_p 1 tbOk rfl (q1 (c_ret (x_seqR (x_ret1 rfl rfl ?_)))))
      rw [right_pre_no (by clear ih; rw [preR, hko]; unfold headOk; simp_all [numB] <;> omega)]
      exact ⟨rfl, hs, hU⟩
    refine c_skip (x_seq (c_seq (q0 (l_p 3 tbOk rfl ?_))))
    refine l_splitB 60 _ rfl (fun c17 => ?_) (fun c17 => ?_)
    · refine l_p 1 tbOk rfl ?_
      refine l_cons (o_ld tbOk (h1.cell 1 _ rfl) rfl rfl rfl rfl rfl ?_)
      refine l_p 3 tbOk rfl ?_
      refine l_splitN 65 _ rfl (fun c18 => ?_) (fun c18 => ?_)
      · refine l_p 8 tbOk rfl (q1 (c_ifT rfl (q0 (l_p 1 tbOk rfl (q1 (c_ret (x_seqR (x_ret1 rfl rfl ?_))))))))
        rw [right_pre_no (by clear ih; rw [preR, hko]; unfold headOk; simp_all [numB] <;> omega)]
        exact ⟨rfl, hs, hU⟩
      refine l_p 2 tbOk rfl ?_
      refine l_split 67 _ rfl (fun c19 => ?_) (fun c19 => ?_)
      · refine l_p 1 tbOk rfl ?_
        refine l_cons (o_ld tbOk (h1.cell 1 _ rfl) rfl rfl rfl rfl rfl ?_)
        refine l_cons (o_call fo57 rfl rfl rfl (isWord_spec _ t.name nm) ?_)
        rintro _ _ ⟨rfl, rfl⟩
        refine l_p 3 tbOk rfl (q1 ?_)
        refine c_ifB _ rfl (fun c20 => ?_) (fun c20 => ?_)
        · refine q0 (l_p 1 tbOk rfl (q1 (c_ret (x_seqR (x_ret1 rfl rfl ?_)))))
          rw [right_pre_no (by clear ih; rw [preR, hko]; unfold headOk; simp_all [numB] <;> omega)]
          exact ⟨rfl, hs, hU⟩
        refine c_skip (x_seq ?_)
        refine c_cut (X := St) (fun li0 => [(0, .map (some b)), (4, .pointer (some ⟨b1, 0, none⟩))]) (fun li0 w' => runR (t.kids.map rightF) (kidRow t.op) 0 li0 = rightF t row l ∧ OM (κ := Int) (fun x : Bool => Value.bool x) B M w' b li0 ∧ b1 ≠ b ∧ At M w' b1 0 [.int .u8 t.op, .string t.name, .int .i64 t.n, kv] ∧ Sl M w' kv t.kids ∧ Low M w' ∧ UpdB b w w' ∧ B ≤ w'.heap.size) ?_ ?_
        · refine q0 (l_p 2 tbOk rfl ?_)
          refine l_split 75 _ rfl (fun c21 => ?_) (fun c21 => ?_)
          · refine l_p 2 tbOk rfl ?_
            refine l_cons (o_ld tbOk (h1.cell 2 _ rfl) rfl rfl rfl rfl rfl ?_)
            refine l_p 1 tbOk rfl ?_
            have hpre : preR t.op row t.kids.length t.name t.n = true := by clear ih; rw [preR, hko]; unfold headOk; simp_all [numB] <;> omega
            refine l_cons (o_call fo113 rfl rfl rfl (meet_spec M _ B b l t.n row hs hlow) ?_)
            rintro _ w3 ⟨rfl, hw3, uw3⟩
            have sw3 := uw3.stp hs.inM hlow hs.ge
            have frw3 := uw3.upd.2
            replace hU := hU.trans uw3
            replace ht := Rep.stp ht sw3
            replace hk := hk.stp sw3
            replace h1 := h1.stp sw3
            replace hlow := sw3.low
            replace hB := Nat.le_trans hB sw3.upd.1
            replace hs := hw3
            refine l_p 2 tbOk rfl (q1 ?_)
            refine c_ifB _ rfl (fun c22 => ?_) (fun c22 => ?_)
            · refine q0 (l_p 1 tbOk rfl (q1 (c_ret (x_seqR (x_ret1 rfl rfl ?_)))))
              rw [right_meet_no hpre (by clear ih; simp_all) c22]
              exact ⟨rfl, hs, hU⟩
            refine c_skip ?_
            have hrun := (right_meet_yes (row := row) (s := l) hpre (by clear ih; simp_all) (by clear ih; simp_all)).symm
            exact x_cut ((meetS l t.n row).2) (s2 rfl rfl) ⟨hrun, hs, fun e => h1.nM (e ▸ hs.inM), h1, hk, hlow, hU, hB⟩
          refine l_p 7 tbOk rfl (q1 (c_ifF rfl (c_skip ?_)))
          have hpre : preR t.op row t.kids.length t.name t.n = true := by clear ih; rw [preR, hko]; unfold headOk; simp_all [numB] <;> omega
          have hrun := (right_plain (row := row) (s := l) hpre (by clear ih; simp_all)).symm
          exact x_cut (l) (s2 rfl rfl) ⟨hrun, hs, fun e => h1.nM (e ▸ hs.inM), h1, hk, hlow, hU, hB⟩
        rintro li0 w2 ⟨hrun, hs, hne, h1, hk, hlow, hU, hB⟩
        refine c_seq (q0 (l_p 1 tbOk rfl ?_))
        refine l_cons (o_ld tbOk (h1.cell 3 _ rfl) rfl rfl rfl rfl rfl ?_)
        refine l_cons (o_len tbOk hk rfl rfl rfl rfl rfl ?_)
        refine l_p 1 tbOk rfl (q1 (c_blk ?_))
        refine c_loop2 (X := Nat) (Y := St) (fun i li => [(0, .map (some b)), (4, .pointer (some ⟨b1, 0, none⟩)), (84, kv), (85, .int .i64 (t.kids.length : Int)), (86, .int .i64 (i : Nat))]) (fun i li w' => i ≤ t.kids.length ∧ runR ((t.kids.drop i).map rightF) (kidRow t.op) i li = rightF t row l ∧ OM (κ := Int) (fun x : Bool => Value.bool x) B M w' b li ∧ b1 ≠ b ∧ At M w' b1 0 [.int .u8 t.op, .string t.name, .int .i64 t.n, kv] ∧ Sl M w' kv t.kids ∧ Low M w' ∧ UpdB b w w' ∧ B ≤ w'.heap.size) (fun i li => t.kids.length - i) (0) (li0) (s5 rfl rfl rfl rfl rfl) ?_ ?_
        · exact ⟨Nat.zero_le _, by simpa using hrun, hs, hne, h1, hk, hlow, hU, hB⟩
        rintro i li w4 ⟨hi, hrun, hs, hne, h1, hk, hlow, hU, hB⟩
        refine q0 (l_p 1 tbOk rfl (q1 (c_seq ?_)))
        refine c_ifP _ rfl (fun c23 => ?_) (fun c23 => ?_)
        · refine c_skip (x_seq (c_seq (c_blk (q0 (l_p 1 tbOk rfl ?_)))))
          have hik : i < t.kids.length := by omega
          refine l_cons (o_ixS tbOk hk (List.getElem?_eq_getElem hik) rfl rfl rfl rfl rfl rfl rfl rfl rfl ?_)
          intro ebx eox eux hyx hatx
          obtain ⟨kvx, rfl, opx, nmx, n64x, hkx⟩ := ty_open hyx
          replace hatx : At M w4 ebx eox [.int .u8 t.kids[i].op, .string t.kids[i].name, .int .i64 t.kids[i].n, kvx] := hatx
          refine l_cons (o_lds tbOk (fun j v hv => hatx.cell j v hv) rfl rfl rfl rfl rfl rfl ?_)
          refine l_cons (o_new tbOk rfl rfl rfl ?_)
          intro b5 w5 qb5 ew5 hb5
          have nb5 := nM_of hlow qb5
          refine l_p 1 tbOk rfl ?_
          refine l_cons (o_st tbOk hb5 rfl rfl rfl rfl (Rep.one hyx) rfl rfl ?_)
          intro w6 h5 uw6 bew6
          have ew6 : Ext w4 w6 := ew5.trans (bew6 _ (Nat.le_of_eq qb5.symm))
          replace hU := hU.trans (UpdB.ext ew6 hs.lt)
          replace hs := hs.ext hlow hB ew6
          replace h1 := h1.ext ew6
          replace hk := hk.ext ew6
          replace hyx := Rep.ext hyx ew6
          replace hkx := hkx.ext ew6
          replace hatx := hatx.ext ew6
          replace hlow := hlow.ext ew6
          replace hB := Nat.le_trans hB ew6.size
          replace h5 : Box w6 b5 40 [.int .u8 t.kids[i].op, .string t.kids[i].name, .int .i64 t.kids[i].n, kvx] := h5
          replace h5 := h5.at nb5
          refine q1 (q0 (l_p 1 tbOk rfl ?_))
          refine l_cons (o_lds tbOk (fun j v hv => h5.cell j v hv) rfl rfl rfl rfl rfl rfl ?_)
          refine l_p 1 tbOk rfl ?_
          refine l_cons (o_ld tbOk (h1.cell 0 _ rfl) rfl rfl rfl rfl rfl ?_)
          refine l_p 2 tbOk rfl ?_
          refine l_splitP 96 _ rfl (fun c24 => ?_) (fun c24 => ?_)
          · refine l_p 13 tbOk rfl ?_
            have hflag : kidRow t.op i = true := by clear ih; simp_all [kidRow]
            refine l_cons (o_call fo91 rfl rfl rfl (ih _ (List.getElem_mem hik) true li M _ _ B b hyx hs hlow) ?_)
            rintro _ w7 ⟨rfl, hw7, uw7⟩
            have sw7 := uw7.stp hs.inM hlow hs.ge
            have frw7 := uw7.upd.2
            replace hU := hU.trans uw7
            replace h1 := h1.stp sw7
            replace hk := hk.stp sw7
            replace hyx := Rep.stp hyx sw7
            replace hkx := hkx.stp sw7
            replace hatx := hatx.stp sw7
            replace h5 := h5.stp sw7
            replace hlow := sw7.low
            replace hB := Nat.le_trans hB sw7.upd.1
            replace hs := hw7
            refine l_p 1 tbOk rfl (q1 ?_)
            refine c_ifB _ rfl (fun c25 => ?_) (fun c25 => ?_)
            · refine q0 (l_p 1 tbOk rfl (q1 (c_ret (x_blkR (x_seqR (x_seqR (x_blkR (x_seqR (x_ret1 rfl rfl ?_)))))))))
              rw [run_step hik, hflag] at hrun
              simp only [c25, cond_false] at hrun
              rw [← hrun]
              exact ⟨rfl, hs, hU⟩
            refine c_skip (x_blk (x_seq (c_reg ?_)))
            refine l_cons (o_ar rfl rfl rfl (IntWalk.i64_in _ (by omega)) rfl rfl ?_)
            refine l_p 1 tbOk rfl (l_nil ?_)
            exact x_round2 (i + 1) ((rightF t.kids[i] true li).2) (s5 rfl rfl rfl rfl rfl) ⟨by omega, by rw [run_step hik, hflag] at hrun; simpa [c25] using hrun, hs, hne, h1, hk, hlow, hU, hB⟩ (by omega)
          refine l_p 1 tbOk rfl ?_
          refine l_cons (o_ld tbOk (h1.cell 0 _ rfl) rfl rfl rfl rfl rfl ?_)
          refine l_p 3 tbOk rfl ?_
          refine l_splitP 101 _ rfl (fun c26 => ?_) (fun c26 => ?_)
          · refine l_p 8 tbOk rfl ?_
            have hflag : kidRow t.op i = true := by clear ih; simp_all [kidRow]
            refine l_cons (o_call fo91 rfl rfl rfl (ih _ (List.getElem_mem hik) true li M _ _ B b hyx hs hlow) ?_)
            rintro _ w8 ⟨rfl, hw8, uw8⟩
            have sw8 := uw8.stp hs.inM hlow hs.ge
            have frw8 := uw8.upd.2
            replace hU := hU.trans uw8
            replace h1 := h1.stp sw8
            replace hk := hk.stp sw8
            replace hyx := Rep.stp hyx sw8
            replace hkx := hkx.stp sw8
            replace hatx := hatx.stp sw8
            replace h5 := h5.stp sw8
            replace hlow := sw8.low
            replace hB := Nat.le_trans hB sw8.upd.1
            replace hs := hw8
            refine l_p 1 tbOk rfl (q1 ?_)
            refine c_ifB _ rfl (fun c27 => ?_) (fun c27 => ?_)
            · refine q0 (l_p 1 tbOk rfl (q1 (c_ret (x_blkR (x_seqR (x_seqR (x_blkR (x_seqR (x_ret1 rfl rfl ?_)))))))))
              rw [run_step hik, hflag] at hrun
              simp only [c27, cond_false] at hrun
              rw [← hrun]
              exact ⟨rfl, hs, hU⟩
            refine c_skip (x_blk (x_seq (c_reg ?_)))
            refine l_cons (o_ar rfl rfl rfl (IntWalk.i64_in _ (by omega)) rfl rfl ?_)
            refine l_p 1 tbOk rfl (l_nil ?_)
            exact x_round2 (i + 1) ((rightF t.kids[i] true li).2) (s5 rfl rfl rfl rfl rfl) ⟨by omega, by rw [run_step hik, hflag] at hrun; simpa [c27] using hrun, hs, hne, h1, hk, hlow, hU, hB⟩ (by omega)
          refine l_p 1 tbOk rfl ?_
          refine l_cons (o_ld tbOk (h1.cell 0 _ rfl) rfl rfl rfl rfl rfl ?_)
          refine l_p 2 tbOk rfl ?_
          refine l_splitP 105 _ rfl (fun c28 => ?_) (fun c28 => ?_)
          · refine l_p 4 tbOk rfl ?_
            have hflag : kidRow t.op i = decide ((i : Int) = 1) := by clear ih; simp_all [kidRow]
            refine l_cons (o_call fo91 rfl rfl rfl (ih _ (List.getElem_mem hik) (decide ((i : Int) = 1)) li M _ _ B b hyx hs hlow) ?_)
            rintro _ w9 ⟨rfl, hw9, uw9⟩
            have sw9 := uw9.stp hs.inM hlow hs.ge
            have frw9 := uw9.upd.2
            replace hU := hU.trans uw9
            replace h1 := h1.stp sw9
            replace hk := hk.stp sw9
            replace hyx := Rep.stp hyx sw9
            replace hkx := hkx.stp sw9
            replace hatx := hatx.stp sw9
            replace h5 := h5.stp sw9
            replace hlow := sw9.low
            replace hB := Nat.le_trans hB sw9.upd.1
            replace hs := hw9
            refine l_p 1 tbOk rfl (q1 ?_)
            refine c_ifB _ rfl (fun c29 => ?_) (fun c29 => ?_)
            · refine q0 (l_p 1 tbOk rfl (q1 (c_ret (x_blkR (x_seqR (x_seqR (x_blkR (x_seqR (x_ret1 rfl rfl ?_)))))))))
              rw [run_step hik, hflag] at hrun
              simp only [c29, cond_false] at hrun
              rw [← hrun]
              exact ⟨rfl, hs, hU⟩
            refine c_skip (x_blk (x_seq (c_reg ?_)))
            refine l_cons (o_ar rfl rfl rfl (IntWalk.i64_in _ (by omega)) rfl rfl ?_)
            refine l_p 1 tbOk rfl (l_nil ?_)
            exact x_round2 (i + 1) ((rightF t.kids[i] (decide ((i : Int) = 1)) li).2) (s5 rfl rfl rfl rfl rfl) ⟨by omega, by rw [run_step hik, hflag] at hrun; simpa [c29] using hrun, hs, hne, h1, hk, hlow, hU, hB⟩ (by omega)
          refine l_p 4 tbOk rfl ?_
          have hflag : kidRow t.op i = false := by clear ih; simp_all [kidRow]
          refine l_cons (o_call fo91 rfl rfl rfl (ih _ (List.getElem_mem hik) false li M _ _ B b hyx hs hlow) ?_)
          rintro _ w10 ⟨rfl, hw10, uw10⟩
          have sw10 := uw10.stp hs.inM hlow hs.ge
          have frw10 := uw10.upd.2
          replace hU := hU.trans uw10
          replace h1 := h1.stp sw10
          replace hk := hk.stp sw10
          replace hyx := Rep.stp hyx sw10
          replace hkx := hkx.stp sw10
          replace hatx := hatx.stp sw10
          replace h5 := h5.stp sw10
          replace hlow := sw10.low
          replace hB := Nat.le_trans hB sw10.upd.1
          replace hs := hw10
          refine l_p 1 tbOk rfl (q1 ?_)
          refine c_ifB _ rfl (fun c30 => ?_) (fun c30 => ?_)
          · refine q0 (l_p 1 tbOk rfl (q1 (c_ret (x_blkR (x_seqR (x_seqR (x_blkR (x_seqR (x_ret1 rfl rfl ?_)))))))))
            rw [run_step hik, hflag] at hrun
            simp only [c30, cond_false] at hrun
            rw [← hrun]
            exact ⟨rfl, hs, hU⟩
          refine c_skip (x_blk (x_seq (c_reg ?_)))
          refine l_cons (o_ar rfl rfl rfl (IntWalk.i64_in _ (by omega)) rfl rfl ?_)
          refine l_p 1 tbOk rfl (l_nil ?_)
          exact x_round2 (i + 1) ((rightF t.kids[i] false li).2) (s5 rfl rfl rfl rfl rfl) ⟨by omega, by rw [run_step hik, hflag] at hrun; simpa [c30] using hrun, hs, hne, h1, hk, hlow, hU, hB⟩ (by omega)
        refine c_exit (x_seqE (x_seqE (x_blkE (x_seq (q0 (l_p 1 tbOk rfl (q1 (c_ret (x_ret1 rfl rfl ?_)))))))))
        rw [run_end (by omega)] at hrun
        rw [← hrun]
        exact ⟨rfl, hs, hU⟩
      refine l_p 6 tbOk rfl (q1 (c_ifF rfl (c_skip (x_seq ?_))))
      refine c_cut (X := St) (fun li0 => [(0, .map (some b)), (4, .pointer (some ⟨b1, 0, none⟩))]) (fun li0 w' => runR (t.kids.map rightF) (kidRow t.op) 0 li0 = rightF t row l ∧ OM (κ := Int) (fun x : Bool => Value.bool x) B M w' b li0 ∧ b1 ≠ b ∧ At M w' b1 0 [.int .u8 t.op, .string t.name, .int .i64 t.n, kv] ∧ Sl M w' kv t.kids ∧ Low M w' ∧ UpdB b w w' ∧ B ≤ w'.heap.size) ?_ ?_
      · refine q0 (l_p 2 tbOk rfl ?_)
        refine l_split 75 _ rfl (fun c31 => ?_) (fun c31 => ?_)
        · refine l_p 2 tbOk rfl ?_
          refine l_cons (o_ld tbOk (h1.cell 2 _ rfl) rfl rfl rfl rfl rfl ?_)
          refine l_p 1 tbOk rfl ?_
          have hpre : preR t.op row t.kids.length t.name t.n = true := by clear ih; rw [preR, hko]; unfold headOk; simp_all [numB] <;> omega
          refine l_cons (o_call fo113 rfl rfl rfl (meet_spec M _ B b l t.n row hs hlow) ?_)
          rintro _ w12 ⟨rfl, hw12, uw12⟩
          have sw12 := uw12.stp hs.inM hlow hs.ge
          have frw12 := uw12.upd.2
          replace hU := hU.trans uw12
          replace ht := Rep.stp ht sw12
          replace hk := hk.stp sw12
          replace h1 := h1.stp sw12
          replace hlow := sw12.low
          replace hB := Nat.le_trans hB sw12.upd.1
          replace hs := hw12
          refine l_p 2 tbOk rfl (q1 ?_)
          refine c_ifB _ rfl (fun c32 => ?_) (fun c32 => ?_)
          · refine q0 (l_p 1 tbOk rfl (q1 (c_ret (x_seqR (x_ret1 rfl rfl ?_)))))
            rw [right_meet_no hpre (by clear ih; simp_all) c32]
            exact ⟨rfl, hs, hU⟩
          refine c_skip ?_
          have hrun := (right_meet_yes (row := row) (s := l) hpre (by clear ih; simp_all) (by clear ih; simp_all)).symm
          exact x_cut ((meetS l t.n row).2) (s2 rfl rfl) ⟨hrun, hs, fun e => h1.nM (e ▸ hs.inM), h1, hk, hlow, hU, hB⟩
        refine l_p 7 tbOk rfl (q1 (c_ifF rfl (c_skip ?_)))
        have hpre : preR t.op row t.kids.length t.name t.n = true := by clear ih; rw [preR, hko]; unfold headOk; simp_all [numB] <;> omega
        have hrun := (right_plain (row := row) (s := l) hpre (by clear ih; simp_all)).symm
        exact x_cut (l) (s2 rfl rfl) ⟨hrun, hs, fun e => h1.nM (e ▸ hs.inM), h1, hk, hlow, hU, hB⟩
      rintro li0 w11 ⟨hrun, hs, hne, h1, hk, hlow, hU, hB⟩
      refine c_seq (q0 (l_p 1 tbOk rfl ?_))
      refine l_cons (o_ld tbOk (h1.cell 3 _ rfl) rfl rfl rfl rfl rfl ?_)
      refine l_cons (o_len tbOk hk rfl rfl rfl rfl rfl ?_)
      refine l_p 1 tbOk rfl (q1 (c_blk ?_))
      refine c_loop2 (X := Nat) (Y := St) (fun i li => [(0, .map (some b)), (4, .pointer (some ⟨b1, 0, none⟩)), (84, kv), (85, .int .i64 (t.kids.length : Int)), (86, .int .i64 (i : Nat))]) (fun i li w' => i ≤ t.kids.length ∧ runR ((t.kids.drop i).map rightF) (kidRow t.op) i li = rightF t row l ∧ OM (κ := Int) (fun x : Bool => Value.bool x) B M w' b li ∧ b1 ≠ b ∧ At M w' b1 0 [.int .u8 t.op, .string t.name, .int .i64 t.n, kv] ∧ Sl M w' kv t.kids ∧ Low M w' ∧ UpdB b w w' ∧ B ≤ w'.heap.size) (fun i li => t.kids.length - i) (0) (li0) (s5 rfl rfl rfl rfl rfl) ?_ ?_
      · exact ⟨Nat.zero_le _, by simpa using hrun, hs, hne, h1, hk, hlow, hU, hB⟩
      rintro i li w13 ⟨hi, hrun, hs, hne, h1, hk, hlow, hU, hB⟩
      refine q0 (l_p 1 tbOk rfl (q1 (c_seq ?_)))
      refine c_ifP _ rfl (fun c33 => ?_) (fun c33 => ?_)
      · refine c_skip (x_seq (c_seq (c_blk (q0 (l_p 1 tbOk rfl ?_)))))
        have hik : i < t.kids.length := by omega
        refine l_cons (o_ixS tbOk hk (List.getElem?_eq_getElem hik) rfl rfl rfl rfl rfl rfl rfl rfl rfl ?_)
        intro ebx eox eux hyx hatx
        obtain ⟨kvx, rfl, opx, nmx, n64x, hkx⟩ := ty_open hyx
        replace hatx : At M w13 ebx eox [.int .u8 t.kids[i].op, .string t.kids[i].name, .int .i64 t.kids[i].n, kvx] := hatx
        refine l_cons (o_lds tbOk (fun j v hv => hatx.cell j v hv) rfl rfl rfl rfl rfl rfl ?_)
        refine l_cons (o_new tbOk rfl rfl rfl ?_)
        intro b5 w14 qb5 ew14 hb5
        have nb5 := nM_of hlow qb5
        refine l_p 1 tbOk rfl ?_
        refine l_cons (o_st tbOk hb5 rfl rfl rfl rfl (Rep.one hyx) rfl rfl ?_)
        intro w15 h5 uw15 bew15
        have ew15 : Ext w13 w15 := ew14.trans (bew15 _ (Nat.le_of_eq qb5.symm))
        replace hU := hU.trans (UpdB.ext ew15 hs.lt)
        replace hs := hs.ext hlow hB ew15
        replace h1 := h1.ext ew15
        replace hk := hk.ext ew15
        replace hyx := Rep.ext hyx ew15
        replace hkx := hkx.ext ew15
        replace hatx := hatx.ext ew15
        replace hlow := hlow.ext ew15
        replace hB := Nat.le_trans hB ew15.size
        replace h5 : Box w15 b5 40 [.int .u8 t.kids[i].op, .string t.kids[i].name, .int .i64 t.kids[i].n, kvx] := h5
        replace h5 := h5.at nb5
        refine q1 (q0 (l_p 1 tbOk rfl ?_))
        refine l_cons (o_lds tbOk (fun j v hv => h5.cell j v hv) rfl rfl rfl rfl rfl rfl ?_)
        refine l_p 1 tbOk rfl ?_
        refine l_cons (o_ld tbOk (h1.cell 0 _ rfl) rfl rfl rfl rfl rfl ?_)
        refine l_p 2 tbOk rfl ?_
        refine l_splitP 96 _ rfl (fun c34 => ?_) (fun c34 => ?_)
        · refine l_p 13 tbOk rfl ?_
          have hflag : kidRow t.op i = true := by clear ih; simp_all [kidRow]
          refine l_cons (o_call fo91 rfl rfl rfl (ih _ (List.getElem_mem hik) true li M _ _ B b hyx hs hlow) ?_)
          rintro _ w16 ⟨rfl, hw16, uw16⟩
          have sw16 := uw16.stp hs.inM hlow hs.ge
          have frw16 := uw16.upd.2
          replace hU := hU.trans uw16
          replace h1 := h1.stp sw16
          replace hk := hk.stp sw16
          replace hyx := Rep.stp hyx sw16
          replace hkx := hkx.stp sw16
          replace hatx := hatx.stp sw16
          replace h5 := h5.stp sw16
          replace hlow := sw16.low
          replace hB := Nat.le_trans hB sw16.upd.1
          replace hs := hw16
          refine l_p 1 tbOk rfl (q1 ?_)
          refine c_ifB _ rfl (fun c35 => ?_) (fun c35 => ?_)
          · refine q0 (l_p 1 tbOk rfl (q1 (c_ret (x_blkR (x_seqR (x_seqR (x_blkR (x_seqR (x_ret1 rfl rfl ?_)))))))))
            rw [run_step hik, hflag] at hrun
            simp only [c35, cond_false] at hrun
            rw [← hrun]
            exact ⟨rfl, hs, hU⟩
          refine c_skip (x_blk (x_seq (c_reg ?_)))
          refine l_cons (o_ar rfl rfl rfl (IntWalk.i64_in _ (by omega)) rfl rfl ?_)
          refine l_p 1 tbOk rfl (l_nil ?_)
          exact x_round2 (i + 1) ((rightF t.kids[i] true li).2) (s5 rfl rfl rfl rfl rfl) ⟨by omega, by rw [run_step hik, hflag] at hrun; simpa [c35] using hrun, hs, hne, h1, hk, hlow, hU, hB⟩ (by omega)
        refine l_p 1 tbOk rfl ?_
        refine l_cons (o_ld tbOk (h1.cell 0 _ rfl) rfl rfl rfl rfl rfl ?_)
        refine l_p 3 tbOk rfl ?_
        refine l_splitP 101 _ rfl (fun c36 => ?_) (fun c36 => ?_)
        · refine l_p 8 tbOk rfl ?_
          have hflag : kidRow t.op i = true := by clear ih; simp_all [kidRow]
          refine l_cons (o_call fo91 rfl rfl rfl (ih _ (List.getElem_mem hik) true li M _ _ B b hyx hs hlow) ?_)
          rintro _ w17 ⟨rfl, hw17, uw17⟩
          have sw17 := uw17.stp hs.inM hlow hs.ge
          have frw17 := uw17.upd.2
          replace hU := hU.trans uw17
          replace h1 := h1.stp sw17
          replace hk := hk.stp sw17
          replace hyx := Rep.stp hyx sw17
          replace hkx := hkx.stp sw17
          replace hatx := hatx.stp sw17
          replace h5 := h5.stp sw17
          replace hlow := sw17.low
          replace hB := Nat.le_trans hB sw17.upd.1
          replace hs := hw17
          refine l_p 1 tbOk rfl (q1 ?_)
          refine c_ifB _ rfl (fun c37 => ?_) (fun c37 => ?_)
          · refine q0 (l_p 1 tbOk rfl (q1 (c_ret (x_blkR (x_seqR (x_seqR (x_blkR (x_seqR (x_ret1 rfl rfl ?_)))))))))
            rw [run_step hik, hflag] at hrun
            simp only [c37, cond_false] at hrun
            rw [← hrun]
            exact ⟨rfl, hs, hU⟩
          refine c_skip (x_blk (x_seq (c_reg ?_)))
          refine l_cons (o_ar rfl rfl rfl (IntWalk.i64_in _ (by omega)) rfl rfl ?_)
          refine l_p 1 tbOk rfl (l_nil ?_)
          exact x_round2 (i + 1) ((rightF t.kids[i] true li).2) (s5 rfl rfl rfl rfl rfl) ⟨by omega, by rw [run_step hik, hflag] at hrun; simpa [c37] using hrun, hs, hne, h1, hk, hlow, hU, hB⟩ (by omega)
        refine l_p 1 tbOk rfl ?_
        refine l_cons (o_ld tbOk (h1.cell 0 _ rfl) rfl rfl rfl rfl rfl ?_)
        refine l_p 2 tbOk rfl ?_
        refine l_splitP 105 _ rfl (fun c38 => ?_) (fun c38 => ?_)
        · refine l_p 4 tbOk rfl ?_
          have hflag : kidRow t.op i = decide ((i : Int) = 1) := by clear ih; simp_all [kidRow]
          refine l_cons (o_call fo91 rfl rfl rfl (ih _ (List.getElem_mem hik) (decide ((i : Int) = 1)) li M _ _ B b hyx hs hlow) ?_)
          rintro _ w18 ⟨rfl, hw18, uw18⟩
          have sw18 := uw18.stp hs.inM hlow hs.ge
          have frw18 := uw18.upd.2
          replace hU := hU.trans uw18
          replace h1 := h1.stp sw18
          replace hk := hk.stp sw18
          replace hyx := Rep.stp hyx sw18
          replace hkx := hkx.stp sw18
          replace hatx := hatx.stp sw18
          replace h5 := h5.stp sw18
          replace hlow := sw18.low
          replace hB := Nat.le_trans hB sw18.upd.1
          replace hs := hw18
          refine l_p 1 tbOk rfl (q1 ?_)
          refine c_ifB _ rfl (fun c39 => ?_) (fun c39 => ?_)
          · refine q0 (l_p 1 tbOk rfl (q1 (c_ret (x_blkR (x_seqR (x_seqR (x_blkR (x_seqR (x_ret1 rfl rfl ?_)))))))))
            rw [run_step hik, hflag] at hrun
            simp only [c39, cond_false] at hrun
            rw [← hrun]
            exact ⟨rfl, hs, hU⟩
          refine c_skip (x_blk (x_seq (c_reg ?_)))
          refine l_cons (o_ar rfl rfl rfl (IntWalk.i64_in _ (by omega)) rfl rfl ?_)
          refine l_p 1 tbOk rfl (l_nil ?_)
          exact x_round2 (i + 1) ((rightF t.kids[i] (decide ((i : Int) = 1)) li).2) (s5 rfl rfl rfl rfl rfl) ⟨by omega, by rw [run_step hik, hflag] at hrun; simpa [c39] using hrun, hs, hne, h1, hk, hlow, hU, hB⟩ (by omega)
        refine l_p 4 tbOk rfl ?_
        have hflag : kidRow t.op i = false := by clear ih; simp_all [kidRow]
        refine l_cons (o_call fo91 rfl rfl rfl (ih _ (List.getElem_mem hik) false li M _ _ B b hyx hs hlow) ?_)
        rintro _ w19 ⟨rfl, hw19, uw19⟩
        have sw19 := uw19.stp hs.inM hlow hs.ge
        have frw19 := uw19.upd.2
        replace hU := hU.trans uw19
        replace h1 := h1.stp sw19
        replace hk := hk.stp sw19
        replace hyx := Rep.stp hyx sw19
        replace hkx := hkx.stp sw19
        replace hatx := hatx.stp sw19
        replace h5 := h5.stp sw19
        replace hlow := sw19.low
        replace hB := Nat.le_trans hB sw19.upd.1
        replace hs := hw19
        refine l_p 1 tbOk rfl (q1 ?_)
        refine c_ifB _ rfl (fun c40 => ?_) (fun c40 => ?_)
        · refine q0 (l_p 1 tbOk rfl (q1 (c_ret (x_blkR (x_seqR (x_seqR (x_blkR (x_seqR (x_ret1 rfl rfl ?_)))))))))
          rw [run_step hik, hflag] at hrun
          simp only [c40, cond_false] at hrun
          rw [← hrun]
          exact ⟨rfl, hs, hU⟩
        refine c_skip (x_blk (x_seq (c_reg ?_)))
        refine l_cons (o_ar rfl rfl rfl (IntWalk.i64_in _ (by omega)) rfl rfl ?_)
        refine l_p 1 tbOk rfl (l_nil ?_)
        exact x_round2 (i + 1) ((rightF t.kids[i] false li).2) (s5 rfl rfl rfl rfl rfl) ⟨by omega, by rw [run_step hik, hflag] at hrun; simpa [c40] using hrun, hs, hne, h1, hk, hlow, hU, hB⟩ (by omega)
      refine c_exit (x_seqE (x_seqE (x_blkE (x_seq (q0 (l_p 1 tbOk rfl (q1 (c_ret (x_ret1 rfl rfl ?_)))))))))
      rw [run_end (by omega)] at hrun
      rw [← hrun]
      exact ⟨rfl, hs, hU⟩
    refine l_p 7 tbOk rfl ?_
    refine l_split 67 _ rfl (fun c41 => ?_) (fun c41 => ?_)
    · refine l_p 1 tbOk rfl ?_
      refine l_cons (o_ld tbOk (h1.cell 1 _ rfl) rfl rfl rfl rfl rfl ?_)
      refine l_cons (o_call fo57 rfl rfl rfl (isWord_spec _ t.name nm) ?_)
      rintro _ _ ⟨rfl, rfl⟩
      refine l_p 3 tbOk rfl (q1 ?_)
      refine c_ifB _ rfl (fun c42 => ?_) (fun c42 => ?_)
      · refine q0 (l_p 1 tbOk rfl (q1 (c_ret (x_seqR (x_ret1 rfl rfl ?_)))))
        rw [right_pre_no (by clear ih; rw [preR, hko]; unfold headOk; simp_all [numB] <;> omega)]
        exact ⟨rfl, hs, hU⟩
      refine c_skip (x_seq ?_)
      refine c_cut (X := St) (fun li0 => [(0, .map (some b)), (4, .pointer (some ⟨b1, 0, none⟩))]) (fun li0 w' => runR (t.kids.map rightF) (kidRow t.op) 0 li0 = rightF t row l ∧ OM (κ := Int) (fun x : Bool => Value.bool x) B M w' b li0 ∧ b1 ≠ b ∧ At M w' b1 0 [.int .u8 t.op, .string t.name, .int .i64 t.n, kv] ∧ Sl M w' kv t.kids ∧ Low M w' ∧ UpdB b w w' ∧ B ≤ w'.heap.size) ?_ ?_
      · refine q0 (l_p 2 tbOk rfl ?_)
        refine l_split 75 _ rfl (fun c43 => ?_) (fun c43 => ?_)
        · refine l_p 2 tbOk rfl ?_
          refine l_cons (o_ld tbOk (h1.cell 2 _ rfl) rfl rfl rfl rfl rfl ?_)
          refine l_p 1 tbOk rfl ?_
          have hpre : preR t.op row t.kids.length t.name t.n = true := by clear ih; rw [preR, hko]; unfold headOk; simp_all [numB] <;> omega
          refine l_cons (o_call fo113 rfl rfl rfl (meet_spec M _ B b l t.n row hs hlow) ?_)
          rintro _ w21 ⟨rfl, hw21, uw21⟩
          have sw21 := uw21.stp hs.inM hlow hs.ge
          have frw21 := uw21.upd.2
          replace hU := hU.trans uw21
          replace ht := Rep.stp ht sw21
          replace hk := hk.stp sw21
          replace h1 := h1.stp sw21
          replace hlow := sw21.low
          replace hB := Nat.le_trans hB sw21.upd.1
          replace hs := hw21
          refine l_p 2 tbOk rfl (q1 ?_)
          refine c_ifB _ rfl (fun c44 => ?_) (fun c44 => ?_)
          · refine q0 (l_p 1 tbOk rfl (q1 (c_ret (x_seqR (x_ret1 rfl rfl ?_)))))
            rw [right_meet_no hpre (by clear ih; simp_all) c44]
            exact ⟨rfl, hs, hU⟩
          refine c_skip ?_
          have hrun := (right_meet_yes (row := row) (s := l) hpre (by clear ih; simp_all) (by clear ih; simp_all)).symm
          exact x_cut ((meetS l t.n row).2) (s2 rfl rfl) ⟨hrun, hs, fun e => h1.nM (e ▸ hs.inM), h1, hk, hlow, hU, hB⟩
        refine l_p 7 tbOk rfl (q1 (c_ifF rfl (c_skip ?_)))
        have hpre : preR t.op row t.kids.length t.name t.n = true := by clear ih; rw [preR, hko]; unfold headOk; simp_all [numB] <;> omega
        have hrun := (right_plain (row := row) (s := l) hpre (by clear ih; simp_all)).symm
        exact x_cut (l) (s2 rfl rfl) ⟨hrun, hs, fun e => h1.nM (e ▸ hs.inM), h1, hk, hlow, hU, hB⟩
      rintro li0 w20 ⟨hrun, hs, hne, h1, hk, hlow, hU, hB⟩
      refine c_seq (q0 (l_p 1 tbOk rfl ?_))
      refine l_cons (o_ld tbOk (h1.cell 3 _ rfl) rfl rfl rfl rfl rfl ?_)
      refine l_cons (o_len tbOk hk rfl rfl rfl rfl rfl ?_)
      refine l_p 1 tbOk rfl (q1 (c_blk ?_))
      refine c_loop2 (X := Nat) (Y := St) (fun i li => [(0, .map (some b)), (4, .pointer (some ⟨b1, 0, none⟩)), (84, kv), (85, .int .i64 (t.kids.length : Int)), (86, .int .i64 (i : Nat))]) (fun i li w' => i ≤ t.kids.length ∧ runR ((t.kids.drop i).map rightF) (kidRow t.op) i li = rightF t row l ∧ OM (κ := Int) (fun x : Bool => Value.bool x) B M w' b li ∧ b1 ≠ b ∧ At M w' b1 0 [.int .u8 t.op, .string t.name, .int .i64 t.n, kv] ∧ Sl M w' kv t.kids ∧ Low M w' ∧ UpdB b w w' ∧ B ≤ w'.heap.size) (fun i li => t.kids.length - i) (0) (li0) (s5 rfl rfl rfl rfl rfl) ?_ ?_
      · exact ⟨Nat.zero_le _, by simpa using hrun, hs, hne, h1, hk, hlow, hU, hB⟩
      rintro i li w22 ⟨hi, hrun, hs, hne, h1, hk, hlow, hU, hB⟩
      refine q0 (l_p 1 tbOk rfl (q1 (c_seq ?_)))
      refine c_ifP _ rfl (fun c45 => ?_) (fun c45 => ?_)
      · refine c_skip (x_seq (c_seq (c_blk (q0 (l_p 1 tbOk rfl ?_)))))
        have hik : i < t.kids.length := by omega
        refine l_cons (o_ixS tbOk hk (List.getElem?_eq_getElem hik) rfl rfl rfl rfl rfl rfl rfl rfl rfl ?_)
        intro ebx eox eux hyx hatx
        obtain ⟨kvx, rfl, opx, nmx, n64x, hkx⟩ := ty_open hyx
        replace hatx : At M w22 ebx eox [.int .u8 t.kids[i].op, .string t.kids[i].name, .int .i64 t.kids[i].n, kvx] := hatx
        refine l_cons (o_lds tbOk (fun j v hv => hatx.cell j v hv) rfl rfl rfl rfl rfl rfl ?_)
        refine l_cons (o_new tbOk rfl rfl rfl ?_)
        intro b5 w23 qb5 ew23 hb5
        have nb5 := nM_of hlow qb5
        refine l_p 1 tbOk rfl ?_
        refine l_cons (o_st tbOk hb5 rfl rfl rfl rfl (Rep.one hyx) rfl rfl ?_)
        intro w24 h5 uw24 bew24
        have ew24 : Ext w22 w24 := ew23.trans (bew24 _ (Nat.le_of_eq qb5.symm))
        replace hU := hU.trans (UpdB.ext ew24 hs.lt)
        replace hs := hs.ext hlow hB ew24
        replace h1 := h1.ext ew24
        replace hk := hk.ext ew24
        replace hyx := Rep.ext hyx ew24
        replace hkx := hkx.ext ew24
        replace hatx := hatx.ext ew24
        replace hlow := hlow.ext ew24
        replace hB := Nat.le_trans hB ew24.size
        replace h5 : Box w24 b5 40 [.int .u8 t.kids[i].op, .string t.kids[i].name, .int .i64 t.kids[i].n, kvx] := h5
        replace h5 := h5.at nb5
        refine q1 (q0 (l_p 1 tbOk rfl ?_))
        refine l_cons (o_lds tbOk (fun j v hv => h5.cell j v hv) rfl rfl rfl rfl rfl rfl ?_)
        refine l_p 1 tbOk rfl ?_
        refine l_cons (o_ld tbOk (h1.cell 0 _ rfl) rfl rfl rfl rfl rfl ?_)
        refine l_p 2 tbOk rfl ?_
        refine l_splitP 96 _ rfl (fun c46 => ?_) (fun c46 => ?_)
        · refine l_p 13 tbOk rfl ?_
          have hflag : kidRow t.op i = true := by clear ih; simp_all [kidRow]
          refine l_cons (o_call fo91 rfl rfl rfl (ih _ (List.getElem_mem hik) true li M _ _ B b hyx hs hlow) ?_)
          rintro _ w25 ⟨rfl, hw25, uw25⟩
          have sw25 := uw25.stp hs.inM hlow hs.ge
          have frw25 := uw25.upd.2
          replace hU := hU.trans uw25
          replace h1 := h1.stp sw25
          replace hk := hk.stp sw25
          replace hyx := Rep.stp hyx sw25
          replace hkx := hkx.stp sw25
          replace hatx := hatx.stp sw25
          replace h5 := h5.stp sw25
          replace hlow := sw25.low
          replace hB := Nat.le_trans hB sw25.upd.1
          replace hs := hw25
          refine l_p 1 tbOk rfl (q1 ?_)
          refine c_ifB _ rfl (fun c47 => ?_) (fun c47 => ?_)
          · refine q0 (l_p 1 tbOk rfl (q1 (c_ret (x_blkR (x_seqR (x_seqR (x_blkR (x_seqR (x_ret1 rfl rfl ?_)))))))))
            rw [run_step hik, hflag] at hrun
            simp only [c47, cond_false] at hrun
            rw [← hrun]
            exact ⟨rfl, hs, hU⟩
          refine c_skip (x_blk (x_seq (c_reg ?_)))
          refine l_cons (o_ar rfl rfl rfl (IntWalk.i64_in _ (by omega)) rfl rfl ?_)
          refine l_p 1 tbOk rfl (l_nil ?_)
          exact x_round2 (i + 1) ((rightF t.kids[i] true li).2) (s5 rfl rfl rfl rfl rfl) ⟨by omega, by rw [run_step hik, hflag] at hrun; simpa [c47] using hrun, hs, hne, h1, hk, hlow, hU, hB⟩ (by omega)
        refine l_p 1 tbOk rfl ?_
        refine l_cons (o_ld tbOk (h1.cell 0 _ rfl) rfl rfl rfl rfl rfl ?_)
        refine l_p 3 tbOk rfl ?_
        refine l_splitP 101 _ rfl (fun c48 => ?_) (fun c48 => ?_)
        · refine l_p 8 tbOk rfl ?_
          have hflag : kidRow t.op i = true := by clear ih; simp_all [kidRow]
          refine l_cons (o_call fo91 rfl rfl rfl (ih _ (List.getElem_mem hik) true li M _ _ B b hyx hs hlow) ?_)
          rintro _ w26 ⟨rfl, hw26, uw26⟩
          have sw26 := uw26.stp hs.inM hlow hs.ge
          have frw26 := uw26.upd.2
          replace hU := hU.trans uw26
          replace h1 := h1.stp sw26
          replace hk := hk.stp sw26
          replace hyx := Rep.stp hyx sw26
          replace hkx := hkx.stp sw26
          replace hatx := hatx.stp sw26
          replace h5 := h5.stp sw26
          replace hlow := sw26.low
          replace hB := Nat.le_trans hB sw26.upd.1
          replace hs := hw26
          refine l_p 1 tbOk rfl (q1 ?_)
          refine c_ifB _ rfl (fun c49 => ?_) (fun c49 => ?_)
          · refine q0 (l_p 1 tbOk rfl (q1 (c_ret (x_blkR (x_seqR (x_seqR (x_blkR (x_seqR (x_ret1 rfl rfl ?_)))))))))
            rw [run_step hik, hflag] at hrun
            simp only [c49, cond_false] at hrun
            rw [← hrun]
            exact ⟨rfl, hs, hU⟩
          refine c_skip (x_blk (x_seq (c_reg ?_)))
          refine l_cons (o_ar rfl rfl rfl (IntWalk.i64_in _ (by omega)) rfl rfl ?_)
          refine l_p 1 tbOk rfl (l_nil ?_)
          exact x_round2 (i + 1) ((rightF t.kids[i] true li).2) (s5 rfl rfl rfl rfl rfl) ⟨by omega, by rw [run_step hik, hflag] at hrun; simpa [c49] using hrun, hs, hne, h1, hk, hlow, hU, hB⟩ (by omega)
        refine l_p 1 tbOk rfl ?_
        refine l_cons (o_ld tbOk (h1.cell 0 _ rfl) rfl rfl rfl rfl rfl ?_)
        refine l_p 2 tbOk rfl ?_
        refine l_splitP 105 _ rfl (fun c50 => ?_) (fun c50 => ?_)
        · refine l_p 4 tbOk rfl ?_
          have hflag : kidRow t.op i = decide ((i : Int) = 1) := by clear ih; simp_all [kidRow]
          refine l_cons (o_call fo91 rfl rfl rfl (ih _ (List.getElem_mem hik) (decide ((i : Int) = 1)) li M _ _ B b hyx hs hlow) ?_)
          rintro _ w27 ⟨rfl, hw27, uw27⟩
          have sw27 := uw27.stp hs.inM hlow hs.ge
          have frw27 := uw27.upd.2
          replace hU := hU.trans uw27
          replace h1 := h1.stp sw27
          replace hk := hk.stp sw27
          replace hyx := Rep.stp hyx sw27
          replace hkx := hkx.stp sw27
          replace hatx := hatx.stp sw27
          replace h5 := h5.stp sw27
          replace hlow := sw27.low
          replace hB := Nat.le_trans hB sw27.upd.1
          replace hs := hw27
          refine l_p 1 tbOk rfl (q1 ?_)
          refine c_ifB _ rfl (fun c51 => ?_) (fun c51 => ?_)
          · refine q0 (l_p 1 tbOk rfl (q1 (c_ret (x_blkR (x_seqR (x_seqR (x_blkR (x_seqR (x_ret1 rfl rfl ?_)))))))))
            rw [run_step hik, hflag] at hrun
            simp only [c51, cond_false] at hrun
            rw [← hrun]
            exact ⟨rfl, hs, hU⟩
          refine c_skip (x_blk (x_seq (c_reg ?_)))
          refine l_cons (o_ar rfl rfl rfl (IntWalk.i64_in _ (by omega)) rfl rfl ?_)
          refine l_p 1 tbOk rfl (l_nil ?_)
          exact x_round2 (i + 1) ((rightF t.kids[i] (decide ((i : Int) = 1)) li).2) (s5 rfl rfl rfl rfl rfl) ⟨by omega, by rw [run_step hik, hflag] at hrun; simpa [c51] using hrun, hs, hne, h1, hk, hlow, hU, hB⟩ (by omega)
        refine l_p 4 tbOk rfl ?_
        have hflag : kidRow t.op i = false := by clear ih; simp_all [kidRow]
        refine l_cons (o_call fo91 rfl rfl rfl (ih _ (List.getElem_mem hik) false li M _ _ B b hyx hs hlow) ?_)
        rintro _ w28 ⟨rfl, hw28, uw28⟩
        have sw28 := uw28.stp hs.inM hlow hs.ge
        have frw28 := uw28.upd.2
        replace hU := hU.trans uw28
        replace h1 := h1.stp sw28
        replace hk := hk.stp sw28
        replace hyx := Rep.stp hyx sw28
        replace hkx := hkx.stp sw28
        replace hatx := hatx.stp sw28
        replace h5 := h5.stp sw28
        replace hlow := sw28.low
        replace hB := Nat.le_trans hB sw28.upd.1
        replace hs := hw28
        refine l_p 1 tbOk rfl (q1 ?_)
        refine c_ifB _ rfl (fun c52 => ?_) (fun c52 => ?_)
        · refine q0 (l_p 1 tbOk rfl (q1 (c_ret (x_blkR (x_seqR (x_seqR (x_blkR (x_seqR (x_ret1 rfl rfl ?_)))))))))
          rw [run_step hik, hflag] at hrun
          simp only [c52, cond_false] at hrun
          rw [← hrun]
          exact ⟨rfl, hs, hU⟩
        refine c_skip (x_blk (x_seq (c_reg ?_)))
        refine l_cons (o_ar rfl rfl rfl (IntWalk.i64_in _ (by omega)) rfl rfl ?_)
        refine l_p 1 tbOk rfl (l_nil ?_)
        exact x_round2 (i + 1) ((rightF t.kids[i] false li).2) (s5 rfl rfl rfl rfl rfl) ⟨by omega, by rw [run_step hik, hflag] at hrun; simpa [c52] using hrun, hs, hne, h1, hk, hlow, hU, hB⟩ (by omega)
      refine c_exit (x_seqE (x_seqE (x_blkE (x_seq (q0 (l_p 1 tbOk rfl (q1 (c_ret (x_ret1 rfl rfl ?_)))))))))
      rw [run_end (by omega)] at hrun
      rw [← hrun]
      exact ⟨rfl, hs, hU⟩
    refine l_p 6 tbOk rfl (q1 (c_ifF rfl (c_skip (x_seq ?_))))
    refine c_cut (X := St) (fun li0 => [(0, .map (some b)), (4, .pointer (some ⟨b1, 0, none⟩))]) (fun li0 w' => runR (t.kids.map rightF) (kidRow t.op) 0 li0 = rightF t row l ∧ OM (κ := Int) (fun x : Bool => Value.bool x) B M w' b li0 ∧ b1 ≠ b ∧ At M w' b1 0 [.int .u8 t.op, .string t.name, .int .i64 t.n, kv] ∧ Sl M w' kv t.kids ∧ Low M w' ∧ UpdB b w w' ∧ B ≤ w'.heap.size) ?_ ?_
    · refine q0 (l_p 2 tbOk rfl ?_)
      refine l_split 75 _ rfl (fun c53 => ?_) (fun c53 => ?_)
      · refine l_p 2 tbOk rfl ?_
        refine l_cons (o_ld tbOk (h1.cell 2 _ rfl) rfl rfl rfl rfl rfl ?_)
        refine l_p 1 tbOk rfl ?_
        have hpre : preR t.op row t.kids.length t.name t.n = true := by clear ih; rw [preR, hko]; unfold headOk; simp_all [numB] <;> omega
        refine l_cons (o_call fo113 rfl rfl rfl (meet_spec M _ B b l t.n row hs hlow) ?_)
        rintro _ w30 ⟨rfl, hw30, uw30⟩
        have sw30 := uw30.stp hs.inM hlow hs.ge
        have frw30 := uw30.upd.2
        replace hU := hU.trans uw30
        replace ht := Rep.stp ht sw30
        replace hk := hk.stp sw30
        replace h1 := h1.stp sw30
        replace hlow := sw30.low
        replace hB := Nat.le_trans hB sw30.upd.1
        replace hs := hw30
        refine l_p 2 tbOk rfl (q1 ?_)
        refine c_ifB _ rfl (fun c54 => ?_) (fun c54 => ?_)
        · refine q0 (l_p 1 tbOk rfl (q1 (c_ret (x_seqR (x_ret1 rfl rfl ?_)))))
          rw [right_meet_no hpre (by clear ih; simp_all) c54]
          exact ⟨rfl, hs, hU⟩
        refine c_skip ?_
        have hrun := (right_meet_yes (row := row) (s := l) hpre (by clear ih; simp_all) (by clear ih; simp_all)).symm
        exact x_cut ((meetS l t.n row).2) (s2 rfl rfl) ⟨hrun, hs, fun e => h1.nM (e ▸ hs.inM), h1, hk, hlow, hU, hB⟩
      refine l_p 7 tbOk rfl (q1 (c_ifF rfl (c_skip ?_)))
      have hpre : preR t.op row t.kids.length t.name t.n = true := by clear ih; rw [preR, hko]; unfold headOk; simp_all [numB] <;> omega
      have hrun := (right_plain (row := row) (s := l) hpre (by clear ih; simp_all)).symm
      exact x_cut (l) (s2 rfl rfl) ⟨hrun, hs, fun e => h1.nM (e ▸ hs.inM), h1, hk, hlow, hU, hB⟩
    rintro li0 w29 ⟨hrun, hs, hne, h1, hk, hlow, hU, hB⟩
    refine c_seq (q0 (l_p 1 tbOk rfl ?_))
    refine l_cons (o_ld tbOk (h1.cell 3 _ rfl) rfl rfl rfl rfl rfl ?_)
    refine l_cons (o_len tbOk hk rfl rfl rfl rfl rfl ?_)
    refine l_p 1 tbOk rfl (q1 (c_blk ?_))
    refine c_loop2 (X := Nat) (Y := St) (fun i li => [(0, .map (some b)), (4, .pointer (some ⟨b1, 0, none⟩)), (84, kv), (85, .int .i64 (t.kids.length : Int)), (86, .int .i64 (i : Nat))]) (fun i li w' => i ≤ t.kids.length ∧ runR ((t.kids.drop i).map rightF) (kidRow t.op) i li = rightF t row l ∧ OM (κ := Int) (fun x : Bool => Value.bool x) B M w' b li ∧ b1 ≠ b ∧ At M w' b1 0 [.int .u8 t.op, .string t.name, .int .i64 t.n, kv] ∧ Sl M w' kv t.kids ∧ Low M w' ∧ UpdB b w w' ∧ B ≤ w'.heap.size) (fun i li => t.kids.length - i) (0) (li0) (s5 rfl rfl rfl rfl rfl) ?_ ?_
    · exact ⟨Nat.zero_le _, by simpa using hrun, hs, hne, h1, hk, hlow, hU, hB⟩
    rintro i li w31 ⟨hi, hrun, hs, hne, h1, hk, hlow, hU, hB⟩
    refine q0 (l_p 1 tbOk rfl (q1 (c_seq ?_)))
    refine c_ifP _ rfl (fun c55 => ?_) (fun c55 => ?_)
    · refine c_skip (x_seq (c_seq (c_blk (q0 (l_p 1 tbOk rfl ?_)))))
      have hik : i < t.kids.length := by omega
      refine l_cons (o_ixS tbOk hk (List.getElem?_eq_getElem hik) rfl rfl rfl rfl rfl rfl rfl rfl rfl ?_)
      intro ebx eox eux hyx hatx
      obtain ⟨kvx, rfl, opx, nmx, n64x, hkx⟩ := ty_open hyx
      replace hatx : At M w31 ebx eox [.int .u8 t.kids[i].op, .string t.kids[i].name, .int .i64 t.kids[i].n, kvx] := hatx
      refine l_cons (o_lds tbOk (fun j v hv => hatx.cell j v hv) rfl rfl rfl rfl rfl rfl ?_)
      refine l_cons (o_new tbOk rfl rfl rfl ?_)
      intro b5 w32 qb5 ew32 hb5
      have nb5 := nM_of hlow qb5
      refine l_p 1 tbOk rfl ?_
      refine l_cons (o_st tbOk hb5 rfl rfl rfl rfl (Rep.one hyx) rfl rfl ?_)
      intro w33 h5 uw33 bew33
      have ew33 : Ext w31 w33 := ew32.trans (bew33 _ (Nat.le_of_eq qb5.symm))
      replace hU := hU.trans (UpdB.ext ew33 hs.lt)
      replace hs := hs.ext hlow hB ew33
      replace h1 := h1.ext ew33
      replace hk := hk.ext ew33
      replace hyx := Rep.ext hyx ew33
      replace hkx := hkx.ext ew33
      replace hatx := hatx.ext ew33
      replace hlow := hlow.ext ew33
      replace hB := Nat.le_trans hB ew33.size
      replace h5 : Box w33 b5 40 [.int .u8 t.kids[i].op, .string t.kids[i].name, .int .i64 t.kids[i].n, kvx] := h5
      replace h5 := h5.at nb5
      refine q1 (q0 (l_p 1 tbOk rfl ?_))
      refine l_cons (o_lds tbOk (fun j v hv => h5.cell j v hv) rfl rfl rfl rfl rfl rfl ?_)
      refine l_p 1 tbOk rfl ?_
      refine l_cons (o_ld tbOk (h1.cell 0 _ rfl) rfl rfl rfl rfl rfl ?_)
      refine l_p 2 tbOk rfl ?_
      refine l_splitP 96 _ rfl (fun c56 => ?_) (fun c56 => ?_)
      · refine l_p 13 tbOk rfl ?_
        have hflag : kidRow t.op i = true := by clear ih; simp_all [kidRow]
        refine l_cons (o_call fo91 rfl rfl rfl (ih _ (List.getElem_mem hik) true li M _ _ B b hyx hs hlow) ?_)
        rintro _ w34 ⟨rfl, hw34, uw34⟩
        have sw34 := uw34.stp hs.inM hlow hs.ge
        have frw34 := uw34.upd.2
        replace hU := hU.trans uw34
        replace h1 := h1.stp sw34
        replace hk := hk.stp sw34
        replace hyx := Rep.stp hyx sw34
        replace hkx := hkx.stp sw34
        replace hatx := hatx.stp sw34
        replace h5 := h5.stp sw34
        replace hlow := sw34.low
        replace hB := Nat.le_trans hB sw34.upd.1
        replace hs := hw34
        refine l_p 1 tbOk rfl (q1 ?_)
        refine c_ifB _ rfl (fun c57 => ?_) (fun c57 => ?_)
        · refine q0 (l_p 1 tbOk rfl (q1 (c_ret (x_blkR (x_seqR (x_seqR (x_blkR (x_seqR (x_ret1 rfl rfl ?_)))))))))
          rw [run_step hik, hflag] at hrun
          simp only [c57, cond_false] at hrun
          rw [← hrun]
          exact ⟨rfl, hs, hU⟩
        refine c_skip (x_blk (x_seq (c_reg ?_)))
        refine l_cons (o_ar rfl rfl rfl (IntWalk.i64_in _ (by omega)) rfl rfl ?_)
        refine l_p 1 tbOk rfl (l_nil ?_)
        exact x_round2 (i + 1) ((rightF t.kids[i] true li).2) (s5 rfl rfl rfl rfl rfl) ⟨by omega, by rw [run_step hik, hflag] at hrun; simpa [c57] using hrun, hs, hne, h1, hk, hlow, hU, hB⟩ (by omega)
      refine l_p 1 tbOk rfl ?_
      refine l_cons (o_ld tbOk (h1.cell 0 _ rfl) rfl rfl rfl rfl rfl ?_)
      refine l_p 3 tbOk rfl ?_
      refine l_splitP 101 _ rfl (fun c58 => ?_) (fun c58 => ?_)
      · refine l_p 8 tbOk rfl ?_
        have hflag : kidRow t.op i = true := by clear ih; simp_all [kidRow]
        refine l_cons (o_call fo91 rfl rfl rfl (ih _ (List.getElem_mem hik) true li M _ _ B b hyx hs hlow) ?_)
        rintro _ w35 ⟨rfl, hw35, uw35⟩
        have sw35 := uw35.stp hs.inM hlow hs.ge
        have frw35 := uw35.upd.2
        replace hU := hU.trans uw35
        replace h1 := h1.stp sw35
        replace hk := hk.stp sw35
        replace hyx := Rep.stp hyx sw35
        replace hkx := hkx.stp sw35
        replace hatx := hatx.stp sw35
        replace h5 := h5.stp sw35
        replace hlow := sw35.low
        replace hB := Nat.le_trans hB sw35.upd.1
        replace hs := hw35
        refine l_p 1 tbOk rfl (q1 ?_)
        refine c_ifB _ rfl (fun c59 => ?_) (fun c59 => ?_)
        · refine q0 (l_p 1 tbOk rfl (q1 (c_ret (x_blkR (x_seqR (x_seqR (x_blkR (x_seqR (x_ret1 rfl rfl ?_)))))))))
          rw [run_step hik, hflag] at hrun
          simp only [c59, cond_false] at hrun
          rw [← hrun]
          exact ⟨rfl, hs, hU⟩
        refine c_skip (x_blk (x_seq (c_reg ?_)))
        refine l_cons (o_ar rfl rfl rfl (IntWalk.i64_in _ (by omega)) rfl rfl ?_)
        refine l_p 1 tbOk rfl (l_nil ?_)
        exact x_round2 (i + 1) ((rightF t.kids[i] true li).2) (s5 rfl rfl rfl rfl rfl) ⟨by omega, by rw [run_step hik, hflag] at hrun; simpa [c59] using hrun, hs, hne, h1, hk, hlow, hU, hB⟩ (by omega)
      refine l_p 1 tbOk rfl ?_
      refine l_cons (o_ld tbOk (h1.cell 0 _ rfl) rfl rfl rfl rfl rfl ?_)
      refine l_p 2 tbOk rfl ?_
      refine l_splitP 105 _ rfl (fun c60 => ?_) (fun c60 => ?_)
      · refine l_p 4 tbOk rfl ?_
        have hflag : kidRow t.op i = decide ((i : Int) = 1) := by clear ih; simp_all [kidRow]
        refine l_cons (o_call fo91 rfl rfl rfl (ih _ (List.getElem_mem hik) (decide ((i : Int) = 1)) li M _ _ B b hyx hs hlow) ?_)
        rintro _ w36 ⟨rfl, hw36, uw36⟩
        have sw36 := uw36.stp hs.inM hlow hs.ge
        have frw36 := uw36.upd.2
        replace hU := hU.trans uw36
        replace h1 := h1.stp sw36
        replace hk := hk.stp sw36
        replace hyx := Rep.stp hyx sw36
        replace hkx := hkx.stp sw36
        replace hatx := hatx.stp sw36
        replace h5 := h5.stp sw36
        replace hlow := sw36.low
        replace hB := Nat.le_trans hB sw36.upd.1
        replace hs := hw36
        refine l_p 1 tbOk rfl (q1 ?_)
        refine c_ifB _ rfl (fun c61 => ?_) (fun c61 => ?_)
        · refine q0 (l_p 1 tbOk rfl (q1 (c_ret (x_blkR (x_seqR (x_seqR (x_blkR (x_seqR (x_ret1 rfl rfl ?_)))))))))
          rw [run_step hik, hflag] at hrun
          simp only [c61, cond_false] at hrun
          rw [← hrun]
          exact ⟨rfl, hs, hU⟩
        refine c_skip (x_blk (x_seq (c_reg ?_)))
        refine l_cons (o_ar rfl rfl rfl (IntWalk.i64_in _ (by omega)) rfl rfl ?_)
        refine l_p 1 tbOk rfl (l_nil ?_)
        exact x_round2 (i + 1) ((rightF t.kids[i] (decide ((i : Int) = 1)) li).2) (s5 rfl rfl rfl rfl rfl) ⟨by omega, by rw [run_step hik, hflag] at hrun; simpa [c61] using hrun, hs, hne, h1, hk, hlow, hU, hB⟩ (by omega)
      refine l_p 4 tbOk rfl ?_
      have hflag : kidRow t.op i = false := by clear ih; simp_all [kidRow]
      refine l_cons (o_call fo91 rfl rfl rfl (ih _ (List.getElem_mem hik) false li M _ _ B b hyx hs hlow) ?_)
      rintro _ w37 ⟨rfl, hw37, uw37⟩
      have sw37 := uw37.stp hs.inM hlow hs.ge
      have frw37 := uw37.upd.2
      replace hU := hU.trans uw37
      replace h1 := h1.stp sw37
      replace hk := hk.stp sw37
      replace hyx := Rep.stp hyx sw37
      replace hkx := hkx.stp sw37
      replace hatx := hatx.stp sw37
      replace h5 := h5.stp sw37
      replace hlow := sw37.low
      replace hB := Nat.le_trans hB sw37.upd.1
      replace hs := hw37
      refine l_p 1 tbOk rfl (q1 ?_)
      refine c_ifB _ rfl (fun c62 => ?_) (fun c62 => ?_)
      · refine q0 (l_p 1 tbOk rfl (q1 (c_ret (x_blkR (x_seqR (x_seqR (x_blkR (x_seqR (x_ret1 rfl rfl ?_)))))))))
        rw [run_step hik, hflag] at hrun
        simp only [c62, cond_false] at hrun
        rw [← hrun]
        exact ⟨rfl, hs, hU⟩
      refine c_skip (x_blk (x_seq (c_reg ?_)))
      refine l_cons (o_ar rfl rfl rfl (IntWalk.i64_in _ (by omega)) rfl rfl ?_)
      refine l_p 1 tbOk rfl (l_nil ?_)
      exact x_round2 (i + 1) ((rightF t.kids[i] false li).2) (s5 rfl rfl rfl rfl rfl) ⟨by omega, by rw [run_step hik, hflag] at hrun; simpa [c62] using hrun, hs, hne, h1, hk, hlow, hU, hB⟩ (by omega)
    refine c_exit (x_seqE (x_seqE (x_blkE (x_seq (q0 (l_p 1 tbOk rfl (q1 (c_ret (x_ret1 rfl rfl ?_)))))))))
    rw [run_end (by omega)] at hrun
    rw [← hrun]
    exact ⟨rfl, hs, hU⟩
  refine l_p 5 tbOk rfl (q1 (c_ifF rfl (c_skip (x_seq (c_seq (q0 (l_p 3 tbOk rfl ?_)))))))
  refine l_splitB 60 _ rfl (fun c63 => ?_) (fun c63 => ?_)
  · refine l_p 1 tbOk rfl ?_
    refine l_cons (o_ld tbOk (h1.cell 1 _ rfl) rfl rfl rfl rfl rfl ?_)
    refine l_p 3 tbOk rfl ?_
    refine l_splitN 65 _ rfl (fun c64 => ?_) (fun c64 => ?_)
    · refine l_p 8 tbOk rfl (q1 (c_ifT rfl (q0 (l_p 1 tbOk rfl (q1 (c_ret (x_seqR (x_ret1 rfl rfl ?_))))))))
      rw [right_pre_no (by clear ih; rw [preR, hko]; unfold headOk; simp_all [numB] <;> omega)]
      exact ⟨rfl, hs, hU⟩
    refine l_p 2 tbOk rfl ?_
    refine l_split 67 _ rfl (fun c65 => ?_) (fun c65 => ?_)
    · refine l_p 1 tbOk rfl ?_
      refine l_cons (o_ld tbOk (h1.cell 1 _ rfl) rfl rfl rfl rfl rfl ?_)
      refine l_cons (o_call fo57 rfl rfl rfl (isWord_spec _ t.name nm) ?_)
      rintro _ _ ⟨rfl, rfl⟩
      refine l_p 3 tbOk rfl (q1 ?_)
      refine c_ifB _ rfl (fun c66 => ?_) (fun c66 => ?_)
      · refine q0 (l_p 1 tbOk rfl (q1 (c_ret (x_seqR (x_ret1 rfl rfl ?_)))))
        rw [right_pre_no (by clear ih; rw [preR, hko]; unfold headOk; simp_all [numB] <;> omega)]
        exact ⟨rfl, hs, hU⟩
      refine c_skip (x_seq ?_)
      refine c_cut (X := St) (fun li0 => [(0, .map (some b)), (4, .pointer (some ⟨b1, 0, none⟩))]) (fun li0 w' => runR (t.kids.map rightF) (kidRow t.op) 0 li0 = rightF t row l ∧ OM (κ := Int) (fun x : Bool => Value.bool x) B M w' b li0 ∧ b1 ≠ b ∧ At M w' b1 0 [.int .u8 t.op, .string t.name, .int .i64 t.n, kv] ∧ Sl M w' kv t.kids ∧ Low M w' ∧ UpdB b w w' ∧ B ≤ w'.heap.size) ?_ ?_
      · refine q0 (l_p 2 tbOk rfl ?_)
        refine l_split 75 _ rfl (fun c67 => ?_) (fun c67 => ?_)
        · refine l_p 2 tbOk rfl ?_
          refine l_cons (o_ld tbOk (h1.cell 2 _ rfl) rfl rfl rfl rfl rfl ?_)
          refine l_p 1 tbOk rfl ?_
          have hpre : preR t.op row t.kids.length t.name t.n = true := by clear ih; rw [preR, hko]; unfold headOk; simp_all [numB] <;> omega
          refine l_cons (o_call fo113 rfl rfl rfl (meet_spec M _ B b l t.n row hs hlow) ?_)
          rintro _ w39 ⟨rfl, hw39, uw39⟩
          have sw39 := uw39.stp hs.inM hlow hs.ge
          have frw39 := uw39.upd.2
          replace hU := hU.trans uw39
          replace ht := Rep.stp ht sw39
          replace hk := hk.stp sw39
          replace h1 := h1.stp sw39
          replace hlow := sw39.low
          replace hB := Nat.le_trans hB sw39.upd.1
          replace hs := hw39
          refine l_p 2 tbOk rfl (q1 ?_)
          refine c_ifB _ rfl (fun c68 => ?_) (fun c68 => ?_)
          · refine q0 (l_p 1 tbOk rfl (q1 (c_ret (x_seqR (x_ret1 rfl rfl ?_)))))
            rw [right_meet_no hpre (by clear ih; simp_all) c68]
            exact ⟨rfl, hs, hU⟩
          refine c_skip ?_
          have hrun := (right_meet_yes (row := row) (s := l) hpre (by clear ih; simp_all) (by clear ih; simp_all)).symm
          exact x_cut ((meetS l t.n row).2) (s2 rfl rfl) ⟨hrun, hs, fun e => h1.nM (e ▸ hs.inM), h1, hk, hlow, hU, hB⟩
        refine l_p 7 tbOk rfl (q1 (c_ifF rfl (c_skip ?_)))
        have hpre : preR t.op row t.kids.length t.name t.n = true := by clear ih; rw [preR, hko]; unfold headOk; simp_all [numB] <;> omega
        have hrun := (right_plain (row := row) (s := l) hpre (by clear ih; simp_all)).symm
        exact x_cut (l) (s2 rfl rfl) ⟨hrun, hs, fun e => h1.nM (e ▸ hs.inM), h1, hk, hlow, hU, hB⟩
      rintro li0 w38 ⟨hrun, hs, hne, h1, hk, hlow, hU, hB⟩
      refine c_seq (q0 (l_p 1 tbOk rfl ?_))
      refine l_cons (o_ld tbOk (h1.cell 3 _ rfl) rfl rfl rfl rfl rfl ?_)
      refine l_cons (o_len tbOk hk rfl rfl rfl rfl rfl ?_)
      refine l_p 1 tbOk rfl (q1 (c_blk ?_))
      refine c_loop2 (X := Nat) (Y := St) (fun i li => [(0, .map (some b)), (4, .pointer (some ⟨b1, 0, none⟩)), (84, kv), (85, .int .i64 (t.kids.length : Int)), (86, .int .i64 (i : Nat))]) (fun i li w' => i ≤ t.kids.length ∧ runR ((t.kids.drop i).map rightF) (kidRow t.op) i li = rightF t row l ∧ OM (κ := Int) (fun x : Bool => Value.bool x) B M w' b li ∧ b1 ≠ b ∧ At M w' b1 0 [.int .u8 t.op, .string t.name, .int .i64 t.n, kv] ∧ Sl M w' kv t.kids ∧ Low M w' ∧ UpdB b w w' ∧ B ≤ w'.heap.size) (fun i li => t.kids.length - i) (0) (li0) (s5 rfl rfl rfl rfl rfl) ?_ ?_
      · exact ⟨Nat.zero_le _, by simpa using hrun, hs, hne, h1, hk, hlow, hU, hB⟩
      rintro i li w40 ⟨hi, hrun, hs, hne, h1, hk, hlow, hU, hB⟩
      refine q0 (l_p 1 tbOk rfl (q1 (c_seq ?_)))
      refine c_ifP _ rfl (fun c69 => ?_) (fun c69 => ?_)
      · refine c_skip (x_seq (c_seq (c_blk (q0 (l_p 1 tbOk rfl ?_)))))
        have hik : i < t.kids.length := by omega
        refine l_cons (o_ixS tbOk hk (List.getElem?_eq_getElem hik) rfl rfl rfl rfl rfl rfl rfl rfl rfl ?_)
        intro ebx eox eux hyx hatx
        obtain ⟨kvx, rfl, opx, nmx, n64x, hkx⟩ := ty_open hyx
        replace hatx : At M w40 ebx eox [.int .u8 t.kids[i].op, .string t.kids[i].name, .int .i64 t.kids[i].n, kvx] := hatx
        refine l_cons (o_lds tbOk (fun j v hv => hatx.cell j v hv) rfl rfl rfl rfl rfl rfl ?_)
        refine l_cons (o_new tbOk rfl rfl rfl ?_)
        intro b5 w41 qb5 ew41 hb5
        have nb5 := nM_of hlow qb5
        refine l_p 1 tbOk rfl ?_
        refine l_cons (o_st tbOk hb5 rfl rfl rfl rfl (Rep.one hyx) rfl rfl ?_)
        intro w42 h5 uw42 bew42
        have ew42 : Ext w40 w42 := ew41.trans (bew42 _ (Nat.le_of_eq qb5.symm))
        replace hU := hU.trans (UpdB.ext ew42 hs.lt)
        replace hs := hs.ext hlow hB ew42
        replace h1 := h1.ext ew42
        replace hk := hk.ext ew42
        replace hyx := Rep.ext hyx ew42
        replace hkx := hkx.ext ew42
        replace hatx := hatx.ext ew42
        replace hlow := hlow.ext ew42
        replace hB := Nat.le_trans hB ew42.size
        replace h5 : Box w42 b5 40 [.int .u8 t.kids[i].op, .string t.kids[i].name, .int .i64 t.kids[i].n, kvx] := h5
        replace h5 := h5.at nb5
        refine q1 (q0 (l_p 1 tbOk rfl ?_))
        refine l_cons (o_lds tbOk (fun j v hv => h5.cell j v hv) rfl rfl rfl rfl rfl rfl ?_)
        refine l_p 1 tbOk rfl ?_
        refine l_cons (o_ld tbOk (h1.cell 0 _ rfl) rfl rfl rfl rfl rfl ?_)
        refine l_p 2 tbOk rfl ?_
        refine l_splitP 96 _ rfl (fun c70 => ?_) (fun c70 => ?_)
        · refine l_p 13 tbOk rfl ?_
          have hflag : kidRow t.op i = true := by clear ih; simp_all [kidRow]
          refine l_cons (o_call fo91 rfl rfl rfl (ih _ (List.getElem_mem hik) true li M _ _ B b hyx hs hlow) ?_)
          rintro _ w43 ⟨rfl, hw43, uw43⟩
          have sw43 := uw43.stp hs.inM hlow hs.ge
          have frw43 := uw43.upd.2
          replace hU := hU.trans uw43
          replace h1 := h1.stp sw43
          replace hk := hk.stp sw43
          replace hyx := Rep.stp hyx sw43
          replace hkx := hkx.stp sw43
          replace hatx := hatx.stp sw43
          replace h5 := h5.stp sw43
          replace hlow := sw43.low
          replace hB := Nat.le_trans hB sw43.upd.1
          replace hs := hw43
          refine l_p 1 tbOk rfl (q1 ?_)
          refine c_ifB _ rfl (fun c71 => ?_) (fun c71 => ?_)
          · refine q0 (l_p 1 tbOk rfl (q1 (c_ret (x_blkR (x_seqR (x_seqR (x_blkR (x_seqR (x_ret1 rfl rfl ?_)))))))))
            rw [run_step hik, hflag] at hrun
            simp only [c71, cond_false] at hrun
            rw [← hrun]
            exact ⟨rfl, hs, hU⟩
          refine c_skip (x_blk (x_seq (c_reg ?_)))
          refine l_cons (o_ar rfl rfl rfl (IntWalk.i64_in _ (by omega)) rfl rfl ?_)
          refine l_p 1 tbOk rfl (l_nil ?_)
          exact x_round2 (i + 1) ((rightF t.kids[i] true li).2) (s5 rfl rfl rfl rfl rfl) ⟨by omega, by rw [run_step hik, hflag] at hrun; simpa [c71] using hrun, hs, hne, h1, hk, hlow, hU, hB⟩ (by omega)
        refine l_p 1 tbOk rfl ?_
        refine l_cons (o_ld tbOk (h1.cell 0 _ rfl) rfl rfl rfl rfl rfl ?_)
        refine l_p 3 tbOk rfl ?_
        refine l_splitP 101 _ rfl (fun c72 => ?_) (fun c72 => ?_)
        · refine l_p 8 tbOk rfl ?_
          have hflag : kidRow t.op i = true := by clear ih; simp_all [kidRow]
          refine l_cons (o_call fo91 rfl rfl rfl (ih _ (List.getElem_mem hik) true li M _ _ B b hyx hs hlow) ?_)
          rintro _ w44 ⟨rfl, hw44, uw44⟩
          have sw44 := uw44.stp hs.inM hlow hs.ge
          have frw44 := uw44.upd.2
          replace hU := hU.trans uw44
          replace h1 := h1.stp sw44
          replace hk := hk.stp sw44
          replace hyx := Rep.stp hyx sw44
          replace hkx := hkx.stp sw44
          replace hatx := hatx.stp sw44
          replace h5 := h5.stp sw44
          replace hlow := sw44.low
          replace hB := Nat.le_trans hB sw44.upd.1
          replace hs := hw44
          refine l_p 1 tbOk rfl (q1 ?_)
          refine c_ifB _ rfl (fun c73 => ?_) (fun c73 => ?_)
          · refine q0 (l_p 1 tbOk rfl (q1 (c_ret (x_blkR (x_seqR (x_seqR (x_blkR (x_seqR (x_ret1 rfl rfl ?_)))))))))
            rw [run_step hik, hflag] at hrun
            simp only [c73, cond_false] at hrun
            rw [← hrun]
            exact ⟨rfl, hs, hU⟩
          refine c_skip (x_blk (x_seq (c_reg ?_)))
          refine l_cons (o_ar rfl rfl rfl (IntWalk.i64_in _ (by omega)) rfl rfl ?_)
          refine l_p 1 tbOk rfl (l_nil ?_)
          exact x_round2 (i + 1) ((rightF t.kids[i] true li).2) (s5 rfl rfl rfl rfl rfl) ⟨by omega, by rw [run_step hik, hflag] at hrun; simpa [c73] using hrun, hs, hne, h1, hk, hlow, hU, hB⟩ (by omega)
        refine l_p 1 tbOk rfl ?_
        refine l_cons (o_ld tbOk (h1.cell 0 _ rfl) rfl rfl rfl rfl rfl ?_)
        refine l_p 2 tbOk rfl ?_
        refine l_splitP 105 _ rfl (fun c74 => ?_) (fun c74 => ?_)
        · refine l_p 4 tbOk rfl ?_
          have hflag : kidRow t.op i = decide ((i : Int) = 1) := by clear ih; simp_all [kidRow]
          refine l_cons (o_call fo91 rfl rfl rfl (ih _ (List.getElem_mem hik) (decide ((i : Int) = 1)) li M _ _ B b hyx hs hlow) ?_)
          rintro _ w45 ⟨rfl, hw45, uw45⟩
          have sw45 := uw45.stp hs.inM hlow hs.ge
          have frw45 := uw45.upd.2
          replace hU := hU.trans uw45
          replace h1 := h1.stp sw45
          replace hk := hk.stp sw45
          replace hyx := Rep.stp hyx sw45
          replace hkx := hkx.stp sw45
          replace hatx := hatx.stp sw45
          replace h5 := h5.stp sw45
          replace hlow := sw45.low
          replace hB := Nat.le_trans hB sw45.upd.1
          replace hs := hw45
          refine l_p 1 tbOk rfl (q1 ?_)
          refine c_ifB _ rfl (fun c75 => ?_) (fun c75 => ?_)
          · refine q0 (l_p 1 tbOk rfl (q1 (c_ret (x_blkR (x_seqR (x_seqR (x_blkR (x_seqR (x_ret1 rfl rfl ?_)))))))))
            rw [run_step hik, hflag] at hrun
            simp only [c75, cond_false] at hrun
            rw [← hrun]
            exact ⟨rfl, hs, hU⟩
          refine c_skip (x_blk (x_seq (c_reg ?_)))
          refine l_cons (o_ar rfl rfl rfl (IntWalk.i64_in _ (by omega)) rfl rfl ?_)
          refine l_p 1 tbOk rfl (l_nil ?_)
          exact x_round2 (i + 1) ((rightF t.kids[i] (decide ((i : Int) = 1)) li).2) (s5 rfl rfl rfl rfl rfl) ⟨by omega, by rw [run_step hik, hflag] at hrun; simpa [c75] using hrun, hs, hne, h1, hk, hlow, hU, hB⟩ (by omega)
        refine l_p 4 tbOk rfl ?_
        have hflag : kidRow t.op i = false := by clear ih; simp_all [kidRow]
        refine l_cons (o_call fo91 rfl rfl rfl (ih _ (List.getElem_mem hik) false li M _ _ B b hyx hs hlow) ?_)
        rintro _ w46 ⟨rfl, hw46, uw46⟩
        have sw46 := uw46.stp hs.inM hlow hs.ge
        have frw46 := uw46.upd.2
        replace hU := hU.trans uw46
        replace h1 := h1.stp sw46
        replace hk := hk.stp sw46
        replace hyx := Rep.stp hyx sw46
        replace hkx := hkx.stp sw46
        replace hatx := hatx.stp sw46
        replace h5 := h5.stp sw46
        replace hlow := sw46.low
        replace hB := Nat.le_trans hB sw46.upd.1
        replace hs := hw46
        refine l_p 1 tbOk rfl (q1 ?_)
        refine c_ifB _ rfl (fun c76 => ?_) (fun c76 => ?_)
        · refine q0 (l_p 1 tbOk rfl (q1 (c_ret (x_blkR (x_seqR (x_seqR (x_blkR (x_seqR (x_ret1 rfl rfl ?_)))))))))
          rw [run_step hik, hflag] at hrun
          simp only [c76, cond_false] at hrun
          rw [← hrun]
          exact ⟨rfl, hs, hU⟩
        refine c_skip (x_blk (x_seq (c_reg ?_)))
        refine l_cons (o_ar rfl rfl rfl (IntWalk.i64_in _ (by omega)) rfl rfl ?_)
        refine l_p 1 tbOk rfl (l_nil ?_)
        exact x_round2 (i + 1) ((rightF t.kids[i] false li).2) (s5 rfl rfl rfl rfl rfl) ⟨by omega, by rw [run_step hik, hflag] at hrun; simpa [c76] using hrun, hs, hne, h1, hk, hlow, hU, hB⟩ (by omega)
      refine c_exit (x_seqE (x_seqE (x_blkE (x_seq (q0 (l_p 1 tbOk rfl (q1 (c_ret (x_ret1 rfl rfl ?_)))))))))
      rw [run_end (by omega)] at hrun
      rw [← hrun]
      exact ⟨rfl, hs, hU⟩
    refine l_p 6 tbOk rfl (q1 (c_ifF rfl (c_skip (x_seq ?_))))
    refine c_cut (X := St) (fun li0 => [(0, .map (some b)), (4, .pointer (some ⟨b1, 0, none⟩))]) (fun li0 w' => runR (t.kids.map rightF) (kidRow t.op) 0 li0 = rightF t row l ∧ OM (κ := Int) (fun x : Bool => Value.bool x) B M w' b li0 ∧ b1 ≠ b ∧ At M w' b1 0 [.int .u8 t.op, .string t.name, .int .i64 t.n, kv] ∧ Sl M w' kv t.kids ∧ Low M w' ∧ UpdB b w w' ∧ B ≤ w'.heap.size) ?_ ?_
    · refine q0 (l_p 2 tbOk rfl ?_)
      refine l_split 75 _ rfl (fun c77 => ?_) (fun c77 => ?_)
      · refine l_p 2 tbOk rfl ?_
        refine l_cons (o_ld tbOk (h1.cell 2 _ rfl) rfl rfl rfl rfl rfl ?_)
        refine l_p 1 tbOk rfl ?_
        have hpre : preR t.op row t.kids.length t.name t.n = true := by clear ih; rw [preR, hko]; unfold headOk; simp_all [numB] <;> omega
        refine l_cons (o_call fo113 rfl rfl rfl (meet_spec M _ B b l t.n row hs hlow) ?_)
        rintro _ w48 ⟨rfl, hw48, uw48⟩
        have sw48 := uw48.stp hs.inM hlow hs.ge
        have frw48 := uw48.upd.2
        replace hU := hU.trans uw48
        replace ht := Rep.stp ht sw48
        replace hk := hk.stp sw48
        replace h1 := h1.stp sw48
        replace hlow := sw48.low
        replace hB := Nat.le_trans hB sw48.upd.1
        replace hs := hw48
        refine l_p 2 tbOk rfl (q1 ?_)
        refine c_ifB _ rfl (fun c78 => ?_) (fun c78 => ?_)
        · refine q0 (l_p 1 tbOk rfl (q1 (c_ret (x_seqR (x_ret1 rfl rfl ?_)))))
          rw [right_meet_no hpre (by clear ih; simp_all) c78]
          exact ⟨rfl, hs, hU⟩
        refine c_skip ?_
        have hrun := (right_meet_yes (row := row) (s := l) hpre (by clear ih; simp_all) (by clear ih; simp_all)).symm
        exact x_cut ((meetS l t.n row).2) (s2 rfl rfl) ⟨hrun, hs, fun e => h1.nM (e ▸ hs.inM), h1, hk, hlow, hU, hB⟩
      refine l_p 7 tbOk rfl (q1 (c_ifF rfl (c_skip ?_)))
      have hpre : preR t.op row t.kids.length t.name t.n = true := by clear ih; rw [preR, hko]; unfold headOk; simp_all [numB] <;> omega
      have hrun := (right_plain (row := row) (s := l) hpre (by clear ih; simp_all)).symm
      exact x_cut (l) (s2 rfl rfl) ⟨hrun, hs, fun e => h1.nM (e ▸ hs.inM), h1, hk, hlow, hU, hB⟩
    rintro li0 w47 ⟨hrun, hs, hne, h1, hk, hlow, hU, hB⟩
    refine c_seq (q0 (l_p 1 tbOk rfl ?_))
    refine l_cons (o_ld tbOk (h1.cell 3 _ rfl) rfl rfl rfl rfl rfl ?_)
    refine l_cons (o_len tbOk hk rfl rfl rfl rfl rfl ?_)
    refine l_p 1 tbOk rfl (q1 (c_blk ?_))
    refine c_loop2 (X := Nat) (Y := St) (fun i li => [(0, .map (some b)), (4, .pointer (some ⟨b1, 0, none⟩)), (84, kv), (85, .int .i64 (t.kids.length : Int)), (86, .int .i64 (i : Nat))]) (fun i li w' => i ≤ t.kids.length ∧ runR ((t.kids.drop i).map rightF) (kidRow t.op) i li = rightF t row l ∧ OM (κ := Int) (fun x : Bool => Value.bool x) B M w' b li ∧ b1 ≠ b ∧ At M w' b1 0 [.int .u8 t.op, .string t.name, .int .i64 t.n, kv] ∧ Sl M w' kv t.kids ∧ Low M w' ∧ UpdB b w w' ∧ B ≤ w'.heap.size) (fun i li => t.kids.length - i) (0) (li0) (s5 rfl rfl rfl rfl rfl) ?_ ?_
    · exact ⟨Nat.zero_le _, by simpa using hrun, hs, hne, h1, hk, hlow, hU, hB⟩
    rintro i li w49 ⟨hi, hrun, hs, hne, h1, hk, hlow, hU, hB⟩
    refine q0 (l_p 1 tbOk rfl (q1 (c_seq ?_)))
    refine c_ifP _ rfl (fun c79 => ?_) (fun c79 => ?_)
    · refine c_skip (x_seq (c_seq (c_blk (q0 (l_p 1 tbOk rfl ?_)))))
      have hik : i < t.kids.length := by omega
      refine l_cons (o_ixS tbOk hk (List.getElem?_eq_getElem hik) rfl rfl rfl rfl rfl rfl rfl rfl rfl ?_)
      intro ebx eox eux hyx hatx
      obtain ⟨kvx, rfl, opx, nmx, n64x, hkx⟩ := ty_open hyx
      replace hatx : At M w49 ebx eox [.int .u8 t.kids[i].op, .string t.kids[i].name, .int .i64 t.kids[i].n, kvx] := hatx
      refine l_cons (o_lds tbOk (fun j v hv => hatx.cell j v hv) rfl rfl rfl rfl rfl rfl ?_)
      refine l_cons (o_new tbOk rfl rfl rfl ?_)
      intro b5 w50 qb5 ew50 hb5
      have nb5 := nM_of hlow qb5
      refine l_p 1 tbOk rfl ?_
      refine l_cons (o_st tbOk hb5 rfl rfl rfl rfl (Rep.one hyx) rfl rfl ?_)
      intro w51 h5 uw51 bew51
      have ew51 : Ext w49 w51 := ew50.trans (bew51 _ (Nat.le_of_eq qb5.symm))
      replace hU := hU.trans (UpdB.ext ew51 hs.lt)
      replace hs := hs.ext hlow hB ew51
      replace h1 := h1.ext ew51
      replace hk := hk.ext ew51
      replace hyx := Rep.ext hyx ew51
      replace hkx := hkx.ext ew51
      replace hatx := hatx.ext ew51
      replace hlow := hlow.ext ew51
      replace hB := Nat.le_trans hB ew51.size
      replace h5 : Box w51 b5 40 [.int .u8 t.kids[i].op, .string t.kids[i].name, .int .i64 t.kids[i].n, kvx] := h5
      replace h5 := h5.at nb5
      refine q1 (q0 (l_p 1 tbOk rfl ?_))
      refine l_cons (o_lds tbOk (fun j v hv => h5.cell j v hv) rfl rfl rfl rfl rfl rfl ?_)
      refine l_p 1 tbOk rfl ?_
      refine l_cons (o_ld tbOk (h1.cell 0 _ rfl) rfl rfl rfl rfl rfl ?_)
      refine l_p 2 tbOk rfl ?_
      refine l_splitP 96 _ rfl (fun c80 => ?_) (fun c80 => ?_)
      · refine l_p 13 tbOk rfl ?_
        have hflag : kidRow t.op i = true := by clear ih; simp_all [kidRow]
        refine l_cons (o_call fo91 rfl rfl rfl (ih _ (List.getElem_mem hik) true li M _ _ B b hyx hs hlow) ?_)
        rintro _ w52 ⟨rfl, hw52, uw52⟩
        have sw52 := uw52.stp hs.inM hlow hs.ge
        have frw52 := uw52.upd.2
        replace hU := hU.trans uw52
        replace h1 := h1.stp sw52
        replace hk := hk.stp sw52
        replace hyx := Rep.stp hyx sw52
        replace hkx := hkx.stp sw52
        replace hatx := hatx.stp sw52
        replace h5 := h5.stp sw52
        replace hlow := sw52.low
        replace hB := Nat.le_trans hB sw52.upd.1
        replace hs := hw52
        refine l_p 1 tbOk rfl (q1 ?_)
        refine c_ifB _ rfl (fun c81 => ?_) (fun c81 => ?_)
        · refine q0 (l_p 1 tbOk rfl (q1 (c_ret (x_blkR (x_seqR (x_seqR (x_blkR (x_seqR (x_ret1 rfl rfl ?_)))))))))
          rw [run_step hik, hflag] at hrun
          simp only [c81, cond_false] at hrun
          rw [← hrun]
          exact ⟨rfl, hs, hU⟩
        refine c_skip (x_blk (x_seq (c_reg ?_)))
        refine l_cons (o_ar rfl rfl rfl (IntWalk.i64_in _ (by omega)) rfl rfl ?_)
        refine l_p 1 tbOk rfl (l_nil ?_)
        exact x_round2 (i + 1) ((rightF t.kids[i] true li).2) (s5 rfl rfl rfl rfl rfl) ⟨by omega, by rw [run_step hik, hflag] at hrun; simpa [c81] using hrun, hs, hne, h1, hk, hlow, hU, hB⟩ (by omega)
      refine l_p 1 tbOk rfl ?_
      refine l_cons (o_ld tbOk (h1.cell 0 _ rfl) rfl rfl rfl rfl rfl ?_)
      refine l_p 3 tbOk rfl ?_
      refine l_splitP 101 _ rfl (fun c82 => ?_) (fun c82 => ?_)
      · refine l_p 8 tbOk rfl ?_
        have hflag : kidRow t.op i = true := by clear ih; simp_all [kidRow]
        refine l_cons (o_call fo91 rfl rfl rfl (ih _ (List.getElem_mem hik) true li M _ _ B b hyx hs hlow) ?_)
        rintro _ w53 ⟨rfl, hw53, uw53⟩
        have sw53 := uw53.stp hs.inM hlow hs.ge
        have frw53 := uw53.upd.2
        replace hU := hU.trans uw53
        replace h1 := h1.stp sw53
        replace hk := hk.stp sw53
        replace hyx := Rep.stp hyx sw53
        replace hkx := hkx.stp sw53
        replace hatx := hatx.stp sw53
        replace h5 := h5.stp sw53
        replace hlow := sw53.low
        replace hB := Nat.le_trans hB sw53.upd.1
        replace hs := hw53
        refine l_p 1 tbOk rfl (q1 ?_)
        refine c_ifB _ rfl (fun c83 => ?_) (fun c83 => ?_)
        · refine q0 (l_p 1 tbOk rfl (q1 (c_ret (x_blkR (x_seqR (x_seqR (x_blkR (x_seqR (x_ret1 rfl rfl ?_)))))))))
          rw [run_step hik, hflag] at hrun
          simp only [c83, cond_false] at hrun
          rw [← hrun]
          exact ⟨rfl, hs, hU⟩
        refine c_skip (x_blk (x_seq (c_reg ?_)))
        refine l_cons (o_ar rfl rfl rfl (IntWalk.i64_in _ (by omega)) rfl rfl ?_)
        refine l_p 1 tbOk rfl (l_nil ?_)
        exact x_round2 (i + 1) ((rightF t.kids[i] true li).2) (s5 rfl rfl rfl rfl rfl) ⟨by omega, by rw [run_step hik, hflag] at hrun; simpa [c83] using hrun, hs, hne, h1, hk, hlow, hU, hB⟩ (by omega)
      refine l_p 1 tbOk rfl ?_
      refine l_cons (o_ld tbOk (h1.cell 0 _ rfl) rfl rfl rfl rfl rfl ?_)
      refine l_p 2 tbOk rfl ?_
      refine l_splitP 105 _ rfl (fun c84 => ?_) (fun c84 => ?_)
      · refine l_p 4 tbOk rfl ?_
        have hflag : kidRow t.op i = decide ((i : Int) = 1) := by clear ih; simp_all [kidRow]
        refine l_cons (o_call fo91 rfl rfl rfl (ih _ (List.getElem_mem hik) (decide ((i : Int) = 1)) li M _ _ B b hyx hs hlow) ?_)
        rintro _ w54 ⟨rfl, hw54, uw54⟩
        have sw54 := uw54.stp hs.inM hlow hs.ge
        have frw54 := uw54.upd.2
        replace hU := hU.trans uw54
        replace h1 := h1.stp sw54
        replace hk := hk.stp sw54
        replace hyx := Rep.stp hyx sw54
        replace hkx := hkx.stp sw54
        replace hatx := hatx.stp sw54
        replace h5 := h5.stp sw54
        replace hlow := sw54.low
        replace hB := Nat.le_trans hB sw54.upd.1
        replace hs := hw54
        refine l_p 1 tbOk rfl (q1 ?_)
        refine c_ifB _ rfl (fun c85 => ?_) (fun c85 => ?_)
        · refine q0 (l_p 1 tbOk rfl (q1 (c_ret (x_blkR (x_seqR (x_seqR (x_blkR (x_seqR (x_ret1 rfl rfl ?_)))))))))
          rw [run_step hik, hflag] at hrun
          simp only [c85, cond_false] at hrun
          rw [← hrun]
          exact ⟨rfl, hs, hU⟩
        refine c_skip (x_blk (x_seq (c_reg ?_)))
        refine l_cons (o_ar rfl rfl rfl (IntWalk.i64_in _ (by omega)) rfl rfl ?_)
        refine l_p 1 tbOk rfl (l_nil ?_)
        exact x_round2 (i + 1) ((rightF t.kids[i] (decide ((i : Int) = 1)) li).2) (s5 rfl rfl rfl rfl rfl) ⟨by omega, by rw [run_step hik, hflag] at hrun; simpa [c85] using hrun, hs, hne, h1, hk, hlow, hU, hB⟩ (by omega)
      refine l_p 4 tbOk rfl ?_
      have hflag : kidRow t.op i = false := by clear ih; simp_all [kidRow]
      refine l_cons (o_call fo91 rfl rfl rfl (ih _ (List.getElem_mem hik) false li M _ _ B b hyx hs hlow) ?_)
      rintro _ w55 ⟨rfl, hw55, uw55⟩
      have sw55 := uw55.stp hs.inM hlow hs.ge
      have frw55 := uw55.upd.2
      replace hU := hU.trans uw55
      replace h1 := h1.stp sw55
      replace hk := hk.stp sw55
      replace hyx := Rep.stp hyx sw55
      replace hkx := hkx.stp sw55
      replace hatx := hatx.stp sw55
      replace h5 := h5.stp sw55
      replace hlow := sw55.low
      replace hB := Nat.le_trans hB sw55.upd.1
      replace hs := hw55
      refine l_p 1 tbOk rfl (q1 ?_)
      refine c_ifB _ rfl (fun c86 => ?_) (fun c86 => ?_)
      · refine q0 (l_p 1 tbOk rfl (q1 (c_ret (x_blkR (x_seqR (x_seqR (x_blkR (x_seqR (x_ret1 rfl rfl ?_)))))))))
        rw [run_step hik, hflag] at hrun
        simp only [c86, cond_false] at hrun
        rw [← hrun]
        exact ⟨rfl, hs, hU⟩
      refine c_skip (x_blk (x_seq (c_reg ?_)))
      refine l_cons (o_ar rfl rfl rfl (IntWalk.i64_in _ (by omega)) rfl rfl ?_)
      refine l_p 1 tbOk rfl (l_nil ?_)
      exact x_round2 (i + 1) ((rightF t.kids[i] false li).2) (s5 rfl rfl rfl rfl rfl) ⟨by omega, by rw [run_step hik, hflag] at hrun; simpa [c86] using hrun, hs, hne, h1, hk, hlow, hU, hB⟩ (by omega)
    refine c_exit (x_seqE (x_seqE (x_blkE (x_seq (q0 (l_p 1 tbOk rfl (q1 (c_ret (x_ret1 rfl rfl ?_)))))))))
    rw [run_end (by omega)] at hrun
    rw [← hrun]
    exact ⟨rfl, hs, hU⟩
  refine l_p 7 tbOk rfl ?_
  refine l_split 67 _ rfl (fun c87 => ?_) (fun c87 => ?_)
  · refine l_p 1 tbOk rfl ?_
    refine l_cons (o_ld tbOk (h1.cell 1 _ rfl) rfl rfl rfl rfl rfl ?_)
    refine l_cons (o_call fo57 rfl rfl rfl (isWord_spec _ t.name nm) ?_)
    rintro _ _ ⟨rfl, rfl⟩
    refine l_p 3 tbOk rfl (q1 ?_)
    refine c_ifB _ rfl (fun c88 => ?_) (fun c88 => ?_)
    · refine q0 (l_p 1 tbOk rfl (q1 (c_ret (x_seqR (x_ret1 rfl rfl ?_)))))
      rw [right_pre_no (by clear ih; rw [preR, hko]; unfold headOk; simp_all [numB] <;> omega)]
      exact ⟨rfl, hs, hU⟩
    refine c_skip (x_seq ?_)
    refine c_cut (X := St) (fun li0 => [(0, .map (some b)), (4, .pointer (some ⟨b1, 0, none⟩))]) (fun li0 w' => runR (t.kids.map rightF) (kidRow t.op) 0 li0 = rightF t row l ∧ OM (κ := Int) (fun x : Bool => Value.bool x) B M w' b li0 ∧ b1 ≠ b ∧ At M w' b1 0 [.int .u8 t.op, .string t.name, .int .i64 t.n, kv] ∧ Sl M w' kv t.kids ∧ Low M w' ∧ UpdB b w w' ∧ B ≤ w'.heap.size) ?_ ?_
    · refine q0 (l_p 2 tbOk rfl ?_)
      refine l_split 75 _ rfl (fun c89 => ?_) (fun c89 => ?_)
      · refine l_p 2 tbOk rfl ?_
        refine l_cons (o_ld tbOk (h1.cell 2 _ rfl) rfl rfl rfl rfl rfl ?_)
        refine l_p 1 tbOk rfl ?_
        have hpre : preR t.op row t.kids.length t.name t.n = true := by clear ih; rw [preR, hko]; unfold headOk; simp_all [numB] <;> omega
        refine l_cons (o_call fo113 rfl rfl rfl (meet_spec M _ B b l t.n row hs hlow) ?_)
        rintro _ w57 ⟨rfl, hw57, uw57⟩
        have sw57 := uw57.stp hs.inM hlow hs.ge
        have frw57 := uw57.upd.2
        replace hU := hU.trans uw57
        replace ht := Rep.stp ht sw57
        replace hk := hk.stp sw57
        replace h1 := h1.stp sw57
        replace hlow := sw57.low
        replace hB := Nat.le_trans hB sw57.upd.1
        replace hs := hw57
        refine l_p 2 tbOk rfl (q1 ?_)
        refine c_ifB _ rfl (fun c90 => ?_) (fun c90 => ?_)
        · refine q0 (l_p 1 tbOk rfl (q1 (c_ret (x_seqR (x_ret1 rfl rfl ?_)))))
          rw [right_meet_no hpre (by clear ih; simp_all) c90]
          exact ⟨rfl, hs, hU⟩
        refine c_skip ?_
        have hrun := (right_meet_yes (row := row) (s := l) hpre (by clear ih; simp_all) (by clear ih; simp_all)).symm
        exact x_cut ((meetS l t.n row).2) (s2 rfl rfl) ⟨hrun, hs, fun e => h1.nM (e ▸ hs.inM), h1, hk, hlow, hU, hB⟩
      refine l_p 7 tbOk rfl (q1 (c_ifF rfl (c_skip ?_)))
      have hpre : preR t.op row t.kids.length t.name t.n = true := by clear ih; rw [preR, hko]; unfold headOk; simp_all [numB] <;> omega
      have hrun := (right_plain (row := row) (s := l) hpre (by clear ih; simp_all)).symm
      exact x_cut (l) (s2 rfl rfl) ⟨hrun, hs, fun e => h1.nM (e ▸ hs.inM), h1, hk, hlow, hU, hB⟩
    rintro li0 w56 ⟨hrun, hs, hne, h1, hk, hlow, hU, hB⟩
    refine c_seq (q0 (l_p 1 tbOk rfl ?_))
    refine l_cons (o_ld tbOk (h1.cell 3 _ rfl) rfl rfl rfl rfl rfl ?_)
    refine l_cons (o_len tbOk hk rfl rfl rfl rfl rfl ?_)
    refine l_p 1 tbOk rfl (q1 (c_blk ?_))
    refine c_loop2 (X := Nat) (Y := St) (fun i li => [(0, .map (some b)), (4, .pointer (some ⟨b1, 0, none⟩)), (84, kv), (85, .int .i64 (t.kids.length : Int)), (86, .int .i64 (i : Nat))]) (fun i li w' => i ≤ t.kids.length ∧ runR ((t.kids.drop i).map rightF) (kidRow t.op) i li = rightF t row l ∧ OM (κ := Int) (fun x : Bool => Value.bool x) B M w' b li ∧ b1 ≠ b ∧ At M w' b1 0 [.int .u8 t.op, .string t.name, .int .i64 t.n, kv] ∧ Sl M w' kv t.kids ∧ Low M w' ∧ UpdB b w w' ∧ B ≤ w'.heap.size) (fun i li => t.kids.length - i) (0) (li0) (s5 rfl rfl rfl rfl rfl) ?_ ?_
    · exact ⟨Nat.zero_le _, by simpa using hrun, hs, hne, h1, hk, hlow, hU, hB⟩
    rintro i li w58 ⟨hi, hrun, hs, hne, h1, hk, hlow, hU, hB⟩
    refine q0 (l_p 1 tbOk rfl (q1 (c_seq ?_)))
    refine c_ifP _ rfl (fun c91 => ?_) (fun c91 => ?_)
    · refine c_skip (x_seq (c_seq (c_blk (q0 (l_p 1 tbOk rfl ?_)))))
      have hik : i < t.kids.length := by omega
      refine l_cons (o_ixS tbOk hk (List.getElem?_eq_getElem hik) rfl rfl rfl rfl rfl rfl rfl rfl rfl ?_)
      intro ebx eox eux hyx hatx
      obtain ⟨kvx, rfl, opx, nmx, n64x, hkx⟩ := ty_open hyx
      replace hatx : At M w58 ebx eox [.int .u8 t.kids[i].op, .string t.kids[i].name, .int .i64 t.kids[i].n, kvx] := hatx
      refine l_cons (o_lds tbOk (fun j v hv => hatx.cell j v hv) rfl rfl rfl rfl rfl rfl ?_)
      refine l_cons (o_new tbOk rfl rfl rfl ?_)
      intro b5 w59 qb5 ew59 hb5
      have nb5 := nM_of hlow qb5
      refine l_p 1 tbOk rfl ?_
      refine l_cons (o_st tbOk hb5 rfl rfl rfl rfl (Rep.one hyx) rfl rfl ?_)
      intro w60 h5 uw60 bew60
      have ew60 : Ext w58 w60 := ew59.trans (bew60 _ (Nat.le_of_eq qb5.symm))
      replace hU := hU.trans (UpdB.ext ew60 hs.lt)
      replace hs := hs.ext hlow hB ew60
      replace h1 := h1.ext ew60
      replace hk := hk.ext ew60
      replace hyx := Rep.ext hyx ew60
      replace hkx := hkx.ext ew60
      replace hatx := hatx.ext ew60
      replace hlow := hlow.ext ew60
      replace hB := Nat.le_trans hB ew60.size
      replace h5 : Box w60 b5 40 [.int .u8 t.kids[i].op, .string t.kids[i].name, .int .i64 t.kids[i].n, kvx] := h5
      replace h5 := h5.at nb5
      refine q1 (q0 (l_p 1 tbOk rfl ?_))
      refine l_cons (o_lds tbOk (fun j v hv => h5.cell j v hv) rfl rfl rfl rfl rfl rfl ?_)
      refine l_p 1 tbOk rfl ?_
      refine l_cons (o_ld tbOk (h1.cell 0 _ rfl) rfl rfl rfl rfl rfl ?_)
      refine l_p 2 tbOk rfl ?_
      refine l_splitP 96 _ rfl (fun c92 => ?_) (fun c92 => ?_)
      · refine l_p 13 tbOk rfl ?_
        have hflag : kidRow t.op i = true := by clear ih; simp_all [kidRow]
        refine l_cons (o_call fo91 rfl rfl rfl (ih _ (List.getElem_mem hik) true li M _ _ B b hyx hs hlow) ?_)
        rintro _ w61 ⟨rfl, hw61, uw61⟩
        have sw61 := uw61.stp hs.inM hlow hs.ge
        have frw61 := uw61.upd.2
        replace hU := hU.trans uw61
        replace h1 := h1.stp sw61
        replace hk := hk.stp sw61
        replace hyx := Rep.stp hyx sw61
        replace hkx := hkx.stp sw61
        replace hatx := hatx.stp sw61
        replace h5 := h5.stp sw61
        replace hlow := sw61.low
        replace hB := Nat.le_trans hB sw61.upd.1
        replace hs := hw61
        refine l_p 1 tbOk rfl (q1 ?_)
        refine c_ifB _ rfl (fun c93 => ?_) (fun c93 => ?_)
        · refine q0 (l_p 1 tbOk rfl (q1 (c_ret (x_blkR (x_seqR (x_seqR (x_blkR (x_seqR (x_ret1 rfl rfl ?_)))))))))
          rw [run_step hik, hflag] at hrun
          simp only [c93, cond_false] at hrun
          rw [← hrun]
          exact ⟨rfl, hs, hU⟩
        refine c_skip (x_blk (x_seq (c_reg ?_)))
        refine l_cons (o_ar rfl rfl rfl (IntWalk.i64_in _ (by omega)) rfl rfl ?_)
        refine l_p 1 tbOk rfl (l_nil ?_)
        exact x_round2 (i + 1) ((rightF t.kids[i] true li).2) (s5 rfl rfl rfl rfl rfl) ⟨by omega, by rw [run_step hik, hflag] at hrun; simpa [c93] using hrun, hs, hne, h1, hk, hlow, hU, hB⟩ (by omega)
      refine l_p 1 tbOk rfl ?_
      refine l_cons (o_ld tbOk (h1.cell 0 _ rfl) rfl rfl rfl rfl rfl ?_)
      refine l_p 3 tbOk rfl ?_
      refine l_splitP 101 _ rfl (fun c94 => ?_) (fun c94 => ?_)
      · refine l_p 8 tbOk rfl ?_
        have hflag : kidRow t.op i = true := by clear ih; simp_all [kidRow]
        refine l_cons (o_call fo91 rfl rfl rfl (ih _ (List.getElem_mem hik) true li M _ _ B b hyx hs hlow) ?_)
        rintro _ w62 ⟨rfl, hw62, uw62⟩
        have sw62 := uw62.stp hs.inM hlow hs.ge
        have frw62 := uw62.upd.2
        replace hU := hU.trans uw62
        replace h1 := h1.stp sw62
        replace hk := hk.stp sw62
        replace hyx := Rep.stp hyx sw62
        replace hkx := hkx.stp sw62
        replace hatx := hatx.stp sw62
        replace h5 := h5.stp sw62
        replace hlow := sw62.low
        replace hB := Nat.le_trans hB sw62.upd.1
        replace hs := hw62
        refine l_p 1 tbOk rfl (q1 ?_)
        refine c_ifB _ rfl (fun c95 => ?_) (fun c95 => ?_)
        · refine q0 (l_p 1 tbOk rfl (q1 (c_ret (x_blkR (x_seqR (x_seqR (x_blkR (x_seqR (x_ret1 rfl rfl ?_)))))))))
          rw [run_step hik, hflag] at hrun
          simp only [c95, cond_false] at hrun
          rw [← hrun]
          exact ⟨rfl, hs, hU⟩
        refine c_skip (x_blk (x_seq (c_reg ?_)))
        refine l_cons (o_ar rfl rfl rfl (IntWalk.i64_in _ (by omega)) rfl rfl ?_)
        refine l_p 1 tbOk rfl (l_nil ?_)
        exact x_round2 (i + 1) ((rightF t.kids[i] true li).2) (s5 rfl rfl rfl rfl rfl) ⟨by omega, by rw [run_step hik, hflag] at hrun; simpa [c95] using hrun, hs, hne, h1, hk, hlow, hU, hB⟩ (by omega)
      refine l_p 1 tbOk rfl ?_
      refine l_cons (o_ld tbOk (h1.cell 0 _ rfl) rfl rfl rfl rfl rfl ?_)
      refine l_p 2 tbOk rfl ?_
      refine l_splitP 105 _ rfl (fun c96 => ?_) (fun c96 => ?_)
      · refine l_p 4 tbOk rfl ?_
        have hflag : kidRow t.op i = decide ((i : Int) = 1) := by clear ih; simp_all [kidRow]
        refine l_cons (o_call fo91 rfl rfl rfl (ih _ (List.getElem_mem hik) (decide ((i : Int) = 1)) li M _ _ B b hyx hs hlow) ?_)
        rintro _ w63 ⟨rfl, hw63, uw63⟩
        have sw63 := uw63.stp hs.inM hlow hs.ge
        have frw63 := uw63.upd.2
        replace hU := hU.trans uw63
        replace h1 := h1.stp sw63
        replace hk := hk.stp sw63
        replace hyx := Rep.stp hyx sw63
        replace hkx := hkx.stp sw63
        replace hatx := hatx.stp sw63
        replace h5 := h5.stp sw63
        replace hlow := sw63.low
        replace hB := Nat.le_trans hB sw63.upd.1
        replace hs := hw63
        refine l_p 1 tbOk rfl (q1 ?_)
        refine c_ifB _ rfl (fun c97 => ?_) (fun c97 => ?_)
        · refine q0 (l_p 1 tbOk rfl (q1 (c_ret (x_blkR (x_seqR (x_seqR (x_blkR (x_seqR (x_ret1 rfl rfl ?_)))))))))
          rw [run_step hik, hflag] at hrun
          simp only [c97, cond_false] at hrun
          rw [← hrun]
          exact ⟨rfl, hs, hU⟩
        refine c_skip (x_blk (x_seq (c_reg ?_)))
        refine l_cons (o_ar rfl rfl rfl (IntWalk.i64_in _ (by omega)) rfl rfl ?_)
        refine l_p 1 tbOk rfl (l_nil ?_)
        exact x_round2 (i + 1) ((rightF t.kids[i] (decide ((i : Int) = 1)) li).2) (s5 rfl rfl rfl rfl rfl) ⟨by omega, by rw [run_step hik, hflag] at hrun; simpa [c97] using hrun, hs, hne, h1, hk, hlow, hU, hB⟩ (by omega)
      refine l_p 4 tbOk rfl ?_
      have hflag : kidRow t.op i = false := by clear ih; simp_all [kidRow]
      refine l_cons (o_call fo91 rfl rfl rfl (ih _ (List.getElem_mem hik) false li M _ _ B b hyx hs hlow) ?_)
      rintro _ w64 ⟨rfl, hw64, uw64⟩
      have sw64 := uw64.stp hs.inM hlow hs.ge
      have frw64 := uw64.upd.2
      replace hU := hU.trans uw64
      replace h1 := h1.stp sw64
      replace hk := hk.stp sw64
      replace hyx := Rep.stp hyx sw64
      replace hkx := hkx.stp sw64
      replace hatx := hatx.stp sw64
      replace h5 := h5.stp sw64
      replace hlow := sw64.low
      replace hB := Nat.le_trans hB sw64.upd.1
      replace hs := hw64
      refine l_p 1 tbOk rfl (q1 ?_)
      refine c_ifB _ rfl (fun c98 => ?_) (fun c98 => ?_)
      · refine q0 (l_p 1 tbOk rfl (q1 (c_ret (x_blkR (x_seqR (x_seqR (x_blkR (x_seqR (x_ret1 rfl rfl ?_)))))))))
        rw [run_step hik, hflag] at hrun
        simp only [c98, cond_false] at hrun
        rw [← hrun]
        exact ⟨rfl, hs, hU⟩
      refine c_skip (x_blk (x_seq (c_reg ?_)))
      refine l_cons (o_ar rfl rfl rfl (IntWalk.i64_in _ (by omega)) rfl rfl ?_)
      refine l_p 1 tbOk rfl (l_nil ?_)
      exact x_round2 (i + 1) ((rightF t.kids[i] false li).2) (s5 rfl rfl rfl rfl rfl) ⟨by omega, by rw [run_step hik, hflag] at hrun; simpa [c98] using hrun, hs, hne, h1, hk, hlow, hU, hB⟩ (by omega)
    refine c_exit (x_seqE (x_seqE (x_blkE (x_seq (q0 (l_p 1 tbOk rfl (q1 (c_ret (x_ret1 rfl rfl ?_)))))))))
    rw [run_end (by omega)] at hrun
    rw [← hrun]
    exact ⟨rfl, hs, hU⟩
  refine l_p 6 tbOk rfl (q1 (c_ifF rfl (c_skip (x_seq ?_))))
  refine c_cut (X := St) (fun li0 => [(0, .map (some b)), (4, .pointer (some ⟨b1, 0, none⟩))]) (fun li0 w' => runR (t.kids.map rightF) (kidRow t.op) 0 li0 = rightF t row l ∧ OM (κ := Int) (fun x : Bool => Value.bool x) B M w' b li0 ∧ b1 ≠ b ∧ At M w' b1 0 [.int .u8 t.op, .string t.name, .int .i64 t.n, kv] ∧ Sl M w' kv t.kids ∧ Low M w' ∧ UpdB b w w' ∧ B ≤ w'.heap.size) ?_ ?_
  · refine q0 (l_p 2 tbOk rfl ?_)
    refine l_split 75 _ rfl (fun c99 => ?_) (fun c99 => ?_)
    · refine l_p 2 tbOk rfl ?_
      refine l_cons (o_ld tbOk (h1.cell 2 _ rfl) rfl rfl rfl rfl rfl ?_)
      refine l_p 1 tbOk rfl ?_
      have hpre : preR t.op row t.kids.length t.name t.n = true := by clear ih; rw [preR, hko]; unfold headOk; simp_all [numB] <;> omega
      refine l_cons (o_call fo113 rfl rfl rfl (meet_spec M _ B b l t.n row hs hlow) ?_)
      rintro _ w66 ⟨rfl, hw66, uw66⟩
      have sw66 := uw66.stp hs.inM hlow hs.ge
      have frw66 := uw66.upd.2
      replace hU := hU.trans uw66
      replace ht := Rep.stp ht sw66
      replace hk := hk.stp sw66
      replace h1 := h1.stp sw66
      replace hlow := sw66.low
      replace hB := Nat.le_trans hB sw66.upd.1
      replace hs := hw66
      refine l_p 2 tbOk rfl (q1 ?_)
      refine c_ifB _ rfl (fun c100 => ?_) (fun c100 => ?_)
      · refine q0 (l_p 1 tbOk rfl (q1 (c_ret (x_seqR (x_ret1 rfl rfl ?_)))))
        rw [right_meet_no hpre (by clear ih; simp_all) c100]
        exact ⟨rfl, hs, hU⟩
      refine c_skip ?_
      have hrun := (right_meet_yes (row := row) (s := l) hpre (by clear ih; simp_all) (by clear ih; simp_all)).symm
      exact x_cut ((meetS l t.n row).2) (s2 rfl rfl) ⟨hrun, hs, fun e => h1.nM (e ▸ hs.inM), h1, hk, hlow, hU, hB⟩
    refine l_p 7 tbOk rfl (q1 (c_ifF rfl (c_skip ?_)))
    have hpre : preR t.op row t.kids.length t.name t.n = true := by clear ih; rw [preR, hko]; unfold headOk; simp_all [numB] <;> omega
    have hrun := (right_plain (row := row) (s := l) hpre (by clear ih; simp_all)).symm
    exact x_cut (l) (s2 rfl rfl) ⟨hrun, hs, fun e => h1.nM (e ▸ hs.inM), h1, hk, hlow, hU, hB⟩
  rintro li0 w65 ⟨hrun, hs, hne, h1, hk, hlow, hU, hB⟩
  refine c_seq (q0 (l_p 1 tbOk rfl ?_))
  refine l_cons (o_ld tbOk (h1.cell 3 _ rfl) rfl rfl rfl rfl rfl ?_)
  refine l_cons (o_len tbOk hk rfl rfl rfl rfl rfl ?_)
  refine l_p 1 tbOk rfl (q1 (c_blk ?_))
  refine c_loop2 (X := Nat) (Y := St) (fun i li => [(0, .map (some b)), (4, .pointer (some ⟨b1, 0, none⟩)), (84, kv), (85, .int .i64 (t.kids.length : Int)), (86, .int .i64 (i : Nat))]) (fun i li w' => i ≤ t.kids.length ∧ runR ((t.kids.drop i).map rightF) (kidRow t.op) i li = rightF t row l ∧ OM (κ := Int) (fun x : Bool => Value.bool x) B M w' b li ∧ b1 ≠ b ∧ At M w' b1 0 [.int .u8 t.op, .string t.name, .int .i64 t.n, kv] ∧ Sl M w' kv t.kids ∧ Low M w' ∧ UpdB b w w' ∧ B ≤ w'.heap.size) (fun i li => t.kids.length - i) (0) (li0) (s5 rfl rfl rfl rfl rfl) ?_ ?_
  · exact ⟨Nat.zero_le _, by simpa using hrun, hs, hne, h1, hk, hlow, hU, hB⟩
  rintro i li w67 ⟨hi, hrun, hs, hne, h1, hk, hlow, hU, hB⟩
  refine q0 (l_p 1 tbOk rfl (q1 (c_seq ?_)))
  refine c_ifP _ rfl (fun c101 => ?_) (fun c101 => ?_)
  · refine c_skip (x_seq (c_seq (c_blk (q0 (l_p 1 tbOk rfl ?_)))))
    have hik : i < t.kids.length := by omega
    refine l_cons (o_ixS tbOk hk (List.getElem?_eq_getElem hik) rfl rfl rfl rfl rfl rfl rfl rfl rfl ?_)
    intro ebx eox eux hyx hatx
    obtain ⟨kvx, rfl, opx, nmx, n64x, hkx⟩ := ty_open hyx
    replace hatx : At M w67 ebx eox [.int .u8 t.kids[i].op, .string t.kids[i].name, .int .i64 t.kids[i].n, kvx] := hatx
    refine l_cons (o_lds tbOk (fun j v hv => hatx.cell j v hv) rfl rfl rfl rfl rfl rfl ?_)
    refine l_cons (o_new tbOk rfl rfl rfl ?_)
    intro b5 w68 qb5 ew68 hb5
    have nb5 := nM_of hlow qb5
    refine l_p 1 tbOk rfl ?_
    refine l_cons (o_st tbOk hb5 rfl rfl rfl rfl (Rep.one hyx) rfl rfl ?_)
    intro w69 h5 uw69 bew69
    have ew69 : Ext w67 w69 := ew68.trans (bew69 _ (Nat.le_of_eq qb5.symm))
    replace hU := hU.trans (UpdB.ext ew69 hs.lt)
    replace hs := hs.ext hlow hB ew69
    replace h1 := h1.ext ew69
    replace hk := hk.ext ew69
    replace hyx := Rep.ext hyx ew69
    replace hkx := hkx.ext ew69
    replace hatx := hatx.ext ew69
    replace hlow := hlow.ext ew69
    replace hB := Nat.le_trans hB ew69.size
    replace h5 : Box w69 b5 40 [.int .u8 t.kids[i].op, .string t.kids[i].name, .int .i64 t.kids[i].n, kvx] := h5
    replace h5 := h5.at nb5
    refine q1 (q0 (l_p 1 tbOk rfl ?_))
    refine l_cons (o_lds tbOk (fun j v hv => h5.cell j v hv) rfl rfl rfl rfl rfl rfl ?_)
    refine l_p 1 tbOk rfl ?_
    refine l_cons (o_ld tbOk (h1.cell 0 _ rfl) rfl rfl rfl rfl rfl ?_)
    refine l_p 2 tbOk rfl ?_
    refine l_splitP 96 _ rfl (fun c102 => ?_) (fun c102 => ?_)
    · refine l_p 13 tbOk rfl ?_
      have hflag : kidRow t.op i = true := by clear ih; simp_all [kidRow]
      refine l_cons (o_call fo91 rfl rfl rfl (ih _ (List.getElem_mem hik) true li M _ _ B b hyx hs hlow) ?_)
      rintro _ w70 ⟨rfl, hw70, uw70⟩
      have sw70 := uw70.stp hs.inM hlow hs.ge
      have frw70 := uw70.upd.2
      replace hU := hU.trans uw70
      replace h1 := h1.stp sw70
      replace hk := hk.stp sw70
      replace hyx := Rep.stp hyx sw70
      replace hkx := hkx.stp sw70
      replace hatx := hatx.stp sw70
      replace h5 := h5.stp sw70
      replace hlow := sw70.low
      replace hB := Nat.le_trans hB sw70.upd.1
      replace hs := hw70
      refine l_p 1 tbOk rfl (q1 ?_)
      refine c_ifB _ rfl (fun c103 => ?_) (fun c103 => ?_)
      · refine q0 (l_p 1 tbOk rfl (q1 (c_ret (x_blkR (x_seqR (x_seqR (x_blkR (x_seqR (x_ret1 rfl rfl ?_)))))))))
        rw [run_step hik, hflag] at hrun
        simp only [c103, cond_false] at hrun
        rw [← hrun]
        exact ⟨rfl, hs, hU⟩
      refine c_skip (x_blk (x_seq (c_reg ?_)))
      refine l_cons (o_ar rfl rfl rfl (IntWalk.i64_in _ (by omega)) rfl rfl ?_)
      refine l_p 1 tbOk rfl (l_nil ?_)
      exact x_round2 (i + 1) ((rightF t.kids[i] true li).2) (s5 rfl rfl rfl rfl rfl) ⟨by omega, by rw [run_step hik, hflag] at hrun; simpa [c103] using hrun, hs, hne, h1, hk, hlow, hU, hB⟩ (by omega)
    refine l_p 1 tbOk rfl ?_
    refine l_cons (o_ld tbOk (h1.cell 0 _ rfl) rfl rfl rfl rfl rfl ?_)
    refine l_p 3 tbOk rfl ?_
    refine l_splitP 101 _ rfl (fun c104 => ?_) (fun c104 => ?_)
    · refine l_p 8 tbOk rfl ?_
      have hflag : kidRow t.op i = true := by clear ih; simp_all [kidRow]
      refine l_cons (o_call fo91 rfl rfl rfl (ih _ (List.getElem_mem hik) true li M _ _ B b hyx hs hlow) ?_)
      rintro _ w71 ⟨rfl, hw71, uw71⟩
      have sw71 := uw71.stp hs.inM hlow hs.ge
      have frw71 := uw71.upd.2
      replace hU := hU.trans uw71
      replace h1 := h1.stp sw71
      replace hk := hk.stp sw71
      replace hyx := Rep.stp hyx sw71
      replace hkx := hkx.stp sw71
      replace hatx := hatx.stp sw71
      replace h5 := h5.stp sw71
      replace hlow := sw71.low
      replace hB := Nat.le_trans hB sw71.upd.1
      replace hs := hw71
      refine l_p 1 tbOk rfl (q1 ?_)
      refine c_ifB _ rfl (fun c105 => ?_) (fun c105 => ?_)
      · refine q0 (l_p 1 tbOk rfl (q1 (c_ret (x_blkR (x_seqR (x_seqR (x_blkR (x_seqR (x_ret1 rfl rfl ?_)))))))))
        rw [run_step hik, hflag] at hrun
        simp only [c105, cond_false] at hrun
        rw [← hrun]
        exact ⟨rfl, hs, hU⟩
      refine c_skip (x_blk (x_seq (c_reg ?_)))
      refine l_cons (o_ar rfl rfl rfl (IntWalk.i64_in _ (by omega)) rfl rfl ?_)
      refine l_p 1 tbOk rfl (l_nil ?_)
      exact x_round2 (i + 1) ((rightF t.kids[i] true li).2) (s5 rfl rfl rfl rfl rfl) ⟨by omega, by rw [run_step hik, hflag] at hrun; simpa [c105] using hrun, hs, hne, h1, hk, hlow, hU, hB⟩ (by omega)
    refine l_p 1 tbOk rfl ?_
    refine l_cons (o_ld tbOk (h1.cell 0 _ rfl) rfl rfl rfl rfl rfl ?_)
    refine l_p 2 tbOk rfl ?_
    refine l_splitP 105 _ rfl (fun c106 => ?_) (fun c106 => ?_)
    · refine l_p 4 tbOk rfl ?_
      have hflag : kidRow t.op i = decide ((i : Int) = 1) := by clear ih; simp_all [kidRow]
      refine l_cons (o_call fo91 rfl rfl rfl (ih _ (List.getElem_mem hik) (decide ((i : Int) = 1)) li M _ _ B b hyx hs hlow) ?_)
      rintro _ w72 ⟨rfl, hw72, uw72⟩
      have sw72 := uw72.stp hs.inM hlow hs.ge
      have frw72 := uw72.upd.2
      replace hU := hU.trans uw72
      replace h1 := h1.stp sw72
      replace hk := hk.stp sw72
      replace hyx := Rep.stp hyx sw72
      replace hkx := hkx.stp sw72
      replace hatx := hatx.stp sw72
      replace h5 := h5.stp sw72
      replace hlow := sw72.low
      replace hB := Nat.le_trans hB sw72.upd.1
      replace hs := hw72
      refine l_p 1 tbOk rfl (q1 ?_)
      refine c_ifB _ rfl (fun c107 => ?_) (fun c107 => ?_)
      · refine q0 (l_p 1 tbOk rfl (q1 (c_ret (x_blkR (x_seqR (x_seqR (x_blkR (x_seqR (x_ret1 rfl rfl ?_)))))))))
        rw [run_step hik, hflag] at hrun
        simp only [c107, cond_false] at hrun
        rw [← hrun]
        exact ⟨rfl, hs, hU⟩
      refine c_skip (x_blk (x_seq (c_reg ?_)))
      refine l_cons (o_ar rfl rfl rfl (IntWalk.i64_in _ (by omega)) rfl rfl ?_)
      refine l_p 1 tbOk rfl (l_nil ?_)
      exact x_round2 (i + 1) ((rightF t.kids[i] (decide ((i : Int) = 1)) li).2) (s5 rfl rfl rfl rfl rfl) ⟨by omega, by rw [run_step hik, hflag] at hrun; simpa [c107] using hrun, hs, hne, h1, hk, hlow, hU, hB⟩ (by omega)
    refine l_p 4 tbOk rfl ?_
    have hflag : kidRow t.op i = false := by clear ih; simp_all [kidRow]
    refine l_cons (o_call fo91 rfl rfl rfl (ih _ (List.getElem_mem hik) false li M _ _ B b hyx hs hlow) ?_)
    rintro _ w73 ⟨rfl, hw73, uw73⟩
    have sw73 := uw73.stp hs.inM hlow hs.ge
    have frw73 := uw73.upd.2
    replace hU := hU.trans uw73
    replace h1 := h1.stp sw73
    replace hk := hk.stp sw73
    replace hyx := Rep.stp hyx sw73
    replace hkx := hkx.stp sw73
    replace hatx := hatx.stp sw73
    replace h5 := h5.stp sw73
    replace hlow := sw73.low
    replace hB := Nat.le_trans hB sw73.upd.1
    replace hs := hw73
    refine l_p 1 tbOk rfl (q1 ?_)
    refine c_ifB _ rfl (fun c108 => ?_) (fun c108 => ?_)
    · refine q0 (l_p 1 tbOk rfl (q1 (c_ret (x_blkR (x_seqR (x_seqR (x_blkR (x_seqR (x_ret1 rfl rfl ?_)))))))))
      rw [run_step hik, hflag] at hrun
      simp only [c108, cond_false] at hrun
      rw [← hrun]
      exact ⟨rfl, hs, hU⟩
    refine c_skip (x_blk (x_seq (c_reg ?_)))
    refine l_cons (o_ar rfl rfl rfl (IntWalk.i64_in _ (by omega)) rfl rfl ?_)
    refine l_p 1 tbOk rfl (l_nil ?_)
    exact x_round2 (i + 1) ((rightF t.kids[i] false li).2) (s5 rfl rfl rfl rfl rfl) ⟨by omega, by rw [run_step hik, hflag] at hrun; simpa [c108] using hrun, hs, hne, h1, hk, hlow, hU, hB⟩ (by omega)
  refine c_exit (x_seqE (x_seqE (x_blkE (x_seq (q0 (l_p 1 tbOk rfl (q1 (c_ret (x_ret1 rfl rfl ?_)))))))))
  rw [run_end (by omega)] at hrun
  rw [← hrun]
  exact ⟨rfl, hs, hU⟩

/-- kinds.Right. -/
theorem kRight_spec (t : Ty) (M : Nat → Prop) (w : World) (v : Value) (ht : Rep.R M w v t) (hlow0 : Low M w) :
    Calls Try.prog 78 #[v] w (Ret fun r w' => r = .bool (rightF t false []).1 ∧ Ext w w') := by
  have hlow := hlow0
  have hB : w.heap.size ≤ w.heap.size := Nat.le_refl _
  have hE : Below w.heap.size w w := Below.refl _ _
  have hsub : ∀ b, M b → M b := fun _ h => h
  obtain ⟨kv, rfl, op, nm, n64, hk⟩ := ty_open ht
  refine c_enter (n := 6) Try.func78 rfl rfl rfl ?_
  refine q0 ?_
  refine l_cons (o_box rfl rfl rfl ?_)
  intro b1 w1 hb_b1 ew1 h1
  replace h1 : Box _ b1 40 [.int .u8 t.op, .string t.name, .int .i64 t.n, kv] := h1
  replace h1 := h1.at (nM_of hlow hb_b1)
  replace hE := hE.trans (Below.mono ew1 hB)
  replace ht := Rep.ext ht ew1
  replace hk := hk.ext ew1
  replace hlow := hlow.ext ew1
  replace hB := Nat.le_trans hB ew1.size
  refine l_p 1 tbOk rfl (q1 (q0 ?_))
  refine l_cons (o_mkmap (κ := Int) (ν := Bool) (va := (fun x : Bool => Value.bool x)) rfl rfl ?_)
  intro bm w2 qbm ew2 ltbm hbm
  have sw2 := Stp.add ew2 hlow hB (Nat.le_of_eq qbm.symm) ltbm
  have hs : OM (κ := Int) (fun x : Bool => Value.bool x) w.heap.size (Rw.Add M bm) w2 bm [] := OM.mk' hbm qbm hB
  replace hE := hE.trans sw2.below
  replace ht := Rep.stp ht sw2
  replace hk := hk.stp sw2
  replace h1 := h1.stp sw2
  replace hsub := fun b h => sw2.sub b (hsub b h)
  replace hlow := sw2.low
  replace hB := Nat.le_trans hB sw2.upd.1
  refine l_cons (o_lds tbOk (fun j v hv => h1.cell j v hv) rfl rfl rfl rfl rfl rfl ?_)
  refine l_cons (o_call fo91 rfl rfl rfl (right_spec t false [] _ _ _ w.heap.size bm ht hs hlow) ?_)
  rintro _ w3 ⟨rfl, hw3, uw3⟩
  have sw3 := uw3.stp hs.inM hlow hs.ge
  have frw3 := uw3.upd.2
  replace hE := hE.trans sw3.below
  replace ht := Rep.stp ht sw3
  replace hk := hk.stp sw3
  replace h1 := h1.stp sw3
  replace hsub := fun b h => sw3.sub b (hsub b h)
  replace hlow := sw3.low
  replace hB := Nat.le_trans hB sw3.upd.1
  refine l_p 1 tbOk rfl (q1 (c_ret (x_ret1 rfl rfl ?_)))
  exact ⟨rfl, hE⟩

/-- kinds.Row. -/
theorem kRow_spec (t : Ty) (M : Nat → Prop) (w : World) (v : Value) (ht : Rep.R M w v t) (hlow0 : Low M w) :
    Calls Try.prog 55 #[v] w (Ret fun r w' => r = .bool (rightF t true []).1 ∧ Ext w w') := by
  have hlow := hlow0
  have hB : w.heap.size ≤ w.heap.size := Nat.le_refl _
  have hE : Below w.heap.size w w := Below.refl _ _
  have hsub : ∀ b, M b → M b := fun _ h => h
  obtain ⟨kv, rfl, op, nm, n64, hk⟩ := ty_open ht
  refine c_enter (n := 6) Try.func55 rfl rfl rfl ?_
  refine q0 ?_
  refine l_cons (o_box rfl rfl rfl ?_)
  intro b1 w1 hb_b1 ew1 h1
  replace h1 : Box _ b1 40 [.int .u8 t.op, .string t.name, .int .i64 t.n, kv] := h1
  replace h1 := h1.at (nM_of hlow hb_b1)
  replace hE := hE.trans (Below.mono ew1 hB)
  replace ht := Rep.ext ht ew1
  replace hk := hk.ext ew1
  replace hlow := hlow.ext ew1
  replace hB := Nat.le_trans hB ew1.size
  refine l_p 1 tbOk rfl (q1 (q0 ?_))
  refine l_cons (o_mkmap (κ := Int) (ν := Bool) (va := (fun x : Bool => Value.bool x)) rfl rfl ?_)
  intro bm w2 qbm ew2 ltbm hbm
  have sw2 := Stp.add ew2 hlow hB (Nat.le_of_eq qbm.symm) ltbm
  have hs : OM (κ := Int) (fun x : Bool => Value.bool x) w.heap.size (Rw.Add M bm) w2 bm [] := OM.mk' hbm qbm hB
  replace hE := hE.trans sw2.below
  replace ht := Rep.stp ht sw2
  replace hk := hk.stp sw2
  replace h1 := h1.stp sw2
  replace hsub := fun b h => sw2.sub b (hsub b h)
  replace hlow := sw2.low
  replace hB := Nat.le_trans hB sw2.upd.1
  refine l_cons (o_lds tbOk (fun j v hv => h1.cell j v hv) rfl rfl rfl rfl rfl rfl ?_)
  refine l_cons (o_call fo91 rfl rfl rfl (right_spec t true [] _ _ _ w.heap.size bm ht hs hlow) ?_)
  rintro _ w3 ⟨rfl, hw3, uw3⟩
  have sw3 := uw3.stp hs.inM hlow hs.ge
  have frw3 := uw3.upd.2
  replace hE := hE.trans sw3.below
  replace ht := Rep.stp ht sw3
  replace hk := hk.stp sw3
  replace h1 := h1.stp sw3
  replace hsub := fun b h => sw3.sub b (hsub b h)
  replace hlow := sw3.low
  replace hB := Nat.le_trans hB sw3.upd.1
  refine l_p 1 tbOk rfl (q1 (c_ret (x_ret1 rfl rfl ?_)))
  exact ⟨rfl, hE⟩

/-- either: a type or a row? -/
theorem either_spec (t : Ty) (M : Nat → Prop) (w : World) (v : Value) (ht : Rep.R M w v t) (hlow : Low M w) :
    Calls Try.prog 141 #[v] w (Ret fun r w' => r = .bool ((rightF t false []).1 || (rightF t true []).1) ∧ Ext w w') := by
  have hE : Below w.heap.size w w := Below.refl _ _
  have hB : w.heap.size ≤ w.heap.size := Nat.le_refl _
  obtain ⟨kv, rfl, op, nm, n64, hk⟩ := ty_open ht
  refine c_enter (n := 9) Try.func141 rfl rfl rfl ?_
  refine q0 ?_
  refine l_cons (o_box rfl rfl rfl ?_)
  intro b1 w1 hb_b1 ew1 h1
  replace h1 : Box _ b1 40 [.int .u8 t.op, .string t.name, .int .i64 t.n, kv] := h1
  replace h1 := h1.at (nM_of hlow hb_b1)
  replace hE := hE.trans (Below.mono ew1 hB)
  replace ht := Rep.ext ht ew1
  replace hk := hk.ext ew1
  replace hlow := hlow.ext ew1
  replace hB := Nat.le_trans hB ew1.size
  refine l_p 1 tbOk rfl (q1 (q0 ?_))
  refine l_cons (o_lds tbOk (fun j v hv => h1.cell j v hv) rfl rfl rfl rfl rfl rfl ?_)
  refine l_cons (o_call fo78 rfl rfl rfl (kRight_spec t M _ _ ht hlow) ?_)
  rintro _ w2 ⟨rfl, ew2⟩
  replace hE := hE.trans (Below.mono ew2 hB)
  replace ht := Rep.ext ht ew2
  replace hk := hk.ext ew2
  replace h1 := h1.ext ew2
  replace hlow := hlow.ext ew2
  replace hB := Nat.le_trans hB ew2.size
  refine l_p 1 tbOk rfl ?_
  refine l_split 5 _ rfl (fun c1 => ?_) (fun c1 => ?_)
  · refine l_p 4 tbOk rfl (q1 (c_ret (x_ret1 rfl rfl ?_)))
    exact ⟨by simp [c1], hE⟩
  refine l_cons (o_lds tbOk (fun j v hv => h1.cell j v hv) rfl rfl rfl rfl rfl rfl ?_)
  refine l_cons (o_call fo55 rfl rfl rfl (kRow_spec t M _ _ ht hlow) ?_)
  rintro _ w3 ⟨rfl, ew3⟩
  replace hE := hE.trans (Below.mono ew3 hB)
  replace ht := Rep.ext ht ew3
  replace hk := hk.ext ew3
  replace h1 := h1.ext ew3
  replace hlow := hlow.ext ew3
  replace hB := Nat.le_trans hB ew3.size
  refine l_p 2 tbOk rfl (q1 (c_ret (x_ret1 rfl rfl ?_)))
  exact ⟨by simp [c1], hE⟩

end Go.Proofs.Ytohfnpmehgpphaa
