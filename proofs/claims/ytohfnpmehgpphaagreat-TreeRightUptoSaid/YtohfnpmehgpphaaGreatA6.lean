/- Part 6 of the proof: rules, plain laws and walks, merged out of smaller texts. -/
import Derived.Test.YtohfnpmehgpphaaGreatA5
namespace Go.Proofs.YtohfnpmehgpphaaGreat
open Go Rw Go.RowKit
set_option maxRecDepth 100000
theorem takeM_same {l k : List Tm} {i : Nat} (hi : i < l.length) (hk : i < k.length) (h : l.take i = k.take i) (e : l[i] = k[i]) : l.take (i + 1) = k.take (i + 1) := by
 rw [List.take_succ_eq_append_getElem hi, List.take_succ_eq_append_getElem hk, h, e]
theorem takeM_full {l k : List Tm} {i : Nat} (hi : l.length ≤ i) (hl : l.length = k.length) (h : l.take i = k.take i) : l = k := by
 rw [List.take_of_length_le hi, List.take_of_length_le (by omega)] at h; exact h
theorem partsS_size (op : Int) : (partsS op).size < 100 := by
 by_cases h : op < 32 ∨ 52 ≤ op
 ·rw [partsS, if_pos h]; decide
 ·rcases op_cases h with e | e | e | e | e | e | e | e | e | e | e | e | e | e | e | e | e | e | e | e <;> subst e <;> decide
theorem refTRight_spec : ∀ (t : Tm) (arm : Bool) (M : Nat → Prop) (w : World) (v : Value), Rep.R M w v t → Low M w → AnnS t → Calls Tryz.prog 10 #[v, .bool arm] w (Ret fun r w' => r = .bool (refT t arm) ∧ Ext w w') := by
 refine Tm.ind fun t ih => ?_
 intro arm M w v ht hlow hz
 have hE : Below w.heap.size w w := Below.refl _ _
 have hB : w.heap.size ≤ w.heap.size := Nat.le_refl _
 obtain ⟨akv, kv, rfl, op, nm, ag, n64, ha, hk⟩ := tm_open ht
 have hlt := hk.lt
 have hps : (partsS t.op).size < 100 := partsS_size t.op
 refine c_enter (n := 107) Tryz.func10 rfl rfl rfl ?_
 refine q0 ?_
 refine lC (o_box rfl rfl rfl ?_)
 intro b2 w1 hb_b2 ew1 h2
 replace h2 : Box _ b2 28 [.int .u8 t.op, .string t.name, .string t.arg, .int .i64 t.n, .bool t.has, .int .u8 t.ann.op, .string t.ann.name, .int .i64 t.ann.n, akv, kv] := h2
 replace h2 := h2.at (nM_of hlow hb_b2)
 replace hE := ew1.bl hE hB
 replace ht := Rep.ext ht ew1
 replace ha := Rep.ext ha ew1
 replace hk := hk.ext ew1
 replace hlow := hlow.ext ew1
 replace hB := ew1.z hB
 refine l_p 1 tK rfl (q1 (q0 (l_p 1 tK rfl ?_)))
 refine lC (o_ld tK (h2.cell 0 _ rfl) rfl rfl rfl rfl rfl ?_)
 refine lC (o_call fo27 rfl rfl rfl (partsS_spec t.op op M _ hlow) ?_)
 rintro _ w2 ⟨rfl, ew2⟩
 replace hE := ew2.bl hE hB
 replace ht := Rep.ext ht ew2
 replace ha := Rep.ext ha ew2
 replace hk := hk.ext ew2
 replace h2 := h2.ext ew2
 replace hlow := hlow.ext ew2
 replace hB := ew2.z hB
 refine l_p 1 tK rfl (q1 ?_)
 refine c_cut (X := Unit) (fun _u => [(2, .pointer (some ⟨b2, 0, none⟩)), (5, .string (partsS t.op))]) (fun _u w' => refT t arm = (bif decide ((partsS t.op) = ⟨#[99]⟩) then caseL (refL t.kids) else decide (t.kids.length = countE (partsS t.op)) && allL (refL t.kids)) ∧ At M w' b2 0 [.int .u8 t.op, .string t.name, .string t.arg, .int .i64 t.n, .bool t.has, .int .u8 t.ann.op, .string t.ann.name, .int .i64 t.ann.n, akv, kv] ∧ Sl M w' kv t.kids ∧ Low M w' ∧ Below w.heap.size w w' ∧ w.heap.size ≤ w'.heap.size) ?_ ?_
 ·refine q0 (l_p 3 tK rfl ?_)
  refine l_splitP 15 _ rfl (fun c1 => ?_) (fun c1 => ?_)
  ·refine l_p 17 tK rfl (q1 (c_ifT rfl (q0 (l_p 1 tK rfl (q1 (c_ret (x_seqR (x_ret1 rfl rfl ?_))))))))
   exact ⟨by rw [refT_eq]; clear ih; unfold armsB; simp_all, hE⟩
  refine l_p 2 tK rfl ?_
  refine lC (o_ld tK (h2.cell 0 _ rfl) rfl rfl rfl rfl rfl ?_)
  refine l_p 2 tK rfl ?_
  refine l_splitP 20 _ rfl (fun c2 => ?_) (fun c2 => ?_)
  ·refine l_p 4 tK rfl ?_
   refine lC (o_bne tK rfl rfl rfl rfl rfl rfl ?_)
   refine l_p 2 tK rfl ?_
   refine l_split 27 _ rfl (fun c3 => ?_) (fun c3 => ?_)
   ·refine l_p 5 tK rfl (q1 (c_ifT rfl (q0 (l_p 1 tK rfl (q1 (c_ret (x_seqR (x_ret1 rfl rfl ?_))))))))
    exact ⟨by rw [refT_eq]; clear ih; unfold armsB; simp_all, hE⟩
   refine lC (o_lds tK (fun j v hv => h2.cell j v hv) rfl rfl rfl rfl rfl rfl ?_)
   refine l_p 1 tK rfl ?_
   refine lC (o_call fo28 rfl rfl rfl (partsR_spec t _ (by omega) _ _ _ ht hlow hz.self) ?_)
   rintro _ w3 ⟨rfl, ew3⟩
   replace hE := ew3.bl hE hB
   replace ht := Rep.ext ht ew3
   replace ha := Rep.ext ha ew3
   replace hk := hk.ext ew3
   replace h2 := h2.ext ew3
   replace hlow := hlow.ext ew3
   replace hB := ew3.z hB
   refine l_p 2 tK rfl (q1 ?_)
   refine c_ifB _ rfl (fun c4 => ?_) (fun c4 => ?_)
   ·refine q0 (l_p 1 tK rfl (q1 (c_ret (x_seqR (x_ret1 rfl rfl ?_)))))
    exact ⟨by rw [refT_eq]; clear ih; unfold armsB; simp_all, hE⟩
   refine c_skip ?_
   have hhd : refT t arm = (bif decide ((partsS t.op) = ⟨#[99]⟩) then caseL (refL t.kids) else decide (t.kids.length = countE (partsS t.op)) && allL (refL t.kids)) := by
    rw [refT_eq]
    clear ih
    unfold armsB
    simp_all
   exact x_cut (()) (s2 rfl rfl) ⟨hhd, h2, hk, hlow, hE, hB⟩
  refine l_p 1 tK rfl ?_
  refine lC (o_ld tK (h2.cell 0 _ rfl) rfl rfl rfl rfl rfl ?_)
  refine l_p 2 tK rfl ?_
  refine lC (o_bne tK rfl rfl rfl rfl rfl rfl ?_)
  refine l_p 2 tK rfl ?_
  refine l_split 27 _ rfl (fun c5 => ?_) (fun c5 => ?_)
  ·refine l_p 5 tK rfl (q1 (c_ifT rfl (q0 (l_p 1 tK rfl (q1 (c_ret (x_seqR (x_ret1 rfl rfl ?_))))))))
   exact ⟨by rw [refT_eq]; clear ih; unfold armsB; simp_all, hE⟩
  refine lC (o_lds tK (fun j v hv => h2.cell j v hv) rfl rfl rfl rfl rfl rfl ?_)
  refine l_p 1 tK rfl ?_
  refine lC (o_call fo28 rfl rfl rfl (partsR_spec t _ (by omega) _ _ _ ht hlow hz.self) ?_)
  rintro _ w4 ⟨rfl, ew4⟩
  replace hE := ew4.bl hE hB
  replace ht := Rep.ext ht ew4
  replace ha := Rep.ext ha ew4
  replace hk := hk.ext ew4
  replace h2 := h2.ext ew4
  replace hlow := hlow.ext ew4
  replace hB := ew4.z hB
  refine l_p 2 tK rfl (q1 ?_)
  refine c_ifB _ rfl (fun c6 => ?_) (fun c6 => ?_)
  ·refine q0 (l_p 1 tK rfl (q1 (c_ret (x_seqR (x_ret1 rfl rfl ?_)))))
   exact ⟨by rw [refT_eq]; clear ih; unfold armsB; simp_all, hE⟩
  refine c_skip ?_
  have hhd : refT t arm = (bif decide ((partsS t.op) = ⟨#[99]⟩) then caseL (refL t.kids) else decide (t.kids.length = countE (partsS t.op)) && allL (refL t.kids)) := by
   rw [refT_eq]
   clear ih
   unfold armsB
   simp_all
  exact x_cut (()) (s2 rfl rfl) ⟨hhd, h2, hk, hlow, hE, hB⟩
 clear h2 hk ht ha hlow hE hB
 rintro _ w80 ⟨hhd, h2, hk, hlow, hE, hB⟩
 refine q0 (l_p 1 tK rfl (q1 (c_seq (q0 (l_p 1 tK rfl (q1 (c_blk ?_)))))))
 refine c_loop (X := Nat) (fun i => [(2, .pointer (some ⟨b2, 0, none⟩)), (5, .string (partsS t.op)), (6, .int .i64 (countTo (partsS t.op) i : Nat)), (7, .int .i64 (i : Nat))]) (fun i w' => i ≤ (partsS t.op).size ∧ At M w' b2 0 [.int .u8 t.op, .string t.name, .string t.arg, .int .i64 t.n, .bool t.has, .int .u8 t.ann.op, .string t.ann.name, .int .i64 t.ann.n, akv, kv] ∧ Sl M w' kv t.kids ∧ Low M w' ∧ Below w.heap.size w w' ∧ w.heap.size ≤ w'.heap.size) (fun i => (partsS t.op).size - i) (0) (s4 rfl rfl rfl rfl) ?_ ?_
 ·exact ⟨Nat.zero_le _, h2, hk, hlow, hE, hB⟩
 clear h2 hk hlow hE hB
 rintro i w5 ⟨hi, h2, hk, hlow, hE, hB⟩
 have hct := countTo_le (partsS t.op) i
 refine c_seq (q0 (l_p 4 tK rfl (q1 ?_)))
 refine c_ifP _ rfl (fun c7 => ?_) (fun c7 => ?_)
 ·refine c_skip (x_seq (c_seq (c_blk (q0 (l_p 2 tK rfl ?_)))))
  have his : i < (partsS t.op).size := by omega
  obtain ⟨ch, hd⟩ : ∃ ch, (partsS t.op).data[i]? = some ch := ⟨_, Array.getElem?_eq_getElem (show i < (partsS t.op).data.size from his)⟩
  refine lC (o_si tK rfl rfl rfl rfl rfl hd rfl rfl ?_)
  refine l_p 1 tK rfl (q1 ?_)
  refine c_ifP _ rfl (fun c8 => ?_) (fun c8 => ?_)
  ·refine c_reg (l_p 1 tK rfl ?_)
   refine lC (o_ai rfl rfl rfl (by omega) rfl rfl ?_)
   refine l_p 1 tK rfl (q2 (x_seq (c_reg (l_p 1 tK rfl ?_))))
   refine lC (o_ai rfl rfl rfl (by omega) rfl rfl ?_)
   refine l_p 1 tK rfl (l_nil ?_)
   exact x_round (i + 1) (s4 rfl rfl (get_num rfl (by rw [countTo_step hd, if_pos (UInt8.toNat_inj.1 (show ch.toNat = 101 by omega))]; omega)) (get_num rfl (by omega))) ⟨by omega, h2, hk, hlow, hE, hB⟩ (by omega)
  refine c_skip (x_blk (x_seq (c_reg (l_p 1 tK rfl ?_))))
  refine lC (o_ai rfl rfl rfl (by omega) rfl rfl ?_)
  refine l_p 1 tK rfl (l_nil ?_)
  exact x_round (i + 1) (s4 rfl rfl (get_num rfl (by rw [countTo_step hd, if_neg (fun e : ch = 101 => c8 (by rw [e]; rfl))]; omega)) (get_num rfl (by omega))) ⟨by omega, h2, hk, hlow, hE, hB⟩ (by omega)
 refine c_exit (x_seqE (x_seqE (x_blkE (x_seq (c_seq (q0 (l_p 2 tK rfl (q1 ?_))))))))
 refine c_ifP _ rfl (fun c9 => ?_) (fun c9 => ?_)
 ·refine c_seq (q0 (l_p 1 tK rfl ?_))
  refine lC (o_ld tK (h2.cell 9 _ rfl) rfl rfl rfl rfl rfl ?_)
  refine lC (o_len tK hk rfl rfl rfl rfl rfl ?_)
  refine l_p 2 tK rfl ?_
  refine l_splitP 51 _ rfl (fun c10 => ?_) (fun c10 => ?_)
  ·refine l_p 7 tK rfl (q1 (c_ifT rfl (q0 (l_p 1 tK rfl (q1 (c_ret (x_seqR (x_seqR (x_ret1 rfl rfl ?_)))))))))
   refine ⟨?_, hE⟩
   rw [hhd, decide_eq_true (by assumption), cond_true]
   by_cases h9 : t.kids.length = 0
   ·rw [List.eq_nil_of_length_eq_zero h9]; rfl
   ·first | (exfalso; omega) | (rw [caseL_step (by omega)]; clear ih; simp_all)
  refine l_p 1 tK rfl ?_
  refine lC (o_ld tK (h2.cell 9 _ rfl) rfl rfl rfl rfl rfl ?_)
  have h0k : 0 < t.kids.length := by omega
  refine lC (o_ixS tK hk (List.getElem?_eq_getElem h0k) rfl rfl rfl rfl rfl rfl rfl rfl rfl ?_)
  intro ebx eox eux hyx hatx
  obtain ⟨akvx, kvx, rfl, opx, nmx, agx, n64x, hax, hkx⟩ := tm_open hyx
  replace hatx : At M w5 ebx eox [.int .u8 t.kids[0].op, .string t.kids[0].name, .string t.kids[0].arg, .int .i64 t.kids[0].n, .bool t.kids[0].has, .int .u8 t.kids[0].ann.op, .string t.kids[0].ann.name, .int .i64 t.kids[0].ann.n, akvx, kvx] := hatx
  refine lC (o_lds tK (fun j v hv => hatx.cell j v hv) rfl rfl rfl rfl rfl rfl ?_)
  refine lC (o_call fo10 rfl rfl rfl (ih _ (List.getElem_mem h0k) _ M _ _ hyx hlow (hz.kid (List.getElem_mem h0k))) ?_)
  rintro _ w6 ⟨rfl, ew6⟩
  replace hE := ew6.bl hE hB
  replace h2 := h2.ext ew6
  replace hk := hk.ext ew6
  replace hyx := Rep.ext hyx ew6
  replace hax := Rep.ext hax ew6
  replace hkx := hkx.ext ew6
  replace hatx := hatx.ext ew6
  replace hlow := hlow.ext ew6
  replace hB := ew6.z hB
  refine l_p 2 tK rfl (q1 ?_)
  refine c_ifB _ rfl (fun c11 => ?_) (fun c11 => ?_)
  ·refine q0 (l_p 1 tK rfl (q1 (c_ret (x_seqR (x_seqR (x_ret1 rfl rfl ?_))))))
   refine ⟨?_, hE⟩
   rw [hhd, decide_eq_true (by assumption), cond_true]
   by_cases h9 : t.kids.length = 0
   ·rw [List.eq_nil_of_length_eq_zero h9]; rfl
   ·first | (exfalso; omega) | (rw [caseL_step (by omega)]; clear ih; simp_all)
  refine c_skip (x_seq (c_seq (q0 (l_p 1 tK rfl (q1 (c_blk ?_))))))
  have h0k : 0 < t.kids.length := by omega
  have hcase : refT t arm = armsL (refL (t.kids.drop 1)) := by
   rw [hhd, decide_eq_true (by assumption), cond_true, caseL_step h0k]; clear ih; simp_all
  refine c_loop (X := Nat) (fun i => [(2, .pointer (some ⟨b2, 0, none⟩)), (8, .int .i64 (i : Nat))]) (fun i w' => 1 ≤ i ∧ i ≤ t.kids.length ∧ refT t arm = armsL (refL (t.kids.drop i)) ∧ At M w' b2 0 [.int .u8 t.op, .string t.name, .string t.arg, .int .i64 t.n, .bool t.has, .int .u8 t.ann.op, .string t.ann.name, .int .i64 t.ann.n, akv, kv] ∧ Sl M w' kv t.kids ∧ Low M w' ∧ Below w.heap.size w w' ∧ w.heap.size ≤ w'.heap.size) (fun i => t.kids.length - i) (1) (s2 rfl rfl) ?_ ?_
  ·exact ⟨Nat.le_refl _, by omega, hcase, h2, hk, hlow, hE, hB⟩
  clear h2 hk hlow hE hB
  rintro i w7 ⟨hi1, hi, hinv, h2, hk, hlow, hE, hB⟩
  refine c_seq (q0 (l_p 2 tK rfl ?_))
  refine lC (o_ld tK (h2.cell 9 _ rfl) rfl rfl rfl rfl rfl ?_)
  refine lC (o_len tK hk rfl rfl rfl rfl rfl ?_)
  refine l_p 1 tK rfl (q1 ?_)
  refine c_ifP _ rfl (fun c12 => ?_) (fun c12 => ?_)
  ·refine c_skip (x_seq (c_seq (c_blk (q0 (l_p 1 tK rfl ?_)))))
   refine lC (o_ld tK (h2.cell 9 _ rfl) rfl rfl rfl rfl rfl ?_)
   refine l_p 1 tK rfl ?_
   have hik : i < t.kids.length := by omega
   refine lC (o_ixS tK hk (List.getElem?_eq_getElem hik) rfl rfl rfl rfl rfl rfl rfl rfl rfl ?_)
   intro ebx eox eux hyx hatx
   obtain ⟨akvx, kvx, rfl, opx, nmx, agx, n64x, hax, hkx⟩ := tm_open hyx
   replace hatx : At M w7 ebx eox [.int .u8 t.kids[i].op, .string t.kids[i].name, .string t.kids[i].arg, .int .i64 t.kids[i].n, .bool t.kids[i].has, .int .u8 t.kids[i].ann.op, .string t.kids[i].ann.name, .int .i64 t.kids[i].ann.n, akvx, kvx] := hatx
   refine lC (o_lds tK (fun j v hv => hatx.cell j v hv) rfl rfl rfl rfl rfl rfl ?_)
   refine lC (o_call fo10 rfl rfl rfl (ih _ (List.getElem_mem hik) _ M _ _ hyx hlow (hz.kid (List.getElem_mem hik))) ?_)
   rintro _ w8 ⟨rfl, ew8⟩
   replace hE := ew8.bl hE hB
   replace h2 := h2.ext ew8
   replace hk := hk.ext ew8
   replace hyx := Rep.ext hyx ew8
   replace hax := Rep.ext hax ew8
   replace hkx := hkx.ext ew8
   replace hatx := hatx.ext ew8
   replace hlow := hlow.ext ew8
   replace hB := ew8.z hB
   refine l_p 2 tK rfl ?_
   refine l_splitB 73 _ rfl (fun c13 => ?_) (fun c13 => ?_)
   ·refine l_p 16 tK rfl (q1 (c_ifT rfl (q0 (l_p 1 tK rfl (q1 (c_ret (x_blkR (x_seqR (x_seqR (x_blkR (x_seqR (x_seqR (x_ret1 rfl rfl ?_)))))))))))))
    exact ⟨by rw [hinv, armsL_step hik]; clear ih; first | (rw [decide_eq_true (show i + 1 < t.kids.length by omega)]; simp_all) | simp_all, hE⟩
   refine l_p 1 tK rfl ?_
   refine lC (o_ld tK (h2.cell 9 _ rfl) rfl rfl rfl rfl rfl ?_)
   refine l_p 1 tK rfl ?_
   refine lC (o_ixS tK hk (List.getElem?_eq_getElem hik) rfl rfl rfl rfl rfl rfl rfl rfl rfl ?_)
   intro eby eoy euy hyy haty
   obtain ⟨akvy, kvy, rfl, opy, nmy, agy, n64y, hay, hky⟩ := tm_open hyy
   replace haty : At M w8 eby eoy [.int .u8 t.kids[i].op, .string t.kids[i].name, .string t.kids[i].arg, .int .i64 t.kids[i].n, .bool t.kids[i].has, .int .u8 t.kids[i].ann.op, .string t.kids[i].ann.name, .int .i64 t.kids[i].ann.n, akvy, kvy] := haty
   refine l_p 1 tK rfl ?_
   refine lC (o_ld tK (haty.cell 0 _ rfl) rfl rfl rfl rfl rfl ?_)
   refine l_p 2 tK rfl ?_
   refine l_splitP 81 _ rfl (fun c14 => ?_) (fun c14 => ?_)
   ·refine l_p 2 tK rfl ?_
    refine lC (o_ld tK (h2.cell 9 _ rfl) rfl rfl rfl rfl rfl ?_)
    refine lC (o_len tK hk rfl rfl rfl rfl rfl ?_)
    refine lC (o_ai rfl rfl rfl (by omega) rfl rfl ?_)
    refine l_p 3 tK rfl (q1 ?_)
    refine c_ifP _ rfl (fun c15 => ?_) (fun c15 => ?_)
    ·refine q0 (l_p 1 tK rfl (q1 (c_ret (x_blkR (x_seqR (x_seqR (x_blkR (x_seqR (x_seqR (x_ret1 rfl rfl ?_))))))))))
     exact ⟨by rw [hinv, armsL_step hik]; clear ih; first | (rw [decide_eq_true (show i + 1 < t.kids.length by omega)]; simp_all) | simp_all, hE⟩
    refine c_skip (x_blk (x_seq (c_reg (l_p 1 tK rfl ?_))))
    refine lC (o_ai rfl rfl rfl (by omega) rfl rfl ?_)
    refine l_p 1 tK rfl (l_nil ?_)
    exact x_round (i + 1) (s2 rfl (get_num rfl (by omega))) ⟨by omega, by omega, by rw [hinv, armsL_step hik]; clear ih; first | (rw [decide_eq_false (show ¬ i + 1 < t.kids.length by omega)]; simp_all) | simp_all, h2, hk, hlow, hE, hB⟩ (by omega)
   refine l_p 8 tK rfl (q1 (c_ifF rfl (c_skip (x_blk (x_seq (c_reg (l_p 1 tK rfl ?_)))))))
   refine lC (o_ai rfl rfl rfl (by omega) rfl rfl ?_)
   refine l_p 1 tK rfl (l_nil ?_)
   exact x_round (i + 1) (s2 rfl (get_num rfl (by omega))) ⟨by omega, by omega, by rw [hinv, armsL_step hik]; clear ih; first | (rw [decide_eq_false (show ¬ i + 1 < t.kids.length by omega)]; simp_all) | simp_all, h2, hk, hlow, hE, hB⟩ (by omega)
  refine c_exit (x_seqE (x_seqE (x_blkE (x_seq (q0 (l_p 1 tK rfl (q1 (c_ret (x_seqR (x_ret1 rfl rfl ?_))))))))))
  exact ⟨by rw [hinv, armsL_end (by omega)], hE⟩
 refine c_skip (x_seq (c_seq (q0 (l_p 1 tK rfl ?_))))
 refine lC (o_ld tK (h2.cell 9 _ rfl) rfl rfl rfl rfl rfl ?_)
 refine lC (o_len tK hk rfl rfl rfl rfl rfl ?_)
 refine l_p 2 tK rfl (q1 ?_)
 refine c_ifN _ rfl (fun c16 => ?_) (fun c16 => ?_)
 ·refine q0 (l_p 1 tK rfl (q1 (c_ret (x_seqR (x_ret1 rfl rfl ?_)))))
  have hlen : t.kids.length ≠ countE (partsS t.op) := by rw [← countTo_all (s := (partsS t.op)) (i := i) (by omega)]; omega
  exact ⟨by rw [hhd, decide_eq_false (by assumption), cond_false, decide_eq_false hlen]; rfl, hE⟩
 refine c_skip (x_seq (c_seq (q0 (l_p 1 tK rfl (q1 (c_blk ?_))))))
 have hlen : t.kids.length = countE (partsS t.op) := by rw [← countTo_all (s := (partsS t.op)) (i := i) (by omega)]; omega
 have hall : refT t arm = allL (refL (t.kids.drop 0)) := by
  rw [hhd, decide_eq_false (by assumption), cond_false, decide_eq_true hlen]; rfl
 have hcte : countTo (partsS t.op) i = t.kids.length := by rw [hlen, countTo_all (by omega)]
 have hgo : (countTo (partsS t.op) i : Int) = (t.kids.length : Int) := by omega
 refine c_loop (X := Nat) (fun j => [(2, .pointer (some ⟨b2, 0, none⟩)), (6, .int .i64 (t.kids.length : Int)), (9, .int .i64 (j : Nat))]) (fun j w' => j ≤ t.kids.length ∧ refT t arm = allL (refL (t.kids.drop j)) ∧ At M w' b2 0 [.int .u8 t.op, .string t.name, .string t.arg, .int .i64 t.n, .bool t.has, .int .u8 t.ann.op, .string t.ann.name, .int .i64 t.ann.n, akv, kv] ∧ Sl M w' kv t.kids ∧ Low M w' ∧ Below w.heap.size w w' ∧ w.heap.size ≤ w'.heap.size) (fun j => t.kids.length - j) (0) (s3 rfl (get_num rfl hgo) rfl) ?_ ?_
 ·exact ⟨Nat.zero_le _, hall, h2, hk, hlow, hE, hB⟩
 clear h2 hk hlow hE hB
 rintro j w9 ⟨hj, hinv, h2, hk, hlow, hE, hB⟩
 refine c_seq (q0 (l_p 3 tK rfl (q1 ?_)))
 refine c_ifP _ rfl (fun c17 => ?_) (fun c17 => ?_)
 ·refine c_skip (x_seq (c_seq (c_blk (q0 (l_p 1 tK rfl ?_)))))
  refine lC (o_ld tK (h2.cell 9 _ rfl) rfl rfl rfl rfl rfl ?_)
  refine l_p 1 tK rfl ?_
  have hjk : j < t.kids.length := by omega
  refine lC (o_ixS tK hk (List.getElem?_eq_getElem hjk) rfl rfl rfl rfl rfl rfl rfl rfl rfl ?_)
  intro ebx eox eux hyx hatx
  obtain ⟨akvx, kvx, rfl, opx, nmx, agx, n64x, hax, hkx⟩ := tm_open hyx
  replace hatx : At M w9 ebx eox [.int .u8 t.kids[j].op, .string t.kids[j].name, .string t.kids[j].arg, .int .i64 t.kids[j].n, .bool t.kids[j].has, .int .u8 t.kids[j].ann.op, .string t.kids[j].ann.name, .int .i64 t.kids[j].ann.n, akvx, kvx] := hatx
  refine lC (o_lds tK (fun j v hv => hatx.cell j v hv) rfl rfl rfl rfl rfl rfl ?_)
  refine lC (o_call fo10 rfl rfl rfl (ih _ (List.getElem_mem hjk) _ M _ _ hyx hlow (hz.kid (List.getElem_mem hjk))) ?_)
  rintro _ w10 ⟨rfl, ew10⟩
  replace hE := ew10.bl hE hB
  replace h2 := h2.ext ew10
  replace hk := hk.ext ew10
  replace hyx := Rep.ext hyx ew10
  replace hax := Rep.ext hax ew10
  replace hkx := hkx.ext ew10
  replace hatx := hatx.ext ew10
  replace hlow := hlow.ext ew10
  replace hB := ew10.z hB
  refine l_p 1 tK rfl (q1 ?_)
  refine c_ifB _ rfl (fun c18 => ?_) (fun c18 => ?_)
  ·refine q0 (l_p 1 tK rfl (q1 (c_ret (x_blkR (x_seqR (x_seqR (x_blkR (x_seqR (x_ret1 rfl rfl ?_)))))))))
   exact ⟨by rw [hinv, allL_step hjk]; clear ih; simp_all, hE⟩
  refine c_skip (x_blk (x_seq (c_reg (l_p 1 tK rfl ?_))))
  refine lC (o_ai rfl rfl rfl (by omega) rfl rfl ?_)
  refine l_p 1 tK rfl (l_nil ?_)
  exact x_round (j + 1) (s3 rfl rfl (get_num rfl (by omega))) ⟨by omega, by rw [hinv, allL_step hjk]; clear ih; simp_all, h2, hk, hlow, hE, hB⟩ (by omega)
 refine c_exit (x_seqE (x_seqE (x_blkE (x_seq (q0 (l_p 1 tK rfl (q1 (c_ret (x_ret1 rfl rfl ?_)))))))))
 exact ⟨by rw [hinv, allL_end (by omega)], hE⟩
theorem refTR_spec (t : Tm) (arm : Bool) (M : Nat → Prop) (w : World) (v : Value) (ht : Rep.R M w v t) (hlow : Low M w) (hz : AnnS t) :
  Calls Tryz.prog 10 #[v, .bool arm] w (Ret fun r w' => r = .bool (rightT t arm) ∧ Ext w w') := ref_right t arm ▸ refTRight_spec t arm M w v ht hlow hz
theorem alikeM_spec : ∀ (t : Tm) (s : Tm) (M : Nat → Prop) (w : World) (v u : Value), Rep.R M w v t → Rep.R M w u s → Low M w → Calls Tryz.prog 15 #[v, u] w (Ret fun r w' => r = .bool (@decide (t = s) (Classical.propDecidable _)) ∧ Ext w w') := by
 refine Tm.ind fun t ih => ?_
 intro s M w v u ht hs hlow
 have hE : Below w.heap.size w w := Below.refl _ _
 have hB : w.heap.size ≤ w.heap.size := Nat.le_refl _
 obtain ⟨akv, kv, rfl, op, nm, ag, n64, ha, hk⟩ := tm_open ht
 obtain ⟨akvs, kvs, rfl, ops, nms, ags, n64s, has, hks⟩ := tm_open hs
 have hlt := hk.lt
 refine c_enter (n := 75) Tryz.func15 rfl rfl rfl ?_
 refine q0 ?_
 refine lC (o_box rfl rfl rfl ?_)
 intro b1 w1 hb_b1 ew1 h1
 replace h1 : Box _ b1 28 [.int .u8 t.op, .string t.name, .string t.arg, .int .i64 t.n, .bool t.has, .int .u8 t.ann.op, .string t.ann.name, .int .i64 t.ann.n, akv, kv] := h1
 replace h1 := h1.at (nM_of hlow hb_b1)
 replace hE := ew1.bl hE hB
 replace ht := Rep.ext ht ew1
 replace ha := Rep.ext ha ew1
 replace hk := hk.ext ew1
 replace hs := Rep.ext hs ew1
 replace has := Rep.ext has ew1
 replace hks := hks.ext ew1
 replace hlow := hlow.ext ew1
 replace hB := ew1.z hB
 refine lC (o_box rfl rfl rfl ?_)
 intro b2 w2 hb_b2 ew2 h2
 replace h2 : Box _ b2 28 [.int .u8 s.op, .string s.name, .string s.arg, .int .i64 s.n, .bool s.has, .int .u8 s.ann.op, .string s.ann.name, .int .i64 s.ann.n, akvs, kvs] := h2
 replace h2 := h2.at (nM_of hlow hb_b2)
 replace hE := ew2.bl hE hB
 replace ht := Rep.ext ht ew2
 replace ha := Rep.ext ha ew2
 replace hk := hk.ext ew2
 replace hs := Rep.ext hs ew2
 replace has := Rep.ext has ew2
 replace hks := hks.ext ew2
 replace h1 := h1.ext ew2
 replace hlow := hlow.ext ew2
 replace hB := ew2.z hB
 refine l_p 1 tK rfl (q1 (c_seq (q0 (l_p 1 tK rfl ?_))))
 refine lC (o_ld tK (h1.cell 0 _ rfl) rfl rfl rfl rfl rfl ?_)
 refine l_p 1 tK rfl ?_
 refine lC (o_ld tK (h2.cell 0 _ rfl) rfl rfl rfl rfl rfl ?_)
 refine l_p 2 tK rfl ?_
 refine l_splitN 11 _ rfl (fun c1 => ?_) (fun c1 => ?_)
 ·refine l_p 44 tK rfl (q1 (c_ifT rfl (q0 (l_p 1 tK rfl (q1 (c_ret (x_seqR (x_ret1 rfl rfl ?_))))))))
  exact ⟨by rw [cl_false (fun e => by subst e; clear ih; first | simp_all | (rw [cl_true rfl] at *; simp_all))], hE⟩
 refine l_p 1 tK rfl ?_
 refine lC (o_ld tK (h1.cell 1 _ rfl) rfl rfl rfl rfl rfl ?_)
 refine l_p 1 tK rfl ?_
 refine lC (o_ld tK (h2.cell 1 _ rfl) rfl rfl rfl rfl rfl ?_)
 refine l_p 3 tK rfl ?_
 refine l_splitN 18 _ rfl (fun c2 => ?_) (fun c2 => ?_)
 ·refine l_p 37 tK rfl (q1 (c_ifT rfl (q0 (l_p 1 tK rfl (q1 (c_ret (x_seqR (x_ret1 rfl rfl ?_))))))))
  exact ⟨by rw [cl_false (fun e => by subst e; clear ih; first | simp_all | (rw [cl_true rfl] at *; simp_all))], hE⟩
 refine l_p 1 tK rfl ?_
 refine lC (o_ld tK (h1.cell 2 _ rfl) rfl rfl rfl rfl rfl ?_)
 refine l_p 1 tK rfl ?_
 refine lC (o_ld tK (h2.cell 2 _ rfl) rfl rfl rfl rfl rfl ?_)
 refine l_p 3 tK rfl ?_
 refine l_splitN 25 _ rfl (fun c3 => ?_) (fun c3 => ?_)
 ·refine l_p 30 tK rfl (q1 (c_ifT rfl (q0 (l_p 1 tK rfl (q1 (c_ret (x_seqR (x_ret1 rfl rfl ?_))))))))
  exact ⟨by rw [cl_false (fun e => by subst e; clear ih; first | simp_all | (rw [cl_true rfl] at *; simp_all))], hE⟩
 refine l_p 1 tK rfl ?_
 refine lC (o_ld tK (h1.cell 3 _ rfl) rfl rfl rfl rfl rfl ?_)
 refine l_p 1 tK rfl ?_
 refine lC (o_ld tK (h2.cell 3 _ rfl) rfl rfl rfl rfl rfl ?_)
 refine l_p 3 tK rfl ?_
 refine l_splitN 32 _ rfl (fun c4 => ?_) (fun c4 => ?_)
 ·refine l_p 23 tK rfl (q1 (c_ifT rfl (q0 (l_p 1 tK rfl (q1 (c_ret (x_seqR (x_ret1 rfl rfl ?_))))))))
  exact ⟨by rw [cl_false (fun e => by subst e; clear ih; first | simp_all | (rw [cl_true rfl] at *; simp_all))], hE⟩
 refine l_p 1 tK rfl ?_
 refine lC (o_ld tK (h1.cell 4 _ rfl) rfl rfl rfl rfl rfl ?_)
 refine l_p 1 tK rfl ?_
 refine lC (o_ld tK (h2.cell 4 _ rfl) rfl rfl rfl rfl rfl ?_)
 refine lC (o_bne tK rfl rfl rfl rfl rfl rfl ?_)
 refine l_p 2 tK rfl ?_
 refine l_split 39 _ rfl (fun c5 => ?_) (fun c5 => ?_)
 ·refine l_p 16 tK rfl (q1 (c_ifT rfl (q0 (l_p 1 tK rfl (q1 (c_ret (x_seqR (x_ret1 rfl rfl ?_))))))))
  exact ⟨by rw [cl_false (fun e => by subst e; clear ih; first | simp_all | (rw [cl_true rfl] at *; simp_all))], hE⟩
 refine l_p 1 tK rfl ?_
 refine lC (o_lds tK (fun j v hv => (h1).mid 5 (sub := [.int .u8 t.ann.op, .string t.ann.name, .int .i64 t.ann.n, akv]) rfl j v hv) rfl rfl rfl rfl rfl rfl ?_)
 refine l_p 1 tK rfl ?_
 refine lC (o_lds tK (fun j v hv => (h2).mid 5 (sub := [.int .u8 s.ann.op, .string s.ann.name, .int .i64 s.ann.n, akvs]) rfl j v hv) rfl rfl rfl rfl rfl rfl ?_)
 refine lC (o_call fo31 rfl rfl rfl (alike_spec _ _ M _ _ _ ha has hlow) ?_)
 rintro _ w3 ⟨rfl, ew3⟩
 replace hE := ew3.bl hE hB
 replace ht := Rep.ext ht ew3
 replace ha := Rep.ext ha ew3
 replace hk := hk.ext ew3
 replace hs := Rep.ext hs ew3
 replace has := Rep.ext has ew3
 replace hks := hks.ext ew3
 replace h1 := h1.ext ew3
 replace h2 := h2.ext ew3
 replace hlow := hlow.ext ew3
 replace hB := ew3.z hB
 refine l_p 3 tK rfl ?_
 refine l_splitB 47 _ rfl (fun c6 => ?_) (fun c6 => ?_)
 ·refine l_p 8 tK rfl (q1 (c_ifT rfl (q0 (l_p 1 tK rfl (q1 (c_ret (x_seqR (x_ret1 rfl rfl ?_))))))))
  exact ⟨by rw [cl_false (fun e => by subst e; clear ih; first | simp_all | (rw [cl_true rfl] at *; simp_all))], hE⟩
 refine l_p 1 tK rfl ?_
 refine lC (o_ld tK (h1.cell 9 _ rfl) rfl rfl rfl rfl rfl ?_)
 refine lC (o_len tK hk rfl rfl rfl rfl rfl ?_)
 refine l_p 1 tK rfl ?_
 refine lC (o_ld tK (h2.cell 9 _ rfl) rfl rfl rfl rfl rfl ?_)
 refine lC (o_len tK hks rfl rfl rfl rfl rfl ?_)
 refine l_p 2 tK rfl (q1 ?_)
 refine c_ifN _ rfl (fun c7 => ?_) (fun c7 => ?_)
 ·refine q0 (l_p 1 tK rfl (q1 (c_ret (x_seqR (x_ret1 rfl rfl ?_)))))
  exact ⟨by rw [cl_false (fun e => by subst e; clear ih; first | simp_all | (rw [cl_true rfl] at *; simp_all))], hE⟩
 refine c_skip (x_seq (c_seq (q0 (l_p 1 tK rfl (q1 (c_blk ?_))))))
 have hop : t.op = s.op := by assumption
 have hnm : t.name = s.name := by assumption
 have hag : t.arg = s.arg := by assumption
 have hnn : t.n = s.n := by assumption
 have hhs : t.has = s.has := by clear ih; simp_all
 have han : t.ann = s.ann := cl_of (by clear ih; simp_all)
 have hll : t.kids.length = s.kids.length := by omega
 refine c_loop (X := Nat) (fun i => [(2, .pointer (some ⟨b1, 0, none⟩)), (3, .pointer (some ⟨b2, 0, none⟩)), (5, .int .i64 (i : Nat))]) (fun i w' => i ≤ t.kids.length ∧ t.kids.take i = s.kids.take i ∧ At M w' b1 0 [.int .u8 t.op, .string t.name, .string t.arg, .int .i64 t.n, .bool t.has, .int .u8 t.ann.op, .string t.ann.name, .int .i64 t.ann.n, akv, kv] ∧ At M w' b2 0 [.int .u8 s.op, .string s.name, .string s.arg, .int .i64 s.n, .bool s.has, .int .u8 s.ann.op, .string s.ann.name, .int .i64 s.ann.n, akvs, kvs] ∧ Sl M w' kv t.kids ∧ Sl M w' kvs s.kids ∧ Low M w' ∧ Below w.heap.size w w' ∧ w.heap.size ≤ w'.heap.size) (fun i => t.kids.length - i) (0) (s3 rfl rfl rfl) ?_ ?_
 ·exact ⟨Nat.zero_le _, rfl, h1, h2, hk, hks, hlow, hE, hB⟩
 clear h1 h2 ht hs ha has hk hks hlow hE hB
 rintro i w4 ⟨hi, htake, h1, h2, hk, hks, hlow, hE, hB⟩
 refine c_seq (q0 (l_p 2 tK rfl ?_))
 refine lC (o_ld tK (h1.cell 9 _ rfl) rfl rfl rfl rfl rfl ?_)
 refine lC (o_len tK hk rfl rfl rfl rfl rfl ?_)
 refine l_p 1 tK rfl (q1 ?_)
 refine c_ifP _ rfl (fun c8 => ?_) (fun c8 => ?_)
 ·refine c_skip (x_seq (c_seq (c_blk (c_seq ?_))))
  refine a_beg Ext rfl ?_
  intro w5 ew5
  replace hE := ew5.bl hE hB
  replace h1 := h1.ext ew5
  replace h2 := h2.ext ew5
  replace hk := hk.ext ew5
  replace hks := hks.ext ew5
  replace hlow := hlow.ext ew5
  replace hB := ew5.z hB
  have hS : Ext w5 w5 := ext_refl _
  have D_h1 := h1
  have D_h2 := h2
  have D_hk := hk
  have D_hks := hks
  refine a_p 0 tK rfl rfl rfl rfl (by kernel_rfl) (fun _ _ _ h => h) hS ?_
  refine a_ld 1 tK (fun _ hs => (D_h1.ext hs).cell 9 _ rfl) rfl rfl rfl rfl rfl rfl (by kernel_rfl) (fun _ _ _ h => h) hS ?_
  refine a_p 2 tK rfl rfl rfl rfl (by kernel_rfl) (fun _ _ _ h => h) hS ?_
  have hik : i < t.kids.length := by omega
  have hiks : i < s.kids.length := by omega
  refine a_ixS 3 tK D_hk (List.getElem?_eq_getElem hik) rfl rfl rfl rfl rfl rfl rfl rfl rfl rfl (by kernel_rfl) (fun _ _ _ _ h => h) hS ?_
  intro ebx eox eux hyx hatx
  obtain ⟨akvx, kvx, rfl, opx, nmx, agx, n64x, hax, hkx⟩ := tm_open hyx
  replace hatx : At M w5 ebx eox [.int .u8 t.kids[i].op, .string t.kids[i].name, .string t.kids[i].arg, .int .i64 t.kids[i].n, .bool t.kids[i].has, .int .u8 t.kids[i].ann.op, .string t.kids[i].ann.name, .int .i64 t.kids[i].ann.n, akvx, kvx] := hatx
  refine a_lds 4 tK (fun _ hs j v hv => (hatx.ext hs).cell j v hv) rfl rfl rfl rfl rfl rfl rfl (by kernel_rfl) (fun _ _ _ h => h) hS ?_
  refine a_p 5 tK rfl rfl rfl rfl (by kernel_rfl) (fun _ _ _ h => h) hS ?_
  refine a_ld 6 tK (fun _ hs => (D_h2.ext hs).cell 9 _ rfl) rfl rfl rfl rfl rfl rfl (by kernel_rfl) (fun _ _ _ h => h) hS ?_
  refine a_p 7 tK rfl rfl rfl rfl (by kernel_rfl) (fun _ _ _ h => h) hS ?_
  refine a_ixS 8 tK D_hks (List.getElem?_eq_getElem hiks) rfl rfl rfl rfl rfl rfl rfl rfl rfl rfl (by kernel_rfl) (fun _ _ _ _ h => h) hS ?_
  intro eby eoy euy hyy haty
  obtain ⟨akvy, kvy, rfl, opy, nmy, agy, n64y, hay, hky⟩ := tm_open hyy
  replace haty : At M w5 eby eoy [.int .u8 s.kids[i].op, .string s.kids[i].name, .string s.kids[i].arg, .int .i64 s.kids[i].n, .bool s.kids[i].has, .int .u8 s.kids[i].ann.op, .string s.kids[i].ann.name, .int .i64 s.kids[i].ann.n, akvy, kvy] := haty
  refine a_lds 9 tK (fun _ hs j v hv => (haty.ext hs).cell j v hv) rfl rfl rfl rfl rfl rfl rfl (by kernel_rfl) (fun _ _ _ h => h) hS ?_
  refine a_bar 10 rfl (by kernel_rfl) (by kernel_rfl) (o_call fo15 rfl rfl rfl (ih _ (List.getElem_mem hik) _ _ _ _ _ hyx hyy hlow) ?_)
  rintro _ w6 ⟨rfl, ew6⟩
  replace hS := hS.then ew6
  replace hE := ew6.bl hE hB
  replace h1 := h1.ext ew6
  replace h2 := h2.ext ew6
  replace hk := hk.ext ew6
  replace hks := hks.ext ew6
  replace hyx := Rep.ext hyx ew6
  replace hax := Rep.ext hax ew6
  replace hkx := hkx.ext ew6
  replace hatx := hatx.ext ew6
  replace hyy := Rep.ext hyy ew6
  replace hay := Rep.ext hay ew6
  replace hky := hky.ext ew6
  replace haty := haty.ext ew6
  replace hlow := hlow.ext ew6
  replace hB := ew6.z hB
  refine a_p 11 tK rfl rfl rfl rfl (by kernel_rfl) (fun _ _ _ h => h) hS ?_
  refine a_end (by kernel_rfl) ?_
  refine x_seq ?_
  refine c_ifB _ rfl (fun c9 => ?_) (fun c9 => ?_)
  ·refine q0 (l_p 1 tK rfl (q1 (c_ret (x_blkR (x_seqR (x_seqR (x_blkR (x_seqR (x_ret1 rfl rfl ?_)))))))))
   exact ⟨by rw [cl_false (fun e => by subst e; exact absurd rfl (cl_not c9))], hE⟩
  refine c_skip (x_blk (x_seq (c_reg (l_p 1 tK rfl ?_))))
  refine lC (o_ai rfl rfl rfl (by omega) rfl rfl ?_)
  refine l_p 1 tK rfl (l_nil ?_)
  exact x_round (i + 1) (s3 rfl rfl rfl) ⟨by omega, takeM_same hik hiks htake (cl_of (by simpa using c9)), h1, h2, hk, hks, hlow, hE, hB⟩ (by omega)
 refine c_exit (x_seqE (x_seqE (x_blkE (x_seq (q0 (l_p 1 tK rfl (q1 (c_ret (x_ret1 rfl rfl ?_)))))))))
 exact ⟨by rw [cl_true (Tm.ext' hop hnm hag hnn hhs han (takeM_full (by omega) hll htake))], hE⟩
end Go.Proofs.YtohfnpmehgpphaaGreat
namespace Go.Proofs.YtohfnpmehgpphaaGreat
open Go Rw Go.RowKit
set_option maxRecDepth 100000
def aszTo (t : Tm) (i : Nat) : Nat := (((nodesL t).take i).map fun x => psz x.ann).sum
theorem aszTo_all {t : Tm} : aszTo t (nsz t) = asz t := by
 unfold aszTo asz
 rw [List.take_of_length_le (show (nodesL t).length ≤ nsz t from Nat.le_refl _)]
theorem aszTo_step {t : Tm} {i : Nat} (h : i < (nodesL t).length) : aszTo t (i + 1) = aszTo t i + psz (nodesL t)[i].ann := by
 unfold aszTo
 rw [List.take_succ_eq_append_getElem h, List.map_append, List.sum_append]
 simp
theorem aszTo_le (t : Tm) (i : Nat) : aszTo t i ≤ asz t := by
 have h : asz t = aszTo t i + (((nodesL t).drop i).map fun x => psz x.ann).sum := by
  unfold asz aszTo
  rw [← List.sum_append, ← List.map_append, List.take_append_drop]
 omega
theorem nodes_spec : ∀ (t : Tm) (M : Nat → Prop) (w : World) (v : Value), Rep.R M w v t → Low M w → nsz t ≤ 2000000 → Calls Tryz.prog 8 #[v] w (Ret fun r w' => Sl M w' r (nodesL t) ∧ Ext w w') := by
 refine Tm.ind fun t ih => ?_
 intro M w v ht hlow0 hsz
 have hlow := hlow0
 have hB : w.heap.size ≤ w.heap.size := Nat.le_refl _
 have hE : Below w.heap.size w w := Below.refl _ _
 have hsub : ∀ b, M b → M b := fun _ h => h
 obtain ⟨akv, kv, rfl, op, nm, ag, n64, ha, hk⟩ := tm_open ht
 have hps := nsz_eq t
 have hkl := len_nsz t.kids
 refine c_enter (n := 23) Tryz.func8 rfl rfl rfl ?_
 refine q0 ?_
 refine lC (o_box rfl rfl rfl ?_)
 intro b1 w1 hb_b1 ew1 h1
 replace h1 : Box _ b1 28 [.int .u8 t.op, .string t.name, .string t.arg, .int .i64 t.n, .bool t.has, .int .u8 t.ann.op, .string t.ann.name, .int .i64 t.ann.n, akv, kv] := h1
 replace h1 := h1.at (nM_of hlow hb_b1)
 replace hE := ew1.bl hE hB
 replace ht := Rep.ext ht ew1
 replace ha := Rep.ext ha ew1
 replace hk := hk.ext ew1
 replace hlow := hlow.ext ew1
 replace hB := ew1.z hB
 refine l_p 1 tK rfl (q1 (q0 ?_))
 refine lC (o_lds tK (fun j v hv => h1.cell j v hv) rfl rfl rfl rfl rfl rfl ?_)
 refine lC (o_bs tK rfl rfl rfl rfl rfl rfl rfl (sz1 rfl) rfl rfl rfl ?_)
 intro bw2 w2 qbw2 ew2 hbw2
 have sw2 := Stp.add ew2 hlow hB (Nat.le_of_eq qbw2.symm) hbw2.lt
 have le_bw2 := hB
 replace hE := hE.trans sw2.below
 replace ht := Rep.stp ht sw2
 replace ha := Rep.stp ha sw2
 replace hk := hk.stp sw2
 replace h1 := h1.stp sw2
 replace hsub := sw2.sb hsub
 replace hlow := sw2.low
 replace hB := sw2.z hB
 have ho := own_litS sw2 hbw2 (show Rs _ _ [_] [t] from ⟨ht, trivial⟩) qbw2 le_bw2 (by simp [maxLen])
 refine l_p 1 tK rfl (q1 (c_seq (q0 (l_p 1 tK rfl (q1 (c_blk ?_))))))
 refine c_loop3 (X := Nat) (Y := Value) (Z := Nat → Prop) (fun i v M1 => [(1, .pointer (some ⟨b1, 0, none⟩)), (3, v), (4, .int .i64 (i : Nat))]) (fun i v M1 w' => i ≤ t.kids.length ∧ OwnSl 28 w.heap.size M1 w' v (t :: (t.kids.take i).flatMap nodesL) ∧ At M1 w' b1 0 [.int .u8 t.op, .string t.name, .string t.arg, .int .i64 t.n, .bool t.has, .int .u8 t.ann.op, .string t.ann.name, .int .i64 t.ann.n, akv, kv] ∧ Sl M1 w' kv t.kids ∧ Low M1 w' ∧ (∀ b, M b → M1 b) ∧ Below w.heap.size w w' ∧ w.heap.size ≤ w'.heap.size) (fun i v M1 => t.kids.length - i) (0) (.slice (some ⟨bw2, 0, none⟩) 1 1) ((Rw.Add M bw2)) (s3 rfl rfl rfl) ?_ ?_
 ·exact ⟨Nat.zero_le _, ho, h1, hk, hlow, hsub, hE, hB⟩
 clear ho h1 ht ha hk hlow hsub hE hB
 rintro i v M1 w3 ⟨hi, ho, h1, hk, hlow, hsub, hE, hB⟩
 refine c_seq (q0 (l_p 2 tK rfl ?_))
 refine lC (o_ld tK (h1.cell 9 _ rfl) rfl rfl rfl rfl rfl ?_)
 refine lC (o_len tK hk rfl rfl rfl rfl rfl ?_)
 refine l_p 1 tK rfl (q1 ?_)
 refine c_ifP _ rfl (fun c1 => ?_) (fun c1 => ?_)
 ·refine c_skip (x_seq (c_seq (c_blk (c_reg (l_p 2 tK rfl ?_)))))
  refine lC (o_ld tK (h1.cell 9 _ rfl) rfl rfl rfl rfl rfl ?_)
  refine l_p 1 tK rfl ?_
  have hik : i < t.kids.length := by omega
  have hp1 := nsz_get hik
  have hp2 := take_nsz t.kids i
  refine lC (o_ixS tK hk (List.getElem?_eq_getElem hik) rfl rfl rfl rfl rfl rfl rfl rfl rfl ?_)
  intro ebx eox eux hyx hatx
  obtain ⟨akvx, kvx, rfl, opx, nmx, agx, n64x, hax, hkx⟩ := tm_open hyx
  replace hatx : At M1 w3 ebx eox [.int .u8 t.kids[i].op, .string t.kids[i].name, .string t.kids[i].arg, .int .i64 t.kids[i].n, .bool t.kids[i].has, .int .u8 t.kids[i].ann.op, .string t.kids[i].ann.name, .int .i64 t.kids[i].ann.n, akvx, kvx] := hatx
  refine lC (o_lds tK (fun j v hv => hatx.cell j v hv) rfl rfl rfl rfl rfl rfl ?_)
  refine lC (o_call fo8 rfl rfl rfl (ih _ (List.getElem_mem hik) _ _ _ hyx hlow (by omega)) ?_)
  rintro vhr w4 ⟨hr, ew4⟩
  replace ho := ho.ext hlow hB ew4
  replace hE := ew4.bl hE hB
  replace h1 := h1.ext ew4
  replace hk := hk.ext ew4
  replace hyx := Rep.ext hyx ew4
  replace hax := Rep.ext hax ew4
  replace hkx := hkx.ext ew4
  replace hatx := hatx.ext ew4
  replace hlow := hlow.ext ew4
  replace hB := ew4.z hB
  have e1 : (t :: (t.kids.take i).flatMap nodesL).length = nszs (t.kids.take i) + 1 := rfl
  have e2 : (nodesL t.kids[i]).length = nsz t.kids[i] := rfl
  have e3 := take_nsz t.kids (i + 1)
  rw [nszs_take hik] at e3
  refine lC (o_app tK ho hr hlow hB rfl rfl rfl rfl rfl rfl rfl (by omega) (by rw [e1, e2]; show _ * 136 ≤ _; omega) rfl rfl ?_)
  intro vw5 w5 Mw5 hw5 sw5 frw5 blw5
  replace hE := hE.trans sw5.below
  replace h1 := h1.stp sw5
  replace hk := hk.stp sw5
  replace hyx := Rep.stp hyx sw5
  replace hax := Rep.stp hax sw5
  replace hkx := hkx.stp sw5
  replace hatx := hatx.stp sw5
  replace hr := hr.stp sw5
  replace hsub := sw5.sb hsub
  replace hlow := sw5.low
  replace hB := sw5.z hB
  replace ho := hw5
  clear hw5
  refine l_p 1 tK rfl (q2 (x_seq (c_reg (l_p 1 tK rfl ?_))))
  refine lC (o_ai rfl rfl rfl (by omega) rfl rfl ?_)
  refine l_p 1 tK rfl (l_nil ?_)
  exact x_round3 (i + 1) (vw5) (Mw5) (s3 rfl rfl rfl) ⟨by omega, by rw [ntake_step hik]; exact ho, h1, hk, hlow, hsub, hE, hB⟩ (by omega)
 refine c_exit (x_seqE (x_seqE (x_blkE (x_seq (q0 (l_p 2 tK rfl (q1 (c_ret (x_ret1 rfl rfl ?_)))))))))
 obtain rfl : i = t.kids.length := by omega
 rw [List.take_of_length_le (Nat.le_refl _), ← nodesL_eq] at ho
 exact ⟨ho.sl (by have : (nodesL t).length = nsz t := rfl; omega) hlow0 hsub, hE⟩
theorem many5_spec (t : Tm) (M : Nat → Prop) (w : World) (v : Value) (ht : Rep.R M w v t) (hlow : Low M w) (hz : AnnS t) (hn : nsz t ≤ 2000000) (has : asz t ≤ 2000000) :
  Calls Tryz.prog 7 #[v] w (Ret fun r w' => r = .bool (decide ((300 : Int) < (nsz t : Int)) || decide ((900 : Int) < (asz t : Int))) ∧ Ext w w') := by
 have hE : Below w.heap.size w w := Below.refl _ _
 have hB : w.heap.size ≤ w.heap.size := Nat.le_refl _
 obtain ⟨akv, kv, rfl, op, nm, ag, n64, ha, hk⟩ := tm_open ht
 refine c_enter (n := 30) Tryz.func7 rfl rfl rfl ?_
 refine q0 ?_
 refine lC (o_box rfl rfl rfl ?_)
 intro b3 w1 hb_b3 ew1 h3
 replace h3 : Box _ b3 28 [.int .u8 t.op, .string t.name, .string t.arg, .int .i64 t.n, .bool t.has, .int .u8 t.ann.op, .string t.ann.name, .int .i64 t.ann.n, akv, kv] := h3
 replace h3 := h3.at (nM_of hlow hb_b3)
 replace hE := ew1.bl hE hB
 replace ht := Rep.ext ht ew1
 replace ha := Rep.ext ha ew1
 replace hk := hk.ext ew1
 replace hlow := hlow.ext ew1
 replace hB := ew1.z hB
 refine l_p 1 tK rfl (q1 (q0 ?_))
 refine lC (o_lds tK (fun j v hv => h3.cell j v hv) rfl rfl rfl rfl rfl rfl ?_)
 refine lC (o_call fo8 rfl rfl rfl (nodes_spec t M _ _ ht hlow hn) ?_)
 rintro vhl w2 ⟨hl, ew2⟩
 replace hE := ew2.bl hE hB
 replace ht := Rep.ext ht ew2
 replace ha := Rep.ext ha ew2
 replace hk := hk.ext ew2
 replace h3 := h3.ext ew2
 replace hlow := hlow.ext ew2
 replace hB := ew2.z hB
 have hll : (nodesL t).length = nsz t := rfl
 refine l_p 1 tK rfl (q1 (q0 (l_p 1 tK rfl (q1 (c_seq (q0 (l_p 1 tK rfl (q1 (c_blk ?_)))))))))
 refine c_loop (X := Nat) (fun i => [(3, vhl), (4, .int .i64 (aszTo t i : Nat)), (5, .int .i64 (i : Nat))]) (fun i w' => i ≤ nsz t ∧ Sl M w' vhl (nodesL t) ∧ Low M w' ∧ Below w.heap.size w w' ∧ w.heap.size ≤ w'.heap.size) (fun i => nsz t - i) (0) (s3 rfl rfl rfl) ?_ ?_
 ·exact ⟨Nat.zero_le _, hl, hlow, hE, hB⟩
 clear hl h3 ht ha hk hlow hE hB
 rintro i w3 ⟨hi, hl, hlow, hE, hB⟩
 have hat := aszTo_le t i
 refine c_seq (q0 (l_p 2 tK rfl ?_))
 refine lC (o_len tK hl rfl rfl rfl rfl rfl ?_)
 refine l_p 1 tK rfl (q1 ?_)
 refine c_ifP _ rfl (fun c1 => ?_) (fun c1 => ?_)
 ·refine c_skip (x_seq (c_seq (c_blk (c_reg (l_p 3 tK rfl ?_)))))
  have hik : i < (nodesL t).length := by omega
  have hpa := hz _ (List.getElem_mem hik)
  have hst := aszTo_step hik
  have hat2 := aszTo_le t (i + 1)
  refine lC (o_ixS tK hl (List.getElem?_eq_getElem hik) rfl rfl rfl rfl rfl rfl rfl rfl rfl ?_)
  intro ebx eox eux hyx hatx
  obtain ⟨akvx, kvx, rfl, opx, nmx, agx, n64x, hax, hkx⟩ := tm_open hyx
  replace hatx : At M w3 ebx eox [.int .u8 (nodesL t)[i].op, .string (nodesL t)[i].name, .string (nodesL t)[i].arg, .int .i64 (nodesL t)[i].n, .bool (nodesL t)[i].has, .int .u8 (nodesL t)[i].ann.op, .string (nodesL t)[i].ann.name, .int .i64 (nodesL t)[i].ann.n, akvx, kvx] := hatx
  refine l_p 1 tK rfl ?_
  refine lC (o_lds tK (fun j v hv => (hatx).mid 5 (sub := [.int .u8 (nodesL t)[i].ann.op, .string (nodesL t)[i].ann.name, .int .i64 (nodesL t)[i].ann.n, akvx]) rfl j v hv) rfl rfl rfl rfl rfl rfl ?_)
  refine lC (o_call fo25 rfl rfl rfl (parts_spec _ M _ _ hax hlow hpa) ?_)
  rintro vhpt w4 ⟨hpt, ew4⟩
  replace hE := ew4.bl hE hB
  replace hl := hl.ext ew4
  replace hyx := Rep.ext hyx ew4
  replace hax := Rep.ext hax ew4
  replace hkx := hkx.ext ew4
  replace hatx := hatx.ext ew4
  replace hlow := hlow.ext ew4
  replace hB := ew4.z hB
  have hpl : (partsL (nodesL t)[i].ann).length = psz (nodesL t)[i].ann := rfl
  refine lC (o_len tK hpt rfl rfl rfl rfl rfl ?_)
  refine lC (o_ai rfl rfl rfl (by omega) rfl rfl ?_)
  refine l_p 1 tK rfl (q2 (x_seq (c_reg (l_p 1 tK rfl ?_))))
  refine lC (o_ai rfl rfl rfl (by omega) rfl rfl ?_)
  refine l_p 1 tK rfl (l_nil ?_)
  exact x_round (i + 1) (s3 rfl (get_num rfl (by rw [aszTo_step hik]; rfl)) (get_num rfl (by omega))) ⟨by omega, hl, hlow, hE, hB⟩ (by omega)
 refine c_exit (x_seqE (x_seqE (x_blkE (x_seq (q0 (l_p 1 tK rfl ?_))))))
 refine lC (o_len tK hl rfl rfl rfl rfl rfl ?_)
 refine l_p 2 tK rfl ?_
 obtain rfl : i = nsz t := by omega
 rw [aszTo_all]
 refine l_splitP 26 _ rfl (fun c2 => ?_) (fun c2 => ?_)
 ·refine l_p 4 tK rfl (q1 (c_ret (x_ret1 rfl rfl ?_)))
  exact ⟨by rw [decide_eq_true (show (300 : Int) < (nsz t : Int) by omega)]; rfl, hE⟩
 refine l_p 4 tK rfl (q1 (c_ret (x_ret1 rfl rfl ?_)))
 exact ⟨by rw [decide_eq_false (show ¬ (300 : Int) < (nsz t : Int) by omega), Bool.false_or], hE⟩
end Go.Proofs.YtohfnpmehgpphaaGreat
namespace Rw
open Go Go.RowKit
theorem Ret.out {R : Value → World → Prop} {e : Ending} {w : World} (h : Ret R e w) : ∃ v, e = .returned v ∧ R v w := by
  cases e with
  | returned v => exact ⟨v, rfl, h⟩
  | _ => exact h.elim
/-! ## What the form's reach pays -/
end Rw
namespace Rw
open Go Go.RowKit
open Go.Proofs.YtohfnpmehgpphaaGreat.Rows (uptoBulk uptoBulkAll uptoSmall)
section
variable {H : Type}
theorem bulk_one (d : DataW H) : 1 ≤ uptoBulk d := by
  cases d with
  | lit l => cases l <;> simp [uptoBulk]
  | nil => simp [uptoBulk]
  | ptr d => simp [uptoBulk]
  | slice elems spare => simp [uptoBulk]
  | agg parts => simp [uptoBulk]
  | iface t d => simp [uptoBulk]
  | map entries => simp [uptoBulk]
  | held h => simp [uptoBulk]
theorem bulk_all : ∀ (l : List (DataW H)), uptoBulkAll l = (l.map uptoBulk).sum
  | [] => by simp [uptoBulkAll]
  | x :: r => by simp [uptoBulkAll, bulk_all r]
theorem bulk_str (l : List UInt8) : uptoBulk (DataW.lit (H := H) (.string l)) = l.length + 1 := by simp [uptoBulk]
theorem bulk_slice (l s : List (DataW H)) : uptoBulk (.slice l s) = uptoBulkAll l + uptoBulkAll s + 1 := by simp [uptoBulk]
theorem bulk_agg (l : List (DataW H)) : uptoBulk (.agg l) = uptoBulkAll l + 1 := by simp [uptoBulk]
theorem bulk_len (l : List (DataW H)) : l.length ≤ uptoBulkAll l := by
  induction l with
  | nil => simp
  | cons x r ih => have := bulk_one x; simp only [uptoBulkAll, List.length_cons]; omega
theorem bulk_mem {l : List (DataW H)} {d : DataW H} (h : d ∈ l) : uptoBulk d ≤ uptoBulkAll l := by
  induction l with
  | nil => cases h
  | cons x r ih =>
    simp only [uptoBulkAll]
    rcases List.mem_cons.1 h with e | e
    · subst e; omega
    · have := ih e; omega
theorem bulk_each {l : List (DataW H)} (h : uptoSmall H l = true) {j : Nat} {d : DataW H} (hd : l[j]? = some d) : uptoBulk d ≤ 1048576 := by
  have h1 : uptoBulkAll l ≤ 1048576 := by simpa [uptoSmall] using h
  exact Nat.le_trans (bulk_mem (List.mem_of_getElem? hd)) h1
/-- A type's readings, of bulk up to N, are things of α, of size at most that bulk. -/
structure OpensD (H : Type) {α : Type} [Rep α] (P : Program) (t : TypeId) (N : Nat) (sz : α → Nat) : Prop where
  cells : P.cellsOf t = Rep.sz α
  read : ∀ (enc : TypeId × Value → H) (w : World) (fuel : Nat) (cs : List Value) (d : DataW H) (ps : List MemPlace), DataW.trod enc P w 0 (fun _ => true) true fuel t cs = some (d, ps) → uptoBulk d ≤ N →
    ∃ (v : Value) (x : α), v.cells.toList = cs ∧ Rep.R NoM w v x ∧ sz x ≤ uptoBulk d
variable {P : Program}
theorem opensD_int {t : TypeId} (N : Nat) (ht : P.underlying t = some (.int .i64)) (hc : P.cellsOf t = 1) : OpensD H (α := Int) P t N (fun _ => 1) := by
  refine ⟨hc, fun enc w fuel cs d ps h _ => ?_⟩
  obtain ⟨n, rfl, _, hw⟩ := DataW.trod_int ht h
  refine ⟨.int .i64 n, n, rfl, ⟨rfl, ?_⟩, bulk_one d⟩
  have : -9223372036854775808 ≤ n ∧ n ≤ 9223372036854775807 := by simpa [Lit.wf, IntKind.min, IntKind.max, IntKind.signed, IntKind.bits] using hw
  exact this
theorem opensD_string {t : TypeId} (N : Nat) (hN : N < 140737488355328) (ht : P.underlying t = some .string) (hc : P.cellsOf t = 1) : OpensD H (α := ByteArray) P t N (fun s => 1 + s.size) := by
  refine ⟨hc, fun enc w fuel cs d ps h hQ => ?_⟩
  obtain ⟨s, rfl, hx, _⟩ := DataW.trod_string ht h
  cases hx
  rw [bulk_str] at hQ ⊢
  have e : s.data.toList.length = s.size := by simp
  exact ⟨.string s, s, rfl, ⟨rfl, by omega⟩, by omega⟩
theorem sum_le {α : Type} (f g : α → Nat) : ∀ (l : List α), (∀ x ∈ l, f x ≤ g x) → (l.map f).sum ≤ (l.map g).sum
  | [], _ => by simp
  | x :: l, h => by
    have := sum_le f g l (fun y hy => h y (List.mem_cons_of_mem _ hy))
    have := h x List.mem_cons_self
    simp only [List.map_cons, List.sum_cons]; omega
theorem opensD_slice {α : Type} [Rep α] {sz : α → Nat} {t e : TypeId} (N : Nat) (hN : N < 140737488355328) (ht : P.underlying t = some (.slice e)) (hc : P.cellsOf t = 1) (he : OpensD H P e (N - 1) sz) : OpensD H (α := List α) P t N (fun l => 1 + (l.map sz).sum) := by
  refine ⟨hc, fun enc w fuel cs d ps h hQ => ?_⟩
  rcases Go.Deep.open_slice ht h with ⟨rfl, _⟩ | ⟨a, len, cap, m, n, D, Pl, rfl, _, hl, _, hm, hx, hel⟩
  · exact ⟨.slice none 0 0, [], rfl, sl_nil, by have := bulk_one d; simpa using this⟩
  · have hm' : m = cap := by simpa using hm
    subst hm'
    have hd : d = .slice ((List.range len).map D) ((List.range (m - len)).map fun j => D (len + j)) := congrArg Prod.fst hx
    subst hd
    rw [bulk_slice] at hQ ⊢
    have hlen := bulk_len ((List.range len).map D)
    rw [List.length_map, List.length_range] at hlen
    have hlen' : len < 140737488355328 := by omega
    rw [he.cells] at hel
    have each : ∀ i : Fin len, ∃ y : Value × α, w.cells? 0 (a.add (i.1 * Rep.sz α)) (Rep.sz α) = some y.1.cells.toList ∧ Rep.R NoM w y.1 y.2 ∧ sz y.2 ≤ uptoBulk (D i.1) := by
      intro i
      obtain ⟨cs', h1, h2⟩ := hel i.1 (Nat.lt_of_lt_of_le i.2 hl)
      have hi : uptoBulk (D i.1) ≤ uptoBulkAll ((List.range len).map D) := bulk_mem (List.mem_map.2 ⟨i.1, List.mem_range.2 i.2, rfl⟩)
      obtain ⟨v, x, hv, hR, hp⟩ := he.read enc w n cs' _ _ h2 (by omega)
      exact ⟨(v, x), by rw [hv]; exact h1, hR, hp⟩
    obtain ⟨f, hf⟩ := Classical.axiomOfChoice each
    refine ⟨.slice (some a) len m, List.ofFn fun i => (f i).2, rfl, ⟨some a, m, by simp, by simpa using hlen', by simpa using hl, ?_⟩, ?_⟩
    · by_cases h0 : len = 0
      · subst h0; left; simp
      · right
        have hpos : 0 < Rep.sz α := Rep.pos
        obtain ⟨_, _, hc0⟩ := World.cells?_some (hf ⟨0, by omega⟩).1
        have hc00 := hc0 0 hpos
        have hlen0 := Rep.size (hf ⟨0, by omega⟩).2.1
        obtain ⟨b, off, spot⟩ := a
        have hsome : ∃ v, w.cell? ⟨b, off, spot⟩ = some v := by
          have e1 : (Addr.add ⟨b, off, spot⟩ (0 * Rep.sz α)).add 0 = ⟨b, off, spot⟩ := by simp [Addr.add]
          rw [e1] at hc00
          refine ⟨_, hc00.trans (List.getElem?_eq_getElem (by simpa [hlen0] using hpos))⟩
        obtain ⟨v0, hv0⟩ := hsome
        have hsp : spot = none := by
          cases spot with
          | none => rfl
          | some s => simp [World.cell?] at hv0; split at hv0 <;> simp at hv0
        subst hsp
        have hb : b < w.heap.size := by
          rcases Nat.lt_or_ge b w.heap.size with h | h
          · exact h
          · simp [World.cell?, Array.getElem?_eq_none h] at hv0
        refine ⟨b, off, rfl, fun i x hi => ?_⟩
        have hi' : i < len := by
          have := (List.getElem?_eq_some_iff.1 hi).1
          simpa using this
        have hxe : x = (f ⟨i, hi'⟩).2 := by
          rw [List.getElem?_ofFn, dif_pos hi'] at hi
          simpa using hi.symm
        subst hxe
        refine ⟨(f ⟨i, hi'⟩).1, (hf ⟨i, hi'⟩).2.1, hb, fun h => h.elim, fun j c hj => ?_⟩
        obtain ⟨_, hl2, hc2⟩ := World.cells?_some (hf ⟨i, hi'⟩).1
        have hj' : j < Rep.sz α := by rw [← hl2]; exact (List.getElem?_eq_some_iff.1 hj).1
        have := hc2 j hj'
        rw [addr_add, addr_add, hj] at this
        exact this
    · rw [bulk_all, List.map_map]
      have e1 : (List.range len).map (uptoBulk ∘ D) = List.ofFn fun i : Fin len => uptoBulk (D i.1) := by
        apply List.ext_getElem
        · simp
        · intro i h1 h2
          simp
      have e2 : (List.ofFn fun i => (f i).2).map sz = List.ofFn fun i : Fin len => sz (f i).2 := by rw [List.map_ofFn]; rfl
      rw [e1, e2]
      have key : ∀ (n : Nat) (g h : Fin n → Nat), (∀ i, g i ≤ h i) → (List.ofFn g).sum ≤ (List.ofFn h).sum := by
        intro n
        induction n with
        | zero => intro g h _; simp
        | succ n ih =>
          intro g h hgh
          rw [List.ofFn_succ, List.ofFn_succ, List.sum_cons, List.sum_cons]
          have := ih (fun i => g i.succ) (fun i => h i.succ) (fun i => hgh _)
          have := hgh 0
          omega
      have := key len _ _ (fun i => (hf i).2.2)
      omega
/-- A type's size: its parts and their names. -/
def tsz (t : Ty) : Nat := ((partsL t).map fun x => 1 + x.name.size).sum
theorem tsz_eq (t : Ty) : tsz t = 1 + t.name.size + (t.kids.map tsz).sum := by
  unfold tsz
  rw [partsL_eq, List.map_cons, List.sum_cons]
  congr 1
  induction t.kids with
  | nil => rfl
  | cons k r ih => rw [List.flatMap_cons, List.map_append, List.sum_append, ih, List.map_cons, List.sum_cons]
theorem psz_tsz (t : Ty) : psz t ≤ tsz t := by
  show (partsL t).length ≤ _
  unfold tsz
  induction partsL t with
  | nil => simp
  | cons k r ih => simp only [List.length_cons, List.map_cons, List.sum_cons]; omega
theorem opensD_ty {t tOp tStr tInt tSl : TypeId} {f0 f1 f2 f3 : Field} (ht : P.underlying t = some (.struct #[f0, f1, f2, f3])) (h0 : f0.offset = 0 ∧ f0.type = tOp) (h1 : f1.offset = 1 ∧ f1.type = tStr) (h2 : f2.offset = 2 ∧ f2.type = tInt) (h3 : f3.offset = 3 ∧ f3.type = tSl)
    (uOp : P.underlying tOp = some (.int .u8)) (cOp : P.cellsOf tOp = 1) (uStr : P.underlying tStr = some .string) (cStr : P.cellsOf tStr = 1) (uInt : P.underlying tInt = some (.int .i64)) (cInt : P.cellsOf tInt = 1) (uSl : P.underlying tSl = some (.slice t)) (cSl : P.cellsOf tSl = 1) (cT : P.cellsOf t = 4) :
    ∀ N, N < 140737488355328 → OpensD H (α := Ty) P t N tsz := by
  intro N
  induction N with
  | zero => exact fun _ => ⟨cT, fun enc w fuel cs d ps h hQ => by have := bulk_one d; omega⟩
  | succ N ih =>
    intro hN
    have ihS := opensD_slice (H := H) (P := P) (N + 1) hN uSl cSl (ih (by omega))
    refine ⟨cT, fun enc w fuel cs d ps h hQ => ?_⟩
    obtain ⟨xs, n, _, hx, hl, hxl, hf⟩ := DataW.trod_struct ht h
    cases hx
    rw [cT] at hl
    obtain ⟨c0, c1, c2, c3, rfl⟩ : ∃ c0 c1 c2 c3, cs = [c0, c1, c2, c3] := by
      rcases cs with _ | ⟨c0, _ | ⟨c1, _ | ⟨c2, _ | ⟨c3, _ | ⟨c4, r⟩⟩⟩⟩⟩ <;> simp at hl
      exact ⟨c0, c1, c2, c3, rfl⟩
    obtain ⟨x0, x1, x2, x3, rfl⟩ : ∃ x0 x1 x2 x3, xs = [x0, x1, x2, x3] := by
      rcases xs with _ | ⟨c0, _ | ⟨c1, _ | ⟨c2, _ | ⟨c3, _ | ⟨c4, r⟩⟩⟩⟩⟩ <;> simp at hxl
      exact ⟨c0, c1, c2, c3, rfl⟩
    have g0 := hf 0 f0 rfl
    have g1 := hf 1 f1 rfl
    have g2 := hf 2 f2 rfl
    have g3 := hf 3 f3 rfl
    rw [h0.1, h0.2, cOp] at g0
    rw [h1.1, h1.2, cStr] at g1
    rw [h2.1, h2.2, cInt] at g2
    rw [h3.1, h3.2, cSl] at g3
    simp only [List.drop_zero, List.drop_succ_cons, List.take_succ_cons, List.take_zero, List.getElem?_cons_zero, List.getElem?_cons_succ] at g0 g1 g2 g3
    rw [bulk_agg] at hQ ⊢
    simp only [List.map_cons, List.map_nil, uptoBulkAll] at hQ ⊢
    obtain ⟨op, e0, _, w0⟩ := DataW.trod_int uOp g0
    obtain ⟨v1, s, e1, r1, z1⟩ := (opensD_string (H := H) (P := P) (N + 1) hN uStr cStr).read enc w n _ _ _ g1 (by omega)
    obtain ⟨v2, m, e2, r2, _⟩ := (opensD_int (H := H) (P := P) (N + 1) uInt cInt).read enc w n _ _ _ g2 (by omega)
    obtain ⟨v3, l, e3, r3, z3⟩ := ihS.read enc w n _ _ _ g3 (by omega)
    obtain ⟨rfl, hs⟩ := r1
    obtain ⟨rfl, hm⟩ := r2
    have hop : 0 ≤ op ∧ op ≤ 255 := by simpa [Lit.wf, IntKind.min, IntKind.max, IntKind.signed, IntKind.bits] using w0
    have r3' : Sl NoM w v3 l := r3
    have e3' := r3'.cells
    refine ⟨.agg #[.int .u8 op, .string s, .int .i64 m, v3], .mk op s m l, ?_, ty_mk hop hs hm r3', ?_⟩
    · rw [e3'] at e3
      simp [Value.cells] at e0 e1 e2 e3 ⊢
      simp [*]
    · rw [tsz_eq]
      show 1 + s.size + (l.map tsz).sum ≤ _
      have := bulk_one x0.1
      have := bulk_one x2.1
      omega
theorem opensD_arg {α : Type} [Rep α] {sz : α → Nat} {t : TypeId} {N : Nat} (ho : OpensD H P t N sz) {enc : TypeId × Value → H} {w : World} {v : Value} {d : DataW H} {ps : List MemPlace}
    (h : DataW.Trod enc P w 0 (fun _ => true) true t v d ps) (hd : uptoBulk d ≤ N) : ∃ (u : Value) (x : α), u.cells = v.cells ∧ Rep.R NoM w u x ∧ sz x ≤ N := by
  obtain ⟨fuel, hf⟩ := h
  obtain ⟨u, x, hv, hR, hp⟩ := ho.read enc w fuel _ _ _ hf hd
  exact ⟨u, x, Array.toList_inj.1 hv, hR, by omega⟩
end
theorem agg_of {u : Value} {a : Array Value} (h : u.cells = (Value.agg a).cells) (hu : ∃ b, u = .agg b) : u = .agg a := by
  obtain ⟨b, rfl⟩ := hu
  simp [Value.cells] at h
  rw [h]
end Rw
namespace Rw
open Go Go.RowKit
open Go.Proofs.YtohfnpmehgpphaaGreat.Rows (uptoBulk uptoBulkAll uptoSmall)
/-- An expression's size: its nodes, their names, their annotations. -/
def tmsz (t : Tm) : Nat := ((nodesL t).map fun x => 1 + x.name.size + x.arg.size + tsz x.ann).sum
theorem tmsz_eq (t : Tm) : tmsz t = 1 + t.name.size + t.arg.size + tsz t.ann + (t.kids.map tmsz).sum := by
  unfold tmsz
  rw [nodesL_eq, List.map_cons, List.sum_cons]
  congr 1
  induction t.kids with
  | nil => rfl
  | cons k r ih => rw [List.flatMap_cons, List.map_append, List.sum_append, ih, List.map_cons, List.sum_cons]
theorem sum_in {α : Type} (f : α → Nat) : ∀ (l : List α) (x : α), x ∈ l → f x ≤ (l.map f).sum
  | y :: l, x, h => by
    rw [List.map_cons, List.sum_cons]
    rcases List.mem_cons.1 h with rfl | h
    · omega
    · have := sum_in f l x h; omega
theorem sum_len {α : Type} (f : α → Nat) (hf : ∀ x, 1 ≤ f x) : ∀ (l : List α), l.length ≤ (l.map f).sum
  | [] => Nat.le_refl _
  | y :: l => by
    have h1 := sum_len f hf l
    have h2 := hf y
    rw [List.map_cons, List.sum_cons, List.length_cons]; omega
theorem nsz_tmsz (t : Tm) : nsz t ≤ tmsz t := sum_len _ (fun x => by omega) _
theorem ann_tmsz {t x : Tm} (h : x ∈ nodesL t) : psz x.ann ≤ tmsz t := by
  have h1 := sum_in (fun x => 1 + x.name.size + x.arg.size + tsz x.ann) (nodesL t) x h
  have h2 := psz_tsz x.ann
  have h3 : ((nodesL t).map fun x => 1 + x.name.size + x.arg.size + tsz x.ann).sum = tmsz t := rfl
  omega
theorem annS_tmsz {t : Tm} (h : tmsz t ≤ 2000000) : AnnS t := fun x hx => by have := ann_tmsz hx; omega
theorem asz_tmsz (t : Tm) : asz t ≤ tmsz t := by
  unfold asz tmsz
  refine sum_le _ _ _ (fun x _ => ?_)
  have := psz_tsz x.ann
  omega
theorem tm_agg {w : World} {M : Nat → Prop} {u : Value} {t : Tm} (h : Rep.R M w u t) : ∃ a, u = .agg a := by
  obtain ⟨akv, kv, e, _⟩ := tm_open h
  exact ⟨_, e⟩
section
variable {H : Type} {P : Program}
theorem opensD_bool {t : TypeId} (N : Nat) (ht : P.underlying t = some .bool) (hc : P.cellsOf t = 1) : OpensD H (α := Bool) P t N (fun _ => 1) := by
  refine ⟨hc, fun enc w fuel cs d ps h _ => ?_⟩
  obtain ⟨b, rfl, e⟩ := DataW.trod_bool ht h
  cases e
  exact ⟨.bool b, b, rfl, rfl, bulk_one _⟩
theorem opensD_tm {t tOp tStr tInt tBool tTy tSl : TypeId} {f0 f1 f2 f3 f4 f5 f6 : Field} (ht : P.underlying t = some (.struct #[f0, f1, f2, f3, f4, f5, f6])) (h0 : f0.offset = 0 ∧ f0.type = tOp) (h1 : f1.offset = 1 ∧ f1.type = tStr) (h2 : f2.offset = 2 ∧ f2.type = tStr)
    (h3 : f3.offset = 3 ∧ f3.type = tInt) (h4 : f4.offset = 4 ∧ f4.type = tBool) (h5 : f5.offset = 5 ∧ f5.type = tTy) (h6 : f6.offset = 9 ∧ f6.type = tSl)
    (uOp : P.underlying tOp = some (.int .u8)) (cOp : P.cellsOf tOp = 1) (uStr : P.underlying tStr = some .string) (cStr : P.cellsOf tStr = 1) (uInt : P.underlying tInt = some (.int .i64)) (cInt : P.cellsOf tInt = 1) (uBool : P.underlying tBool = some .bool) (cBool : P.cellsOf tBool = 1)
    (uSl : P.underlying tSl = some (.slice t)) (cSl : P.cellsOf tSl = 1) (oT : ∀ N, N < 140737488355328 → OpensD H (α := Ty) P tTy N tsz) (cT : P.cellsOf t = 10) :
    ∀ N, N < 140737488355328 → OpensD H (α := Tm) P t N tmsz := by
  intro N
  induction N with
  | zero => exact fun _ => ⟨cT, fun enc w fuel cs d ps h hQ => by have := bulk_one d; omega⟩
  | succ N ih =>
    intro hN
    have ihS := opensD_slice (H := H) (P := P) (N + 1) hN uSl cSl (ih (by omega))
    refine ⟨cT, fun enc w fuel cs d ps h hQ => ?_⟩
    obtain ⟨xs, n, _, hx, hl, hxl, hf⟩ := DataW.trod_struct ht h
    cases hx
    rw [cT] at hl
    obtain ⟨c0, c1, c2, c3, c4, c5, c6, c7, c8, c9, rfl⟩ : ∃ c0 c1 c2 c3 c4 c5 c6 c7 c8 c9, cs = [c0, c1, c2, c3, c4, c5, c6, c7, c8, c9] := by
      rcases cs with _ | ⟨c0, _ | ⟨c1, _ | ⟨c2, _ | ⟨c3, _ | ⟨c4, _ | ⟨c5, _ | ⟨c6, _ | ⟨c7, _ | ⟨c8, _ | ⟨c9, _ | ⟨c10, r⟩⟩⟩⟩⟩⟩⟩⟩⟩⟩⟩ <;> simp at hl
      exact ⟨c0, c1, c2, c3, c4, c5, c6, c7, c8, c9, rfl⟩
    obtain ⟨x0, x1, x2, x3, x4, x5, x6, rfl⟩ : ∃ x0 x1 x2 x3 x4 x5 x6, xs = [x0, x1, x2, x3, x4, x5, x6] := by
      rcases xs with _ | ⟨c0, _ | ⟨c1, _ | ⟨c2, _ | ⟨c3, _ | ⟨c4, _ | ⟨c5, _ | ⟨c6, _ | ⟨c7, r⟩⟩⟩⟩⟩⟩⟩⟩ <;> simp at hxl
      exact ⟨c0, c1, c2, c3, c4, c5, c6, rfl⟩
    have g0 := hf 0 f0 rfl
    have g1 := hf 1 f1 rfl
    have g2 := hf 2 f2 rfl
    have g3 := hf 3 f3 rfl
    have g4 := hf 4 f4 rfl
    have g5 := hf 5 f5 rfl
    have g6 := hf 6 f6 rfl
    rw [h0.1, h0.2, cOp] at g0
    rw [h1.1, h1.2, cStr] at g1
    rw [h2.1, h2.2, cStr] at g2
    rw [h3.1, h3.2, cInt] at g3
    rw [h4.1, h4.2, cBool] at g4
    rw [h5.1, h5.2, (oT (N + 1) hN).cells, show Rep.sz Ty = 4 from rfl] at g5
    rw [h6.1, h6.2, cSl] at g6
    simp only [List.drop_zero, List.drop_succ_cons, List.take_succ_cons, List.take_zero, List.getElem?_cons_zero, List.getElem?_cons_succ] at g0 g1 g2 g3 g4 g5 g6
    rw [bulk_agg] at hQ ⊢
    simp only [List.map_cons, List.map_nil, uptoBulkAll] at hQ ⊢
    obtain ⟨op, e0, _, w0⟩ := DataW.trod_int uOp g0
    obtain ⟨v1, s, e1, r1, z1⟩ := (opensD_string (H := H) (P := P) (N + 1) hN uStr cStr).read enc w n _ _ _ g1 (by omega)
    obtain ⟨v2, ar, e2, r2, z2⟩ := (opensD_string (H := H) (P := P) (N + 1) hN uStr cStr).read enc w n _ _ _ g2 (by omega)
    obtain ⟨v3, m, e3, r3, _⟩ := (opensD_int (H := H) (P := P) (N + 1) uInt cInt).read enc w n _ _ _ g3 (by omega)
    obtain ⟨v4, b, e4, r4, _⟩ := (opensD_bool (H := H) (P := P) (N + 1) uBool cBool).read enc w n _ _ _ g4 (by omega)
    obtain ⟨v5, a, e5, r5, z5⟩ := (oT (N + 1) hN).read enc w n _ _ _ g5 (by omega)
    obtain ⟨v6, l, e6, r6, z6⟩ := ihS.read enc w n _ _ _ g6 (by omega)
    obtain ⟨rfl, hs⟩ := r1
    obtain ⟨rfl, har⟩ := r2
    obtain ⟨rfl, hm⟩ := r3
    obtain rfl : v4 = .bool b := r4
    obtain ⟨akv, rfl, _⟩ := ty_open r5
    have hop : 0 ≤ op ∧ op ≤ 255 := by simpa [Lit.wf, IntKind.min, IntKind.max, IntKind.signed, IntKind.bits] using w0
    have r6' : Sl NoM w v6 l := r6
    have e6' := r6'.cells
    refine ⟨.agg #[.int .u8 op, .string s, .string ar, .int .i64 m, .bool b, .int .u8 a.op, .string a.name, .int .i64 a.n, akv, v6], .mk op s ar m b a l, ?_, tm_mk hop hs har hm r5 r6', ?_⟩
    · rw [e6'] at e6
      simp [Value.cells] at e0 e1 e2 e3 e4 e5 e6 ⊢
      simp [*]
    · rw [tmsz_eq]
      show 1 + s.size + ar.size + tsz a + (l.map tmsz).sum ≤ _
      have := bulk_one x0.1
      have := bulk_one x3.1
      omega
end
end Rw
namespace Go.Proofs.YtohfnpmehgpphaaGreat
open Go Rw Go.RowKit
set_option maxRecDepth 100000
theorem treeRight_spec (t : Tm) (c : Int) (M : Nat → Prop) (w : World) (v : Value) (ht : Rep.R M w v t) (hc : I64 c) (hzt : tmsz t ≤ 2000000) (hlow : Low M w) :
    Calls Tryz.prog 3 #[v, .int .i64 c] w (Ret fun r w' => r = .bool true ∧ Ext w w') := by
  have hE : Below w.heap.size w w := Below.refl _ _
  have hB : w.heap.size ≤ w.heap.size := Nat.le_refl _
  have hz := annS_tmsz hzt
  have hns := Nat.le_trans (nsz_tmsz t) hzt
  have has := Nat.le_trans (asz_tmsz t) hzt
  unfold I64 at hc
  obtain ⟨akv, kv, rfl, op, nm, ag, n64, ha, hk⟩ := tm_open ht
  refine c_enter (n := 63) Tryz.func3 rfl rfl rfl ?_
  refine q0 ?_
  refine lC (o_box rfl rfl rfl ?_)
  intro b2 w1 hb_b2 ew1 h2
  replace h2 : Box _ b2 28 [.int .u8 t.op, .string t.name, .string t.arg, .int .i64 t.n, .bool t.has, .int .u8 t.ann.op, .string t.ann.name, .int .i64 t.ann.n, akv, kv] := h2
  replace h2 := h2.at (nM_of hlow hb_b2)
  replace hE := ew1.bl hE hB
  replace ht := Rep.ext ht ew1
  replace ha := Rep.ext ha ew1
  replace hk := hk.ext ew1
  replace hlow := hlow.ext ew1
  replace hB := ew1.z hB
  refine l_p 1 tK rfl (q1 (c_seq (q0 ?_)))
  refine lC (o_call fo6 rfl rfl rfl (alive5_spec M _ hlow) ?_)
  rintro _ w2 ⟨rfl, ew2⟩
  replace hE := ew2.bl hE hB
  replace ht := Rep.ext ht ew2
  replace ha := Rep.ext ha ew2
  replace hk := hk.ext ew2
  replace h2 := h2.ext ew2
  replace hlow := hlow.ext ew2
  replace hB := ew2.z hB
  refine l_p 1 tK rfl (q1 ?_)
  refine c_ifB _ rfl (fun c1 => ?_) (fun c1 => ?_)
  · first | (exfalso; omega) | exact absurd c1 (by simp)
  refine c_skip (x_seq (c_seq (q0 ?_)))
  refine lC (o_lds tK (fun j v hv => h2.cell j v hv) rfl rfl rfl rfl rfl rfl ?_)
  refine lC (o_call fo7 rfl rfl rfl (many5_spec t M _ _ ht hlow hz hns has) ?_)
  rintro _ w3 ⟨rfl, ew3⟩
  replace hE := ew3.bl hE hB
  replace ht := Rep.ext ht ew3
  replace ha := Rep.ext ha ew3
  replace hk := hk.ext ew3
  replace h2 := h2.ext ew3
  replace hlow := hlow.ext ew3
  replace hB := ew3.z hB
  refine q1 ?_
  refine c_if _ rfl (fun c2 => ?_) (fun c2 => ?_)
  · refine q0 (l_p 1 tK rfl (q1 (c_ret (x_seqR (x_ret1 rfl rfl ?_)))))
    exact ⟨rfl, hE⟩
  refine c_skip (x_seq (q0 ?_))
  refine lC (o_lds tK (fun j v hv => h2.cell j v hv) rfl rfl rfl rfl rfl rfl ?_)
  refine lC (o_call fo8 rfl rfl rfl (nodes_spec t M _ _ ht hlow hns) ?_)
  rintro vhl w4 ⟨hl, ew4⟩
  replace hE := ew4.bl hE hB
  replace ht := Rep.ext ht ew4
  replace ha := Rep.ext ha ew4
  replace hk := hk.ext ew4
  replace h2 := h2.ext ew4
  replace hlow := hlow.ext ew4
  replace hB := ew4.z hB
  have hll : (nodesL t).length = nsz t := rfl
  refine l_p 1 tK rfl (q1 (c_seq (c_seq ?_)))
  refine a_beg Ext rfl ?_
  intro w5 ew5
  replace hE := ew5.bl hE hB
  replace ht := Rep.ext ht ew5
  replace ha := Rep.ext ha ew5
  replace hk := hk.ext ew5
  replace h2 := h2.ext ew5
  replace hl := hl.ext ew5
  replace hlow := hlow.ext ew5
  replace hB := ew5.z hB
  have hS : Ext w5 w5 := ext_refl _
  have D_hk := hk
  have D_h2 := h2
  have D_hl := hl
  refine a_lds 0 tK (fun _ hs j v hv => (D_h2.ext hs).cell j v hv) rfl rfl rfl rfl rfl rfl rfl (by kernel_rfl) (fun _ _ _ h => h) hS ?_
  refine a_lds 2 tK (fun _ hs j v hv => (D_h2.ext hs).cell j v hv) rfl rfl rfl rfl rfl rfl rfl (by kernel_rfl) (fun _ _ _ h => h) hS ?_
  refine a_one 1 rfl (by kernel_rfl) (o_call fo9 rfl rfl rfl (tRight_spec t M _ _ ht hlow hz) ?_)
  rintro _ w6 ⟨rfl, ew6⟩
  replace hS := hS.then ew6
  replace hE := ew6.bl hE hB
  replace ht := Rep.ext ht ew6
  replace ha := Rep.ext ha ew6
  replace hk := hk.ext ew6
  replace h2 := h2.ext ew6
  replace hl := hl.ext ew6
  replace hlow := hlow.ext ew6
  replace hB := ew6.z hB
  refine ⟨hS, ?_⟩
  refine a_bar 3 rfl (by kernel_rfl) (by kernel_rfl) (o_call fo10 rfl rfl rfl (refTR_spec t false M _ _ ht hlow hz) ?_)
  rintro _ w7 ⟨rfl, ew7⟩
  replace hS := hS.then ew7
  replace hE := ew7.bl hE hB
  replace ht := Rep.ext ht ew7
  replace ha := Rep.ext ha ew7
  replace hk := hk.ext ew7
  replace h2 := h2.ext ew7
  replace hl := hl.ext ew7
  replace hlow := hlow.ext ew7
  replace hB := ew7.z hB
  refine a_bar 4 rfl (by kernel_rfl) (by kernel_rfl) (o_bne tK rfl rfl rfl rfl rfl rfl ?_)
  refine a_p 5 tK rfl rfl rfl rfl (by kernel_rfl) (fun _ _ _ h => h) hS ?_
  refine a_split 19 _ rfl (fun c3 => ?_) (fun c3 => ?_)
  · first | (exfalso; omega) | exact absurd c3 (by simp)
  refine a_lds 6 tK (fun _ hs j v hv => (D_h2.ext hs).cell j v hv) rfl rfl rfl rfl rfl rfl rfl (by kernel_rfl) (fun _ _ _ h => h) hS ?_
  refine a_p 8 tK rfl rfl rfl rfl (by kernel_rfl) (fun _ _ _ h => h) hS ?_
  refine a_len 9 tK hl rfl rfl rfl rfl rfl rfl (by kernel_rfl) (fun _ _ _ h => h) hS ?_
  refine a_one 7 rfl (by kernel_rfl) (o_call fo11 rfl rfl rfl (count_spec t M _ _ ht hlow hns) ?_)
  rintro _ w8 ⟨rfl, ew8⟩
  replace hS := hS.then ew8
  replace hE := ew8.bl hE hB
  replace ht := Rep.ext ht ew8
  replace ha := Rep.ext ha ew8
  replace hk := hk.ext ew8
  replace h2 := h2.ext ew8
  replace hl := hl.ext ew8
  replace hlow := hlow.ext ew8
  replace hB := ew8.z hB
  refine ⟨hS, ?_⟩
  refine a_p 10 tK rfl rfl rfl rfl (by kernel_rfl) (fun _ _ _ h => h) hS ?_
  refine a_p 11 tK rfl rfl rfl rfl (by kernel_rfl) (fun _ _ _ h => h) hS ?_
  refine a_p 12 tK rfl rfl rfl rfl (by kernel_rfl) (fun _ _ _ h => h) hS ?_
  refine a_splitN 26 _ rfl (fun c4 => ?_) (fun c4 => ?_)
  · first | (exfalso; omega) | exact absurd c4 (by simp)
  refine a_lds 13 tK (fun _ hs j v hv => (D_h2.ext hs).cell j v hv) rfl rfl rfl rfl rfl rfl rfl (by kernel_rfl) (fun _ _ _ h => h) hS ?_
  refine a_lds 15 tK (fun _ hs j v hv => (D_h2.ext hs).cell j v hv) rfl rfl rfl rfl rfl rfl rfl (by kernel_rfl) (fun _ _ _ h => h) hS ?_
  refine a_one 14 rfl (by kernel_rfl) (o_call fo12 rfl rfl rfl (depth_spec t M _ _ ht hlow hns) ?_)
  rintro _ w9 ⟨rfl, ew9⟩
  replace hS := hS.then ew9
  replace hE := ew9.bl hE hB
  replace ht := Rep.ext ht ew9
  replace ha := Rep.ext ha ew9
  replace hk := hk.ext ew9
  replace h2 := h2.ext ew9
  replace hl := hl.ext ew9
  replace hlow := hlow.ext ew9
  replace hB := ew9.z hB
  refine ⟨hS, ?_⟩
  refine a_bar 16 rfl (by kernel_rfl) (by kernel_rfl) (o_call fo13 rfl rfl rfl (depthR_spec t M _ _ ht hlow hns) ?_)
  rintro _ w10 ⟨rfl, ew10⟩
  replace hS := hS.then ew10
  replace hE := ew10.bl hE hB
  replace ht := Rep.ext ht ew10
  replace ha := Rep.ext ha ew10
  replace hk := hk.ext ew10
  replace h2 := h2.ext ew10
  replace hl := hl.ext ew10
  replace hlow := hlow.ext ew10
  replace hB := ew10.z hB
  refine a_p 17 tK rfl rfl rfl rfl (by kernel_rfl) (fun _ _ _ h => h) hS ?_
  refine a_p 18 tK rfl rfl rfl rfl (by kernel_rfl) (fun _ _ _ h => h) hS ?_
  refine a_end (by kernel_rfl) ?_
  refine x_seq ?_
  refine c_ifN _ rfl (fun c5 => ?_) (fun c5 => ?_)
  · first | (exfalso; omega) | exact absurd c5 (by simp)
  refine c_skip (x_seq (q0 ?_))
  refine lC (o_lds tK (fun j v hv => h2.cell j v hv) rfl rfl rfl rfl rfl rfl ?_)
  refine l_p 1 tK rfl ?_
  refine lC (o_call fo14 rfl rfl rfl (nodeM_spec t c M _ _ ht hlow hz hns (by omega)) ?_)
  rintro _ w11 ⟨⟨xv, rfl, hx8⟩, ew11⟩
  obtain ⟨xt, hxt⟩ : ∃ xt, xt = (if 0 ≤ c then nodeAt t c.toNat else tz5) := ⟨_, rfl⟩
  rw [← hxt] at hx8
  replace hE := ew11.bl hE hB
  replace ht := Rep.ext ht ew11
  replace ha := Rep.ext ha ew11
  replace hk := hk.ext ew11
  replace h2 := h2.ext ew11
  replace hl := hl.ext ew11
  replace hlow := hlow.ext ew11
  replace hB := ew11.z hB
  obtain ⟨akvq, kvq, rfl, opq, nmq, agq, n64q, haq, hkq⟩ := tm_open hx8
  refine l_p 3 tK rfl ?_
  refine lC (o_new tK rfl rfl rfl ?_)
  intro b6 w12 qb6 ew12 hb6
  have nb6 := nM_of hlow qb6
  refine lC (o_st tK hb6 rfl rfl rfl rfl (Rep.one hx8) rfl rfl ?_)
  intro w13 h6 uw13 bew13
  have ew13 : Ext w11 w13 := ew12.trans (bew13 _ (Nat.le_of_eq qb6.symm))
  replace hE := ew13.bl hE hB
  replace ht := Rep.ext ht ew13
  replace ha := Rep.ext ha ew13
  replace hk := hk.ext ew13
  replace h2 := h2.ext ew13
  replace hl := hl.ext ew13
  replace hx8 := Rep.ext hx8 ew13
  replace haq := Rep.ext haq ew13
  replace hkq := hkq.ext ew13
  replace hlow := hlow.ext ew13
  replace hB := ew13.z hB
  replace h6 : Box w13 b6 28 [.int .u8 xt.op, .string xt.name, .string xt.arg, .int .i64 xt.n, .bool xt.has, .int .u8 xt.ann.op, .string xt.ann.name, .int .i64 xt.ann.n, akvq, kvq] := h6
  replace h6 := h6.at nb6
  refine l_p 1 tK rfl (q1 (c_seq (q0 (l_p 3 tK rfl ?_))))
  refine l_splitP 41 _ rfl (fun c6 => ?_) (fun c6 => ?_)
  · refine l_p 5 tK rfl (q1 (c_ifT rfl (q0 (l_p 3 tK rfl ?_))))
    refine l_splitN 49 _ rfl (fun c7 => ?_) (fun c7 => ?_)
    · refine lC (o_lds tK (fun j v hv => h6.cell j v hv) rfl rfl rfl rfl rfl rfl ?_)
      have hxe : xt = tz5 := by
        rw [hxt]
        split
        · exact nodeAt_out (by omega)
        · rfl
      subst hxe
      refine lC (o_build (cells := [.int .u8 0, .string ⟨#[]⟩, .string ⟨#[]⟩, .int .i64 0, .bool false, .int .u8 0, .string ⟨#[]⟩, .int .i64 0, .slice none 0 0, .slice none 0 0]) (css := []) bd28 rfl rfl rfl rfl rfl ?_)
      have hzz : Rep.R M w13 (.agg #[.int .u8 0, .string ⟨#[]⟩, .string ⟨#[]⟩, .int .i64 0, .bool false, .int .u8 0, .string ⟨#[]⟩, .int .i64 0, .slice none 0 0, .slice none 0 0]) tz5 := tm_mk (ann := .mk 0 ⟨#[]⟩ 0 []) (by decide) (by decide) (by decide) ⟨by decide, by decide⟩ (ty_mk (by decide) (by decide) ⟨by decide, by decide⟩ sl_nil) sl_nil
      have hal := alikeM_spec (tz5) (tz5) M _ _ _ hx8 hzz hlow
      rw [cl_true rfl] at hal
      refine lC (o_call fo15 rfl rfl rfl (hal) ?_)
      rintro _ w14 ⟨rfl, ew14⟩
      replace hE := ew14.bl hE hB
      replace ht := Rep.ext ht ew14
      replace ha := Rep.ext ha ew14
      replace hk := hk.ext ew14
      replace h2 := h2.ext ew14
      replace hl := hl.ext ew14
      replace hx8 := Rep.ext hx8 ew14
      replace haq := Rep.ext haq ew14
      replace hkq := hkq.ext ew14
      replace h6 := h6.ext ew14
      replace hzz := Rep.ext hzz ew14
      replace hlow := hlow.ext ew14
      replace hB := ew14.z hB
      refine l_p 2 tK rfl (q1 (c_ret (x_seqR (x_ret1 rfl rfl ?_))))
      exact ⟨rfl, hE⟩
    exact absurd c7 (by omega)
  refine l_p 2 tK rfl ?_
  refine lC (o_len tK hl rfl rfl rfl rfl rfl ?_)
  refine l_p 2 tK rfl (q1 ?_)
  refine c_ifP _ rfl (fun c8 => ?_) (fun c8 => ?_)
  · refine q0 (l_p 3 tK rfl ?_)
    refine l_splitN 49 _ rfl (fun c9 => ?_) (fun c9 => ?_)
    · refine lC (o_lds tK (fun j v hv => h6.cell j v hv) rfl rfl rfl rfl rfl rfl ?_)
      have hxe : xt = tz5 := by
        rw [hxt]
        split
        · exact nodeAt_out (by omega)
        · rfl
      subst hxe
      refine lC (o_build (cells := [.int .u8 0, .string ⟨#[]⟩, .string ⟨#[]⟩, .int .i64 0, .bool false, .int .u8 0, .string ⟨#[]⟩, .int .i64 0, .slice none 0 0, .slice none 0 0]) (css := []) bd28 rfl rfl rfl rfl rfl ?_)
      have hzz : Rep.R M w13 (.agg #[.int .u8 0, .string ⟨#[]⟩, .string ⟨#[]⟩, .int .i64 0, .bool false, .int .u8 0, .string ⟨#[]⟩, .int .i64 0, .slice none 0 0, .slice none 0 0]) tz5 := tm_mk (ann := .mk 0 ⟨#[]⟩ 0 []) (by decide) (by decide) (by decide) ⟨by decide, by decide⟩ (ty_mk (by decide) (by decide) ⟨by decide, by decide⟩ sl_nil) sl_nil
      have hal := alikeM_spec (tz5) (tz5) M _ _ _ hx8 hzz hlow
      rw [cl_true rfl] at hal
      refine lC (o_call fo15 rfl rfl rfl (hal) ?_)
      rintro _ w15 ⟨rfl, ew15⟩
      replace hE := ew15.bl hE hB
      replace ht := Rep.ext ht ew15
      replace ha := Rep.ext ha ew15
      replace hk := hk.ext ew15
      replace h2 := h2.ext ew15
      replace hl := hl.ext ew15
      replace hx8 := Rep.ext hx8 ew15
      replace haq := Rep.ext haq ew15
      replace hkq := hkq.ext ew15
      replace h6 := h6.ext ew15
      replace hzz := Rep.ext hzz ew15
      replace hlow := hlow.ext ew15
      replace hB := ew15.z hB
      refine l_p 2 tK rfl (q1 (c_ret (x_seqR (x_ret1 rfl rfl ?_))))
      exact ⟨rfl, hE⟩
    exact absurd c9 (by omega)
  obtain ⟨k, rfl⟩ : ∃ k : Nat, c = (k : Int) := ⟨c.toNat, by omega⟩
  have hkl : k < (nodesL t).length := by omega
  have hxe : xt = (nodesL t)[k] := by
    rw [hxt, if_pos (by omega), Int.toNat_natCast]
    unfold nodeAt
    rw [List.getElem?_eq_getElem hkl]; rfl
  subst hxe
  refine c_skip (x_seq (c_seq ?_))
  refine a_beg Ext rfl ?_
  intro w16 ew16
  replace hE := ew16.bl hE hB
  replace ht := Rep.ext ht ew16
  replace ha := Rep.ext ha ew16
  replace hk := hk.ext ew16
  replace h2 := h2.ext ew16
  replace hl := hl.ext ew16
  replace hx8 := Rep.ext hx8 ew16
  replace haq := Rep.ext haq ew16
  replace hkq := hkq.ext ew16
  replace h6 := h6.ext ew16
  replace hlow := hlow.ext ew16
  replace hB := ew16.z hB
  have hS : Ext w16 w16 := ext_refl _
  have D_hk := hk
  have D_h2 := h2
  have D_hl := hl
  have D_hkq := hkq
  have D_h6 := h6
  refine a_p 0 tK rfl rfl rfl rfl (by kernel_rfl) (fun _ _ _ h => h) hS ?_
  refine a_p 1 tK rfl rfl rfl rfl (by kernel_rfl) (fun _ _ _ h => h) hS ?_
  refine a_splitP 55 _ rfl (fun c10 => ?_) (fun c10 => ?_)
  · refine a_lds 2 tK (fun _ hs j v hv => (D_h6.ext hs).cell j v hv) rfl rfl rfl rfl rfl rfl rfl (by kernel_rfl) (fun _ _ _ h => h) hS ?_
    refine a_p 3 tK rfl rfl rfl rfl (by kernel_rfl) (fun _ _ _ h => h) hS ?_
    refine a_p 4 tK rfl rfl rfl rfl (by kernel_rfl) (fun _ _ _ h => h) hS ?_
    refine a_ixS 5 tK D_hl (List.getElem?_eq_getElem hkl) rfl rfl rfl rfl rfl rfl rfl rfl rfl rfl (by kernel_rfl) (fun _ _ _ _ h => h) hS ?_
    intro eby eoy euy hyy haty
    obtain ⟨akvy, kvy, rfl, opy, nmy, agy, n64y, hay, hky⟩ := tm_open hyy
    replace haty : At M w16 eby eoy [.int .u8 (nodesL t)[k].op, .string (nodesL t)[k].name, .string (nodesL t)[k].arg, .int .i64 (nodesL t)[k].n, .bool (nodesL t)[k].has, .int .u8 (nodesL t)[k].ann.op, .string (nodesL t)[k].ann.name, .int .i64 (nodesL t)[k].ann.n, akvy, kvy] := haty
    refine a_lds 6 tK (fun _ hs j v hv => (haty.ext hs).cell j v hv) rfl rfl rfl rfl rfl rfl rfl (by kernel_rfl) (fun _ _ _ h => h) hS ?_
    have hal := alikeM_spec ((nodesL t)[k]) ((nodesL t)[k]) M _ _ _ hx8 hyy hlow
    rw [cl_true rfl] at hal
    refine a_bar 7 rfl (by kernel_rfl) (by kernel_rfl) (o_call fo15 rfl rfl rfl (hal) ?_)
    rintro _ w17 ⟨rfl, ew17⟩
    replace hS := hS.then ew17
    replace hE := ew17.bl hE hB
    replace ht := Rep.ext ht ew17
    replace ha := Rep.ext ha ew17
    replace hk := hk.ext ew17
    replace h2 := h2.ext ew17
    replace hl := hl.ext ew17
    replace hx8 := Rep.ext hx8 ew17
    replace haq := Rep.ext haq ew17
    replace hkq := hkq.ext ew17
    replace h6 := h6.ext ew17
    replace hyy := Rep.ext hyy ew17
    replace hay := Rep.ext hay ew17
    replace hky := hky.ext ew17
    replace haty := haty.ext ew17
    replace hlow := hlow.ext ew17
    replace hB := ew17.z hB
    refine a_p 8 tK rfl rfl rfl rfl (by kernel_rfl) (fun _ _ _ h => h) hS ?_
    refine a_p 9 tK rfl rfl rfl rfl (by kernel_rfl) (fun _ _ _ h => h) hS ?_
    refine a_end (by kernel_rfl) ?_
    refine x_seq (c_ret (x_ret1 rfl rfl ?_))
    exact ⟨rfl, hE⟩
  exact absurd c10 (by omega)
end Go.Proofs.YtohfnpmehgpphaaGreat
