/- Part 6 of the proof: rules, plain laws and walks, merged out of smaller texts. -/
import Derived.Test.YtohfnpmehgpphaaGreatC5
namespace Go.Proofs.YtohfnpmehgpphaaGreat
open Go Rw Go.RowKit
set_option maxRecDepth 100000
theorem without_step {l : List ByteArray} {i : Nat} (h : i < l.length) (s : ByteArray) : without (l.take (i + 1)) s = without (l.take i) s ++ (if l[i] = s then [] else [l[i]]) := by
  unfold without
  rw [List.take_succ_eq_append_getElem h, List.filter_append]
  congr 1
  by_cases e : l[i] = s <;> simp [e]
theorem without_take (l : List ByteArray) (s : ByteArray) (i : Nat) : (without (l.take i) s).length ≤ l.length := Nat.le_trans (without_len _ _) (by rw [List.length_take]; omega)
theorem without_spec (l : List ByteArray) (s : ByteArray) (M : Nat → Prop) (w : World) (v : Value) (hs : Sl M w v l) (hlow0 : Low M w) (hn : l.length ≤ 2000000) :
    Calls Tryz.prog 39 #[v, .string s] w (Ret fun r w' => Sl M w' r (without l s) ∧ Ext w w') := by
  have hlow := hlow0
  have hB : w.heap.size ≤ w.heap.size := Nat.le_refl _
  have hE : Below w.heap.size w w := Below.refl _ _
  have hsub : ∀ b, M b → M b := fun _ h => h
  refine c_enter (n := 27) Tryz.func39 rfl rfl rfl ?_
  refine q0 (l_p 1 tK rfl (q1 (q0 (l_p 1 tK rfl (q1 (c_seq (q0 (l_p 1 tK rfl (q1 (c_blk ?_))))))))))
  refine c_loop3 (X := Nat) (Y := Value) (Z := Nat → Prop) (fun i v5 M1 => [(0, v), (1, .string s), (5, v5), (6, .int .i64 (i : Nat))]) (fun i v5 M1 w' => i ≤ l.length ∧ OwnSl 9 w.heap.size M1 w' v5 (without (l.take i) s) ∧ Sl M1 w' v l ∧ Low M1 w' ∧ (∀ b, M b → M1 b) ∧ Below w.heap.size w w' ∧ w.heap.size ≤ w'.heap.size) (fun i v5 M1 => l.length - i) (0) (.slice none 0 0) (M) (s4 rfl rfl rfl rfl) ?_ ?_
  · exact ⟨Nat.zero_le _, own_nil, hs, hlow, hsub, hE, hB⟩
  clear hs hlow hsub hE hB
  rintro i v5 M1 w1 ⟨hi, ho, hs, hlow, hsub, hE, hB⟩
  have hwl := without_take l s i
  refine c_seq (q0 (l_p 2 tK rfl ?_))
  refine lC (o_len tK hs rfl rfl rfl rfl rfl ?_)
  refine l_p 1 tK rfl (q1 ?_)
  refine c_ifP _ rfl (fun c1 => ?_) (fun c1 => ?_)
  · refine c_skip (x_seq (c_seq (c_blk (q0 (l_p 2 tK rfl ?_)))))
    have hil : i < l.length := by omega
    refine lC (o_ixS tK hs (List.getElem?_eq_getElem hil) rfl rfl rfl rfl rfl rfl rfl rfl rfl ?_)
    intro ebz2 eoz2 euz2 hrz2 hatz2
    obtain ⟨rfl, hszz2⟩ := hrz2
    refine lC (o_ld tK (hatz2.cell 0 _ rfl) rfl rfl rfl rfl rfl ?_)
    refine l_p 2 tK rfl (q1 ?_)
    refine c_ifN _ rfl (fun c3 => ?_) (fun c3 => ?_)
    · refine c_reg (l_p 3 tK rfl ?_)
      refine lC (o_ixS tK hs (List.getElem?_eq_getElem hil) rfl rfl rfl rfl rfl rfl rfl rfl rfl ?_)
      intro ebz4 eoz4 euz4 hrz4 hatz4
      obtain ⟨rfl, hszz4⟩ := hrz4
      refine lC (o_ld tK (hatz4.cell 0 _ rfl) rfl rfl rfl rfl rfl ?_)
      refine lC (o_bs tK rfl rfl rfl rfl rfl rfl rfl (sz1 rfl) rfl rfl rfl ?_)
      intro bw2 w2 qbw2 ew2 hbw2
      have nbw2 := nM_of hlow qbw2
      replace ho := ho.ext hlow hB ew2
      replace hE := ew2.bl hE hB
      replace hs := hs.ext ew2
      replace hlow := hlow.ext ew2
      replace hB := ew2.z hB
      refine lC (o_app1 tK ho hbw2 nbw2 (show Rep.R _ _ _ l[i] from ⟨rfl, hszz4⟩) hlow hB rfl rfl rfl rfl rfl rfl rfl (by first | omega | (simp; omega)) (by show (_ + _) * 16 ≤ _; first | omega | (simp; omega)) rfl rfl ?_)
      intro vw3 w3 Mw3 hw3 sw3 frw3 blw3
      replace hE := hE.trans sw3.below
      replace hs := hs.stp sw3
      replace hsub := sw3.sb hsub
      replace hlow := sw3.low
      replace hB := sw3.z hB
      replace ho := hw3
      clear hw3
      refine l_p 1 tK rfl (q2 (x_seq (c_reg (l_p 1 tK rfl ?_))))
      refine lC (o_ai rfl rfl rfl (by omega) rfl rfl ?_)
      refine l_p 1 tK rfl (l_nil ?_)
      exact x_round3 (i + 1) (vw3) (Mw3) (s4 rfl rfl rfl (get_num rfl (by omega))) ⟨by omega, by rw [without_step hil, if_neg (by assumption)]; exact ho, hs, hlow, hsub, hE, hB⟩ (by omega)
    refine c_skip (x_blk (x_seq (c_reg (l_p 1 tK rfl ?_))))
    refine lC (o_ai rfl rfl rfl (by omega) rfl rfl ?_)
    refine l_p 1 tK rfl (l_nil ?_)
    exact x_round3 (i + 1) (v5) (M1) (s4 rfl rfl rfl (get_num rfl (by omega))) ⟨by omega, by rw [without_step hil, if_pos (by assumption), List.append_nil]; exact ho, hs, hlow, hsub, hE, hB⟩ (by omega)
  refine c_exit (x_seqE (x_seqE (x_blkE (x_seq (q0 (l_p 2 tK rfl (q1 (c_ret (x_ret1 rfl rfl ?_)))))))))
  obtain rfl : i = l.length := by omega
  rw [List.take_of_length_le (Nat.le_refl _)] at ho
  exact ⟨ho.sl (by have := without_len l s; omega) hlow0 hsub, hE⟩
theorem with_spec (l : List ByteArray) (s : ByteArray) (hss : s.size < 140737488355328) (M : Nat → Prop) (w : World) (v : Value) (hs : Sl M w v l) (hlow0 : Low M w) (hn : l.length ≤ 2000000) :
    Calls Tryz.prog 40 #[v, .string s] w (Ret fun r w' => Sl M w' r (withL l s) ∧ Ext w w') := by
  have hlow := hlow0
  have hB : w.heap.size ≤ w.heap.size := Nat.le_refl _
  have hE : Below w.heap.size w w := Below.refl _ _
  have hsub : ∀ b, M b → M b := fun _ h => h
  refine c_enter (n := 48) Tryz.func40 rfl rfl rfl ?_
  refine q0 (l_p 1 tK rfl (q1 (q0 (l_p 1 tK rfl (q1 (q0 (l_p 1 tK rfl (q1 (c_seq (q0 (l_p 1 tK rfl (q1 (c_blk ?_)))))))))))))
  refine c_loop5 (X := Nat) (Y := Value) (Z := Nat → Prop) (U := List ByteArray) (V := Bool) (fun i v5 M1 out fl => [(0, v), (1, .string s), (5, v5), (6, .bool fl), (7, .int .i64 (i : Nat))]) (fun i v5 M1 out fl w' => i ≤ l.length ∧ (out, fl) = (withP (l.take i) s) ∧ OwnSl 9 w.heap.size M1 w' v5 out ∧ Sl M1 w' v l ∧ Low M1 w' ∧ (∀ b, M b → M1 b) ∧ Below w.heap.size w w' ∧ w.heap.size ≤ w'.heap.size) (fun i v5 M1 out fl => l.length - i) (0) (.slice none 0 0) (M) ([]) (false) (s5 rfl rfl rfl rfl rfl) ?_ ?_
  · exact ⟨Nat.zero_le _, rfl, own_nil, hs, hlow, hsub, hE, hB⟩
  clear hs hlow hsub hE hB
  rintro i v5 M1 out fl w1 ⟨hi, hst, ho, hs, hlow, hsub, hE, hB⟩
  have hwl := withP_len s l i hi
  rw [← hst] at hwl
  simp only at hwl
  have hwl2 : out.length ≤ i + 1 := by omega
  refine c_seq (q0 (l_p 2 tK rfl ?_))
  refine lC (o_len tK hs rfl rfl rfl rfl rfl ?_)
  refine l_p 1 tK rfl (q1 ?_)
  refine c_ifP _ rfl (fun c1 => ?_) (fun c1 => ?_)
  · refine c_skip (x_seq (c_seq (c_blk (c_seq (q0 (l_p 3 tK rfl ?_))))))
    refine l_splitB 16 _ rfl (fun c2 => ?_) (fun c2 => ?_)
    · refine l_p 3 tK rfl ?_
      have hil : i < l.length := by omega
      refine lC (o_ixS tK hs (List.getElem?_eq_getElem hil) rfl rfl rfl rfl rfl rfl rfl rfl rfl ?_)
      intro ebz3 eoz3 euz3 hrz3 hatz3
      obtain ⟨rfl, hszz3⟩ := hrz3
      refine lC (o_ld tK (hatz3.cell 0 _ rfl) rfl rfl rfl rfl rfl ?_)
      refine l_p 2 tK rfl (q1 ?_)
      refine c_if _ rfl (fun c4 => ?_) (fun c4 => ?_)
      · refine q0 (l_p 2 tK rfl ?_)
        refine lC (o_bs tK rfl rfl rfl rfl rfl rfl rfl (sz1 rfl) rfl rfl rfl ?_)
        intro bw2 w2 qbw2 ew2 hbw2
        have nbw2 := nM_of hlow qbw2
        replace ho := ho.ext hlow hB ew2
        replace hE := ew2.bl hE hB
        replace hs := hs.ext ew2
        replace hlow := hlow.ext ew2
        replace hB := ew2.z hB
        refine lC (o_app1 tK ho hbw2 nbw2 (show Rep.R _ _ _ s from ⟨rfl, hss⟩) hlow hB rfl rfl rfl rfl rfl rfl rfl (by first | omega | (simp; omega)) (by show (_ + _) * 16 ≤ _; first | omega | (simp; omega)) rfl rfl ?_)
        intro vw3 w3 Mw3 hw3 sw3 frw3 blw3
        replace hE := hE.trans sw3.below
        replace hs := hs.stp sw3
        replace hsub := sw3.sb hsub
        replace hlow := sw3.low
        replace hB := sw3.z hB
        replace ho := hw3
        clear hw3
        refine l_p 1 tK rfl (q1 (c_reg (l_p 1 tK rfl (q1 (q0 (l_p 2 tK rfl ?_))))))
        refine lC (o_ixS tK hs (List.getElem?_eq_getElem hil) rfl rfl rfl rfl rfl rfl rfl rfl rfl ?_)
        intro ebz5 eoz5 euz5 hrz5 hatz5
        obtain ⟨rfl, hszz5⟩ := hrz5
        refine lC (o_ld tK (hatz5.cell 0 _ rfl) rfl rfl rfl rfl rfl ?_)
        refine l_p 2 tK rfl (q1 ?_)
        refine c_ifN _ rfl (fun c6 => ?_) (fun c6 => ?_)
        · have hcc : (fl = false ∧ leS s l[i] = true) := by simp_all [leS]
          have he2 : (stW s (out, fl) l[i]).2 = true := by
            show (fl || leS s l[i]) = _
            rw [hcc.2, Bool.or_true]
          refine c_reg (l_p 3 tK rfl ?_)
          refine lC (o_ixS tK hs (List.getElem?_eq_getElem hil) rfl rfl rfl rfl rfl rfl rfl rfl rfl ?_)
          intro ebz7 eoz7 euz7 hrz7 hatz7
          obtain ⟨rfl, hszz7⟩ := hrz7
          refine lC (o_ld tK (hatz7.cell 0 _ rfl) rfl rfl rfl rfl rfl ?_)
          refine lC (o_bs tK rfl rfl rfl rfl rfl rfl rfl (sz1 rfl) rfl rfl rfl ?_)
          intro bw4 w4 qbw4 ew4 hbw4
          have nbw4 := nM_of hlow qbw4
          replace ho := ho.ext hlow hB ew4
          replace hE := ew4.bl hE hB
          replace hs := hs.ext ew4
          replace hlow := hlow.ext ew4
          replace hB := ew4.z hB
          refine lC (o_app1 tK ho hbw4 nbw4 (show Rep.R _ _ _ l[i] from ⟨rfl, hszz7⟩) hlow hB rfl rfl rfl rfl rfl rfl rfl (by first | omega | (simp; omega)) (by show (_ + _) * 16 ≤ _; first | omega | (simp; omega)) rfl rfl ?_)
          intro vw5 w5 Mw5 hw5 sw5 frw5 blw5
          replace hE := hE.trans sw5.below
          replace hs := hs.stp sw5
          replace hsub := sw5.sb hsub
          replace hlow := sw5.low
          replace hB := sw5.z hB
          replace ho := hw5
          clear hw5
          refine l_p 1 tK rfl (q2 (x_seq (c_reg (l_p 1 tK rfl ?_))))
          refine lC (o_ai rfl rfl rfl (by omega) rfl rfl ?_)
          refine l_p 1 tK rfl (l_nil ?_)
          exact x_round5 (i + 1) (vw5) (Mw5) ((stW s (out, fl) l[i]).1) ((stW s (out, fl) l[i]).2) (s5 rfl rfl rfl (get_bool rfl (by rw [he2])) (get_num rfl (by omega))) ⟨by omega, by rw [withP_step hil, ← hst], by rw [show (stW s (out, fl) l[i]).1 = _ from (by unfold stW; rw [if_neg (by assumption), if_pos hcc])]; exact ho, hs, hlow, hsub, hE, hB⟩ (by omega)
        have hcc : (fl = false ∧ leS s l[i] = true) := by simp_all [leS]
        have he2 : (stW s (out, fl) l[i]).2 = true := by
          show (fl || leS s l[i]) = _
          rw [hcc.2, Bool.or_true]
        refine c_skip (x_blk (x_seq (c_reg (l_p 1 tK rfl ?_))))
        refine lC (o_ai rfl rfl rfl (by omega) rfl rfl ?_)
        refine l_p 1 tK rfl (l_nil ?_)
        exact x_round5 (i + 1) (vw3) (Mw3) ((stW s (out, fl) l[i]).1) ((stW s (out, fl) l[i]).2) (s5 rfl rfl rfl (get_bool rfl (by rw [he2])) (get_num rfl (by omega))) ⟨by omega, by rw [withP_step hil, ← hst], by rw [show (stW s (out, fl) l[i]).1 = _ from (by unfold stW; rw [if_pos (by assumption), if_pos hcc])]; exact ho, hs, hlow, hsub, hE, hB⟩ (by omega)
      refine c_skip (x_seq (q0 (l_p 2 tK rfl ?_)))
      refine lC (o_ixS tK hs (List.getElem?_eq_getElem hil) rfl rfl rfl rfl rfl rfl rfl rfl rfl ?_)
      intro ebz8 eoz8 euz8 hrz8 hatz8
      obtain ⟨rfl, hszz8⟩ := hrz8
      refine lC (o_ld tK (hatz8.cell 0 _ rfl) rfl rfl rfl rfl rfl ?_)
      refine l_p 2 tK rfl (q1 ?_)
      refine c_ifN _ rfl (fun c9 => ?_) (fun c9 => ?_)
      · have hcc : ¬ (fl = false ∧ leS s l[i] = true) := by simp_all [leS]
        have he2 : (stW s (out, fl) l[i]).2 = fl := by
          show (fl || leS s l[i]) = _
          revert hcc
          cases fl <;> cases leS s l[i] <;> simp
        refine c_reg (l_p 3 tK rfl ?_)
        refine lC (o_ixS tK hs (List.getElem?_eq_getElem hil) rfl rfl rfl rfl rfl rfl rfl rfl rfl ?_)
        intro ebz10 eoz10 euz10 hrz10 hatz10
        obtain ⟨rfl, hszz10⟩ := hrz10
        refine lC (o_ld tK (hatz10.cell 0 _ rfl) rfl rfl rfl rfl rfl ?_)
        refine lC (o_bs tK rfl rfl rfl rfl rfl rfl rfl (sz1 rfl) rfl rfl rfl ?_)
        intro bw6 w6 qbw6 ew6 hbw6
        have nbw6 := nM_of hlow qbw6
        replace ho := ho.ext hlow hB ew6
        replace hE := ew6.bl hE hB
        replace hs := hs.ext ew6
        replace hlow := hlow.ext ew6
        replace hB := ew6.z hB
        refine lC (o_app1 tK ho hbw6 nbw6 (show Rep.R _ _ _ l[i] from ⟨rfl, hszz10⟩) hlow hB rfl rfl rfl rfl rfl rfl rfl (by first | omega | (simp; omega)) (by show (_ + _) * 16 ≤ _; first | omega | (simp; omega)) rfl rfl ?_)
        intro vw7 w7 Mw7 hw7 sw7 frw7 blw7
        replace hE := hE.trans sw7.below
        replace hs := hs.stp sw7
        replace hsub := sw7.sb hsub
        replace hlow := sw7.low
        replace hB := sw7.z hB
        replace ho := hw7
        clear hw7
        refine l_p 1 tK rfl (q2 (x_seq (c_reg (l_p 1 tK rfl ?_))))
        refine lC (o_ai rfl rfl rfl (by omega) rfl rfl ?_)
        refine l_p 1 tK rfl (l_nil ?_)
        exact x_round5 (i + 1) (vw7) (Mw7) ((stW s (out, fl) l[i]).1) ((stW s (out, fl) l[i]).2) (s5 rfl rfl rfl (get_bool rfl (by rw [he2])) (get_num rfl (by omega))) ⟨by omega, by rw [withP_step hil, ← hst], by rw [show (stW s (out, fl) l[i]).1 = _ from (by unfold stW; rw [if_neg (by assumption), if_neg hcc])]; exact ho, hs, hlow, hsub, hE, hB⟩ (by omega)
      have hcc : ¬ (fl = false ∧ leS s l[i] = true) := by simp_all [leS]
      have he2 : (stW s (out, fl) l[i]).2 = fl := by
        show (fl || leS s l[i]) = _
        revert hcc
        cases fl <;> cases leS s l[i] <;> simp
      refine c_skip (x_blk (x_seq (c_reg (l_p 1 tK rfl ?_))))
      refine lC (o_ai rfl rfl rfl (by omega) rfl rfl ?_)
      refine l_p 1 tK rfl (l_nil ?_)
      exact x_round5 (i + 1) (v5) (M1) ((stW s (out, fl) l[i]).1) ((stW s (out, fl) l[i]).2) (s5 rfl rfl rfl (get_bool rfl (by rw [he2])) (get_num rfl (by omega))) ⟨by omega, by rw [withP_step hil, ← hst], by rw [show (stW s (out, fl) l[i]).1 = _ from (by unfold stW; rw [if_pos (by assumption), if_neg hcc])]; exact ho, hs, hlow, hsub, hE, hB⟩ (by omega)
    refine l_p 7 tK rfl (q1 (c_ifF rfl (c_skip (x_seq (q0 (l_p 2 tK rfl ?_))))))
    have hil : i < l.length := by omega
    refine lC (o_ixS tK hs (List.getElem?_eq_getElem hil) rfl rfl rfl rfl rfl rfl rfl rfl rfl ?_)
    intro ebz11 eoz11 euz11 hrz11 hatz11
    obtain ⟨rfl, hszz11⟩ := hrz11
    refine lC (o_ld tK (hatz11.cell 0 _ rfl) rfl rfl rfl rfl rfl ?_)
    refine l_p 2 tK rfl (q1 ?_)
    refine c_ifN _ rfl (fun c12 => ?_) (fun c12 => ?_)
    · have hcc : ¬ (fl = false ∧ leS s l[i] = true) := by simp_all [leS]
      have he2 : (stW s (out, fl) l[i]).2 = fl := by
        show (fl || leS s l[i]) = _
        revert hcc
        cases fl <;> cases leS s l[i] <;> simp
      refine c_reg (l_p 3 tK rfl ?_)
      refine lC (o_ixS tK hs (List.getElem?_eq_getElem hil) rfl rfl rfl rfl rfl rfl rfl rfl rfl ?_)
      intro ebz13 eoz13 euz13 hrz13 hatz13
      obtain ⟨rfl, hszz13⟩ := hrz13
      refine lC (o_ld tK (hatz13.cell 0 _ rfl) rfl rfl rfl rfl rfl ?_)
      refine lC (o_bs tK rfl rfl rfl rfl rfl rfl rfl (sz1 rfl) rfl rfl rfl ?_)
      intro bw8 w8 qbw8 ew8 hbw8
      have nbw8 := nM_of hlow qbw8
      replace ho := ho.ext hlow hB ew8
      replace hE := ew8.bl hE hB
      replace hs := hs.ext ew8
      replace hlow := hlow.ext ew8
      replace hB := ew8.z hB
      refine lC (o_app1 tK ho hbw8 nbw8 (show Rep.R _ _ _ l[i] from ⟨rfl, hszz13⟩) hlow hB rfl rfl rfl rfl rfl rfl rfl (by first | omega | (simp; omega)) (by show (_ + _) * 16 ≤ _; first | omega | (simp; omega)) rfl rfl ?_)
      intro vw9 w9 Mw9 hw9 sw9 frw9 blw9
      replace hE := hE.trans sw9.below
      replace hs := hs.stp sw9
      replace hsub := sw9.sb hsub
      replace hlow := sw9.low
      replace hB := sw9.z hB
      replace ho := hw9
      clear hw9
      refine l_p 1 tK rfl (q2 (x_seq (c_reg (l_p 1 tK rfl ?_))))
      refine lC (o_ai rfl rfl rfl (by omega) rfl rfl ?_)
      refine l_p 1 tK rfl (l_nil ?_)
      exact x_round5 (i + 1) (vw9) (Mw9) ((stW s (out, fl) l[i]).1) ((stW s (out, fl) l[i]).2) (s5 rfl rfl rfl (get_bool rfl (by rw [he2])) (get_num rfl (by omega))) ⟨by omega, by rw [withP_step hil, ← hst], by rw [show (stW s (out, fl) l[i]).1 = _ from (by unfold stW; rw [if_neg (by assumption), if_neg hcc])]; exact ho, hs, hlow, hsub, hE, hB⟩ (by omega)
    have hcc : ¬ (fl = false ∧ leS s l[i] = true) := by simp_all [leS]
    have he2 : (stW s (out, fl) l[i]).2 = fl := by
      show (fl || leS s l[i]) = _
      revert hcc
      cases fl <;> cases leS s l[i] <;> simp
    refine c_skip (x_blk (x_seq (c_reg (l_p 1 tK rfl ?_))))
    refine lC (o_ai rfl rfl rfl (by omega) rfl rfl ?_)
    refine l_p 1 tK rfl (l_nil ?_)
    exact x_round5 (i + 1) (v5) (M1) ((stW s (out, fl) l[i]).1) ((stW s (out, fl) l[i]).2) (s5 rfl rfl rfl (get_bool rfl (by rw [he2])) (get_num rfl (by omega))) ⟨by omega, by rw [withP_step hil, ← hst], by rw [show (stW s (out, fl) l[i]).1 = _ from (by unfold stW; rw [if_pos (by assumption), if_neg hcc])]; exact ho, hs, hlow, hsub, hE, hB⟩ (by omega)
  refine c_exit (x_seqE (x_seqE (x_blkE (x_seq (c_seq (q0 (l_p 2 tK rfl (q1 ?_))))))))
  refine c_ifB _ rfl (fun c14 => ?_) (fun c14 => ?_)
  · refine c_reg (l_p 2 tK rfl ?_)
    refine lC (o_bs tK rfl rfl rfl rfl rfl rfl rfl (sz1 rfl) rfl rfl rfl ?_)
    intro bw10 w10 qbw10 ew10 hbw10
    have nbw10 := nM_of hlow qbw10
    replace ho := ho.ext hlow hB ew10
    replace hE := ew10.bl hE hB
    replace hs := hs.ext ew10
    replace hlow := hlow.ext ew10
    replace hB := ew10.z hB
    refine lC (o_app1 tK ho hbw10 nbw10 (show Rep.R _ _ _ s from ⟨rfl, hss⟩) hlow hB rfl rfl rfl rfl rfl rfl rfl (by first | omega | (simp; omega)) (by show (_ + _) * 16 ≤ _; first | omega | (simp; omega)) rfl rfl ?_)
    intro vw11 w11 Mw11 hw11 sw11 frw11 blw11
    replace hE := hE.trans sw11.below
    replace hs := hs.stp sw11
    replace hsub := sw11.sb hsub
    replace hlow := sw11.low
    replace hB := sw11.z hB
    replace ho := hw11
    clear hw11
    refine l_p 1 tK rfl (q1 (q0 (l_p 2 tK rfl (q1 (c_ret (x_ret1 rfl rfl ?_))))))
    obtain rfl : i = l.length := by omega
    rw [List.take_of_length_le (Nat.le_refl _)] at hst
    have hfl : fl = false := by simpa using c14
    have hw : withL l s = out ++ [s] := by unfold withL; rw [← hst, hfl]; rfl
    rw [hw]
    exact ⟨ho.sl (by simp; omega) hlow0 hsub, hE⟩
  refine c_skip (x_seq (q0 (l_p 2 tK rfl (q1 (c_ret (x_ret1 rfl rfl ?_))))))
  obtain rfl : i = l.length := by omega
  rw [List.take_of_length_le (Nat.le_refl _)] at hst
  have hfl : fl = true := by simpa using c14
  have hw : withL l s = out := by unfold withL; rw [← hst, hfl]; rfl
  rw [hw]
  exact ⟨ho.sl (by omega) hlow0 hsub, hE⟩
theorem freeR_spec : ∀ (t : Tm) (M : Nat → Prop) (w : World) (v : Value), Rep.R M w v t → Low M w → nsz t ≤ 2000000 → Calls Tryz.prog 22 #[v] w (Ret fun r w' => Sl M w' r (freeR t) ∧ Ext w w') := by
  refine Tm.ind fun t ih => ?_
  intro M w v ht hlow hsz
  have hE : Below w.heap.size w w := Below.refl _ _
  have hB : w.heap.size ≤ w.heap.size := Nat.le_refl _
  obtain ⟨akv, kv, rfl, op, nm, ag, n64, ha, hk⟩ := tm_open ht
  have hps := nsz_eq t
  have hkl := len_nsz t.kids
  refine c_enter (n := 77) Tryz.func22 rfl rfl rfl ?_
  refine q0 ?_
  refine lC (o_box rfl rfl rfl ?_)
  intro b1 w1 hb_b1 ew1 h1
  replace h1 : Box _ b1 28 [.int .u8 t.op, .string t.name, .string t.arg, .int .i64 t.n, .bool t.has, .int .u8 t.ann.op, .string t.ann.name, .int .i64 t.ann.n, akv, kv] := h1
  replace h1 := h1.at (nM_of hlow hb_b1)
  replace hE := ew1.bl hE hB
  replace ht := Rep.ext ht ew1
  replace ha := Rep.ext ha ew1
  replace hk := hk.ext ew1
  replace hlow := hlow.ext ew1
  replace hB := ew1.z hB
  refine l_p 1 tK rfl (q1 (c_seq (q0 (l_p 1 tK rfl ?_))))
  refine lC (o_ld tK (h1.cell 0 _ rfl) rfl rfl rfl rfl rfl ?_)
  refine l_p 1 tK rfl (q1 ?_)
  refine c_ifP _ rfl (fun c1 => ?_) (fun c1 => ?_)
  · refine q0 (l_p 1 tK rfl ?_)
    refine lC (o_ld tK (h1.cell 1 _ rfl) rfl rfl rfl rfl rfl ?_)
    refine lC (o_bs tK rfl rfl rfl rfl rfl rfl rfl (sz1 rfl) rfl rfl rfl ?_)
    intro bw2 w2 qbw2 ew2 hbw2
    have nbw2 := nM_of hlow qbw2
    replace hE := ew2.bl hE hB
    replace ht := Rep.ext ht ew2
    replace ha := Rep.ext ha ew2
    replace hk := hk.ext ew2
    replace h1 := h1.ext ew2
    replace hlow := hlow.ext ew2
    replace hB := ew2.z hB
    have hs1 : Sl M w2 (.slice (some ⟨bw2, 0, none⟩) 1 1) [t.name] := lit_sl hbw2 nbw2 (show Rs _ _ [_] [t.name] from ⟨⟨rfl, nm⟩, trivial⟩) (by simp)
    refine l_p 1 tK rfl (q1 (c_ret (x_seqR (x_ret1 rfl rfl ?_))))
    rw [freeR_eq, if_pos (by omega)]
    exact ⟨hs1, hE⟩
  refine c_skip (x_seq (q0 (l_p 1 tK rfl (q1 (c_seq (q0 (l_p 1 tK rfl (q1 (c_blk ?_)))))))))
  have ho32 : t.op ≠ 32 := by omega
  refine c_loop2 (X := Nat) (Y := Value) (fun i vo => [(1, .pointer (some ⟨b1, 0, none⟩)), (3, vo), (4, .int .i64 (i : Nat))]) (fun i vo w' => i ≤ t.kids.length ∧ Sl M w' vo (freeTo t i) ∧ At M w' b1 0 [.int .u8 t.op, .string t.name, .string t.arg, .int .i64 t.n, .bool t.has, .int .u8 t.ann.op, .string t.ann.name, .int .i64 t.ann.n, akv, kv] ∧ Sl M w' kv t.kids ∧ Low M w' ∧ Below w.heap.size w w' ∧ w.heap.size ≤ w'.heap.size) (fun i vo => t.kids.length - i) (0) (.slice none 0 0) (s3 rfl rfl rfl) ?_ ?_
  · exact ⟨Nat.zero_le _, sl_nil, h1, hk, hlow, hE, hB⟩
  clear ht ha h1 hk hlow hE hB
  rintro i vo w3 ⟨hi, hvo, h1, hk, hlow, hE, hB⟩
  refine c_seq (q0 (l_p 2 tK rfl ?_))
  refine lC (o_ld tK (h1.cell 9 _ rfl) rfl rfl rfl rfl rfl ?_)
  refine lC (o_len tK hk rfl rfl rfl rfl rfl ?_)
  refine l_p 1 tK rfl (q1 ?_)
  refine c_ifP _ rfl (fun c2 => ?_) (fun c2 => ?_)
  · refine c_skip (x_seq (c_seq (c_blk (q0 (l_p 1 tK rfl ?_)))))
    refine lC (o_ld tK (h1.cell 9 _ rfl) rfl rfl rfl rfl rfl ?_)
    refine l_p 1 tK rfl ?_
    have hik : i < t.kids.length := by omega
    have hp1 := nsz_get hik
    refine lC (o_ixS tK hk (List.getElem?_eq_getElem hik) rfl rfl rfl rfl rfl rfl rfl rfl rfl ?_)
    intro ebx eox eux hyx hatx
    obtain ⟨akvx, kvx, rfl, opx, nmx, agx, n64x, hax, hkx⟩ := tm_open hyx
    replace hatx : At M w3 ebx eox [.int .u8 t.kids[i].op, .string t.kids[i].name, .string t.kids[i].arg, .int .i64 t.kids[i].n, .bool t.kids[i].has, .int .u8 t.kids[i].ann.op, .string t.kids[i].ann.name, .int .i64 t.kids[i].ann.n, akvx, kvx] := hatx
    refine lC (o_lds tK (fun j v hv => hatx.cell j v hv) rfl rfl rfl rfl rfl rfl ?_)
    refine lC (o_call fo22 rfl rfl rfl (ih _ (List.getElem_mem hik) M _ _ hyx hlow (by omega)) ?_)
    rintro vhf0 w4 ⟨hf0, ew4⟩
    replace hE := ew4.bl hE hB
    replace hvo := hvo.ext ew4
    replace h1 := h1.ext ew4
    replace hk := hk.ext ew4
    replace hyx := Rep.ext hyx ew4
    replace hax := Rep.ext hax ew4
    replace hkx := hkx.ext ew4
    replace hatx := hatx.ext ew4
    replace hlow := hlow.ext ew4
    replace hB := ew4.z hB
    have hfl := freeR_len t.kids[i]
    refine l_p 1 tK rfl (q1 ?_)
    refine c_cut (X := Value) (fun vl => [(1, .pointer (some ⟨b1, 0, none⟩)), (3, vo), (4, .int .i64 (i : Nat)), (5, vl)]) (fun vl w' => Sl M w' vl (cutA t.op t.arg (freeR t.kids[i])) ∧ Sl M w' vo (freeTo t i) ∧ At M w' b1 0 [.int .u8 t.op, .string t.name, .string t.arg, .int .i64 t.n, .bool t.has, .int .u8 t.ann.op, .string t.ann.name, .int .i64 t.ann.n, akv, kv] ∧ Sl M w' kv t.kids ∧ Low M w' ∧ Below w.heap.size w w' ∧ w.heap.size ≤ w'.heap.size) ?_ ?_
    · refine q0 (l_p 1 tK rfl ?_)
      refine lC (o_ld tK (h1.cell 0 _ rfl) rfl rfl rfl rfl rfl ?_)
      refine l_p 2 tK rfl ?_
      refine l_splitP 29 _ rfl (fun c3 => ?_) (fun c3 => ?_)
      · refine l_p 14 tK rfl (q1 (c_ifT rfl (c_reg (l_p 2 tK rfl ?_))))
        refine lC (o_ld tK (h1.cell 2 _ rfl) rfl rfl rfl rfl rfl ?_)
        refine lC (o_call fo39 rfl rfl rfl (without_spec (freeR t.kids[i]) _ M _ _ hf0 hlow (by omega)) ?_)
        rintro vhwo4 w5 ⟨hwo4, ew5⟩
        replace hE := ew5.bl hE hB
        replace hvo := hvo.ext ew5
        replace h1 := h1.ext ew5
        replace hk := hk.ext ew5
        replace hyx := Rep.ext hyx ew5
        replace hax := Rep.ext hax ew5
        replace hkx := hkx.ext ew5
        replace hatx := hatx.ext ew5
        replace hf0 := hf0.ext ew5
        replace hlow := hlow.ext ew5
        replace hB := ew5.z hB
        refine l_p 1 tK rfl (l_nil ?_)
        exact x_cut (vhwo4) (s4 rfl rfl rfl rfl) ⟨by rw [show cutA t.op t.arg (freeR t.kids[i]) = _ from if_pos (by omega)]; exact hwo4, hvo, h1, hk, hlow, hE, hB⟩
      refine l_p 1 tK rfl ?_
      refine lC (o_ld tK (h1.cell 0 _ rfl) rfl rfl rfl rfl rfl ?_)
      refine l_p 3 tK rfl ?_
      refine l_splitP 34 _ rfl (fun c5 => ?_) (fun c5 => ?_)
      · refine l_p 9 tK rfl (q1 (c_ifT rfl (c_reg (l_p 2 tK rfl ?_))))
        refine lC (o_ld tK (h1.cell 2 _ rfl) rfl rfl rfl rfl rfl ?_)
        refine lC (o_call fo39 rfl rfl rfl (without_spec (freeR t.kids[i]) _ M _ _ hf0 hlow (by omega)) ?_)
        rintro vhwo6 w6 ⟨hwo6, ew6⟩
        replace hE := ew6.bl hE hB
        replace hvo := hvo.ext ew6
        replace h1 := h1.ext ew6
        replace hk := hk.ext ew6
        replace hyx := Rep.ext hyx ew6
        replace hax := Rep.ext hax ew6
        replace hkx := hkx.ext ew6
        replace hatx := hatx.ext ew6
        replace hf0 := hf0.ext ew6
        replace hlow := hlow.ext ew6
        replace hB := ew6.z hB
        refine l_p 1 tK rfl (l_nil ?_)
        exact x_cut (vhwo6) (s4 rfl rfl rfl rfl) ⟨by rw [show cutA t.op t.arg (freeR t.kids[i]) = _ from if_pos (by omega)]; exact hwo6, hvo, h1, hk, hlow, hE, hB⟩
      refine l_p 1 tK rfl ?_
      refine lC (o_ld tK (h1.cell 0 _ rfl) rfl rfl rfl rfl rfl ?_)
      refine l_p 3 tK rfl ?_
      refine l_splitP 39 _ rfl (fun c7 => ?_) (fun c7 => ?_)
      · refine l_p 4 tK rfl (q1 (c_ifT rfl (c_reg (l_p 2 tK rfl ?_))))
        refine lC (o_ld tK (h1.cell 2 _ rfl) rfl rfl rfl rfl rfl ?_)
        refine lC (o_call fo39 rfl rfl rfl (without_spec (freeR t.kids[i]) _ M _ _ hf0 hlow (by omega)) ?_)
        rintro vhwo8 w7 ⟨hwo8, ew7⟩
        replace hE := ew7.bl hE hB
        replace hvo := hvo.ext ew7
        replace h1 := h1.ext ew7
        replace hk := hk.ext ew7
        replace hyx := Rep.ext hyx ew7
        replace hax := Rep.ext hax ew7
        replace hkx := hkx.ext ew7
        replace hatx := hatx.ext ew7
        replace hf0 := hf0.ext ew7
        replace hlow := hlow.ext ew7
        replace hB := ew7.z hB
        refine l_p 1 tK rfl (l_nil ?_)
        exact x_cut (vhwo8) (s4 rfl rfl rfl rfl) ⟨by rw [show cutA t.op t.arg (freeR t.kids[i]) = _ from if_pos (by omega)]; exact hwo8, hvo, h1, hk, hlow, hE, hB⟩
      refine l_p 1 tK rfl ?_
      refine lC (o_ld tK (h1.cell 0 _ rfl) rfl rfl rfl rfl rfl ?_)
      refine l_p 2 tK rfl (q1 ?_)
      refine c_ifP _ rfl (fun c9 => ?_) (fun c9 => ?_)
      · refine c_reg (l_p 2 tK rfl ?_)
        refine lC (o_ld tK (h1.cell 2 _ rfl) rfl rfl rfl rfl rfl ?_)
        refine lC (o_call fo39 rfl rfl rfl (without_spec (freeR t.kids[i]) _ M _ _ hf0 hlow (by omega)) ?_)
        rintro vhwo10 w8 ⟨hwo10, ew8⟩
        replace hE := ew8.bl hE hB
        replace hvo := hvo.ext ew8
        replace h1 := h1.ext ew8
        replace hk := hk.ext ew8
        replace hyx := Rep.ext hyx ew8
        replace hax := Rep.ext hax ew8
        replace hkx := hkx.ext ew8
        replace hatx := hatx.ext ew8
        replace hf0 := hf0.ext ew8
        replace hlow := hlow.ext ew8
        replace hB := ew8.z hB
        refine l_p 1 tK rfl (l_nil ?_)
        exact x_cut (vhwo10) (s4 rfl rfl rfl rfl) ⟨by rw [show cutA t.op t.arg (freeR t.kids[i]) = _ from if_pos (by omega)]; exact hwo10, hvo, h1, hk, hlow, hE, hB⟩
      refine c_skip ?_
      exact x_cut (vhf0) (s4 rfl rfl rfl rfl) ⟨by rw [show cutA t.op t.arg (freeR t.kids[i]) = _ from if_neg (by omega)]; exact hf0, hvo, h1, hk, hlow, hE, hB⟩
    clear hvo h1 hk hlow hE hB
    rintro vl w810 ⟨hl10, hvo, h1, hk, hlow, hE, hB⟩
    refine c_cut (X := Value) (fun vl => [(1, .pointer (some ⟨b1, 0, none⟩)), (3, vo), (4, .int .i64 (i : Nat)), (5, vl)]) (fun vl w' => Sl M w' vl ((cutN t.op t.name i (cutA t.op t.arg (freeR t.kids[i])))) ∧ Sl M w' vo (freeTo t i) ∧ At M w' b1 0 [.int .u8 t.op, .string t.name, .string t.arg, .int .i64 t.n, .bool t.has, .int .u8 t.ann.op, .string t.ann.name, .int .i64 t.ann.n, akv, kv] ∧ Sl M w' kv t.kids ∧ Low M w' ∧ Below w.heap.size w w' ∧ w.heap.size ≤ w'.heap.size) ?_ ?_
    · refine q0 (l_p 1 tK rfl ?_)
      refine lC (o_ld tK (h1.cell 0 _ rfl) rfl rfl rfl rfl rfl ?_)
      refine l_p 2 tK rfl ?_
      refine l_splitP 51 _ rfl (fun c11 => ?_) (fun c11 => ?_)
      · refine l_p 8 tK rfl (q1 (c_ifT rfl (c_reg (l_p 2 tK rfl ?_))))
        refine lC (o_ld tK (h1.cell 1 _ rfl) rfl rfl rfl rfl rfl ?_)
        have hla := (cut_len t.op t.name t.arg i (freeR t.kids[i])).1
        have hfl := freeR_len t.kids[i]
        refine lC (o_call fo39 rfl rfl rfl (without_spec (cutA t.op t.arg (freeR t.kids[i])) _ M _ _ hl10 hlow (by omega)) ?_)
        rintro vhwo12 w9 ⟨hwo12, ew9⟩
        replace hE := ew9.bl hE hB
        replace hl10 := hl10.ext ew9
        replace hvo := hvo.ext ew9
        replace h1 := h1.ext ew9
        replace hk := hk.ext ew9
        replace hlow := hlow.ext ew9
        replace hB := ew9.z hB
        refine l_p 1 tK rfl (l_nil ?_)
        exact x_cut (vhwo12) (s4 rfl rfl rfl rfl) ⟨by rw [show (cutN t.op t.name i (cutA t.op t.arg (freeR t.kids[i]))) = _ from if_pos (by omega)]; exact hwo12, hvo, h1, hk, hlow, hE, hB⟩
      refine l_p 1 tK rfl ?_
      refine lC (o_ld tK (h1.cell 0 _ rfl) rfl rfl rfl rfl rfl ?_)
      refine l_p 2 tK rfl ?_
      refine l_splitP 55 _ rfl (fun c13 => ?_) (fun c13 => ?_)
      · refine l_p 4 tK rfl (q1 ?_)
        refine c_ifP _ rfl (fun c14 => ?_) (fun c14 => ?_)
        · refine c_reg (l_p 2 tK rfl ?_)
          refine lC (o_ld tK (h1.cell 1 _ rfl) rfl rfl rfl rfl rfl ?_)
          have hla := (cut_len t.op t.name t.arg i (freeR t.kids[i])).1
          have hfl := freeR_len t.kids[i]
          refine lC (o_call fo39 rfl rfl rfl (without_spec (cutA t.op t.arg (freeR t.kids[i])) _ M _ _ hl10 hlow (by omega)) ?_)
          rintro vhwo15 w10 ⟨hwo15, ew10⟩
          replace hE := ew10.bl hE hB
          replace hl10 := hl10.ext ew10
          replace hvo := hvo.ext ew10
          replace h1 := h1.ext ew10
          replace hk := hk.ext ew10
          replace hlow := hlow.ext ew10
          replace hB := ew10.z hB
          refine l_p 1 tK rfl (l_nil ?_)
          exact x_cut (vhwo15) (s4 rfl rfl rfl rfl) ⟨by rw [show (cutN t.op t.name i (cutA t.op t.arg (freeR t.kids[i]))) = _ from if_pos (by omega)]; exact hwo15, hvo, h1, hk, hlow, hE, hB⟩
        refine c_skip ?_
        exact x_cut (vl) (s4 rfl rfl rfl rfl) ⟨by rw [show (cutN t.op t.name i (cutA t.op t.arg (freeR t.kids[i]))) = _ from if_neg (by omega)]; exact hl10, hvo, h1, hk, hlow, hE, hB⟩
      refine l_p 4 tK rfl (q1 (c_ifF rfl (c_skip ?_)))
      exact x_cut (vl) (s4 rfl rfl rfl rfl) ⟨by rw [show (cutN t.op t.name i (cutA t.op t.arg (freeR t.kids[i]))) = _ from if_neg (by omega)]; exact hl10, hvo, h1, hk, hlow, hE, hB⟩
    clear hvo h1 hk hlow hE hB hl10
    rintro vl w812 ⟨hl12, hvo, h1, hk, hlow, hE, hB⟩
    have hll := (cut_len t.op t.name t.arg i (freeR t.kids[i])).2
    have hfl := freeR_len t.kids[i]
    have hft := freeTo_len t (Nat.le_of_lt hik)
    have htk := take_nsz t.kids i
    have htk1 := take_nsz t.kids (i + 1)
    have htk2 := nszs_take hik
    refine q0 (l_p 1 tK rfl (q1 (c_blk ?_)))
    refine c_loop2 (X := Nat) (Y := Value) (fun k vp => [(1, .pointer (some ⟨b1, 0, none⟩)), (3, vp), (4, .int .i64 (i : Nat)), (5, vl), (6, .int .i64 (k : Nat))]) (fun k vp w' => k ≤ (cutN t.op t.name i (cutA t.op t.arg (freeR t.kids[i]))).length ∧ Sl M w' vp (allW ((cutN t.op t.name i (cutA t.op t.arg (freeR t.kids[i]))).take k) (freeTo t i)) ∧ Sl M w' vl (cutN t.op t.name i (cutA t.op t.arg (freeR t.kids[i]))) ∧ At M w' b1 0 [.int .u8 t.op, .string t.name, .string t.arg, .int .i64 t.n, .bool t.has, .int .u8 t.ann.op, .string t.ann.name, .int .i64 t.ann.n, akv, kv] ∧ Sl M w' kv t.kids ∧ Low M w' ∧ Below w.heap.size w w' ∧ w.heap.size ≤ w'.heap.size) (fun k vp => (cutN t.op t.name i (cutA t.op t.arg (freeR t.kids[i]))).length - k) (0) (vo) (s5 rfl rfl rfl rfl rfl) ?_ ?_
    · exact ⟨Nat.zero_le _, hvo, hl12, h1, hk, hlow, hE, hB⟩
    clear hvo hl12 h1 hk hlow hE hB
    rintro k vp w11 ⟨hkk, hvp, hl, h1, hk, hlow, hE, hB⟩
    have hal := allW_len ((cutN t.op t.name i (cutA t.op t.arg (freeR t.kids[i]))).take k) (freeTo t i)
    rw [List.length_take] at hal
    refine c_seq (q0 (l_p 2 tK rfl ?_))
    refine lC (o_len tK hl rfl rfl rfl rfl rfl ?_)
    refine l_p 1 tK rfl (q1 ?_)
    refine c_ifP _ rfl (fun c16 => ?_) (fun c16 => ?_)
    · refine c_skip (x_seq (c_seq (c_blk (c_reg (l_p 3 tK rfl ?_)))))
      have hkl2 : k < (cutN t.op t.name i (cutA t.op t.arg (freeR t.kids[i]))).length := by omega
      refine lC (o_ixS tK hl (List.getElem?_eq_getElem hkl2) rfl rfl rfl rfl rfl rfl rfl rfl rfl ?_)
      intro ebq eoq euq hrq hatq
      obtain ⟨rfl, hszq⟩ := hrq
      refine lC (o_ld tK (hatq.cell 0 _ rfl) rfl rfl rfl rfl rfl ?_)
      refine lC (o_call fo40 rfl rfl rfl (with_spec _ _ hszq M _ _ hvp hlow (by omega)) ?_)
      rintro vhw w12 ⟨hw, ew12⟩
      replace hE := ew12.bl hE hB
      replace hvp := hvp.ext ew12
      replace hl := hl.ext ew12
      replace h1 := h1.ext ew12
      replace hk := hk.ext ew12
      replace hlow := hlow.ext ew12
      replace hB := ew12.z hB
      refine l_p 1 tK rfl (q2 (x_seq (c_reg (l_p 1 tK rfl ?_))))
      refine lC (o_ai rfl rfl rfl (by omega) rfl rfl ?_)
      refine l_p 1 tK rfl (l_nil ?_)
      exact x_round2 (k + 1) (vhw) (s5 rfl rfl rfl rfl (get_num rfl (by omega))) ⟨by omega, by rw [allW_step hkl2]; exact hw, hl, h1, hk, hlow, hE, hB⟩ (by omega)
    refine c_exit (x_seqE (x_seqE (x_blkE (x_blk (x_seq (c_reg (l_p 1 tK rfl ?_)))))))
    refine lC (o_ai rfl rfl rfl (by omega) rfl rfl ?_)
    refine l_p 1 tK rfl (l_nil ?_)
    exact x_round2 (i + 1) (vp) (s3 rfl rfl (get_num rfl (by omega))) ⟨by omega, by rw [List.take_of_length_le (by omega)] at hvp; rw [freeTo_step hik]; exact hvp, h1, hk, hlow, hE, hB⟩ (by omega)
  refine c_exit (x_seqE (x_seqE (x_blkE (x_seq (q0 (l_p 2 tK rfl (q1 (c_ret (x_ret1 rfl rfl ?_)))))))))
  obtain rfl : i = t.kids.length := by omega
  rw [freeTo_all ho32] at hvo
  exact ⟨hvo, hE⟩
theorem value_spec : ∀ (t : Tm) (b : Bool) (M : Nat → Prop) (w : World) (v : Value), rightT t b = true → Rep.R M w v t → Low M w → Calls Tryz.prog 37 #[v] w (Ret fun r w' => r = .bool (valF t) ∧ Ext w w') := by
  refine Tm.ind fun t ih => ?_
  intro b M w v hr ht hlow
  have hE : Below w.heap.size w w := Below.refl _ _
  have hB : w.heap.size ≤ w.heap.size := Nat.le_refl _
  obtain ⟨akv, kv, rfl, op, nm, ag, n64, ha, hk⟩ := tm_open ht
  obtain ⟨hrl, hrk, hro, _⟩ := right_kids hr
  refine c_enter (n := 47) Tryz.func37 rfl rfl rfl ?_
  refine q0 ?_
  refine lC (o_box rfl rfl rfl ?_)
  intro b1 w1 hb_b1 ew1 h1
  replace h1 : Box _ b1 28 [.int .u8 t.op, .string t.name, .string t.arg, .int .i64 t.n, .bool t.has, .int .u8 t.ann.op, .string t.ann.name, .int .i64 t.ann.n, akv, kv] := h1
  replace h1 := h1.at (nM_of hlow hb_b1)
  replace hE := ew1.bl hE hB
  replace ht := Rep.ext ht ew1
  replace ha := Rep.ext ha ew1
  replace hk := hk.ext ew1
  replace hlow := hlow.ext ew1
  replace hB := ew1.z hB
  refine l_p 1 tK rfl (q1 (c_seq (q0 (l_p 1 tK rfl ?_))))
  refine lC (o_ld tK (h1.cell 0 _ rfl) rfl rfl rfl rfl rfl ?_)
  refine q1 (c_blk (c_seq (q0 (l_p 2 tK rfl (q1 ?_)))))
  refine c_splitP 6 _ rfl (fun c1 => c_ifT rfl ?_) (fun c1 => c_ifF rfl ?_)
  · refine c_skip (x_seq (c_ifT rfl (q0 (l_p 1 tK rfl (q1 (c_ret (x_blkR (x_seqR (x_ret1 rfl rfl ?_)))))))))
    exact ⟨by rw [val_yes (by omega)], hE⟩
  refine q0 (l_p 2 tK rfl (q1 ?_))
  refine c_splitP 6 _ rfl (fun c2 => c_ifT rfl ?_) (fun c2 => c_ifF rfl ?_)
  · refine c_skip (x_seq (c_ifT rfl (q0 (l_p 1 tK rfl (q1 (c_ret (x_blkR (x_seqR (x_ret1 rfl rfl ?_)))))))))
    exact ⟨by rw [val_yes (by omega)], hE⟩
  refine q0 (l_p 2 tK rfl (q1 ?_))
  refine c_splitP 6 _ rfl (fun c3 => c_ifT rfl ?_) (fun c3 => c_ifF rfl ?_)
  · refine c_skip (x_seq (c_ifT rfl (q0 (l_p 1 tK rfl (q1 (c_ret (x_blkR (x_seqR (x_ret1 rfl rfl ?_)))))))))
    exact ⟨by rw [val_yes (by omega)], hE⟩
  refine q0 (l_p 2 tK rfl (q1 ?_))
  refine c_splitP 6 _ rfl (fun c4 => c_ifT rfl ?_) (fun c4 => c_ifF rfl ?_)
  · refine c_skip (x_seq (c_ifT rfl (q0 (l_p 1 tK rfl (q1 (c_ret (x_blkR (x_seqR (x_ret1 rfl rfl ?_)))))))))
    exact ⟨by rw [val_yes (by omega)], hE⟩
  refine q0 (l_p 2 tK rfl (q1 ?_))
  refine c_splitP 6 _ rfl (fun c5 => c_ifT rfl ?_) (fun c5 => c_ifF rfl ?_)
  · refine c_skip (x_seq (c_ifT rfl (q0 (l_p 1 tK rfl (q1 (c_ret (x_blkR (x_seqR (x_ret1 rfl rfl ?_)))))))))
    exact ⟨by rw [val_yes (by omega)], hE⟩
  refine c_reg (l_p 2 tK rfl (q1 ?_))
  refine c_splitP 6 _ rfl (fun c6 => c_ifT rfl ?_) (fun c6 => c_ifF rfl ?_)
  · refine q0 (l_p 1 tK rfl (q1 (c_ret (x_blkR (x_seqR (x_ret1 rfl rfl ?_))))))
    exact ⟨by rw [val_yes (by omega)], hE⟩
  refine q0 (l_p 2 tK rfl (q1 ?_))
  refine c_ifP _ rfl (fun c7 => ?_) (fun c7 => ?_)
  · refine q0 (l_p 1 tK rfl ?_)
    refine lC (o_ld tK (h1.cell 9 _ rfl) rfl rfl rfl rfl rfl ?_)
    have hn1 : t.op = 46 ∨ t.op = 42 := by omega
    have h0k : 0 < t.kids.length := by
      rcases hn1 with e | e
      · have h8 := shp_one (op := t.op) (by omega)
        have := hrl h8.2
        omega
      · have h8 := shp_two (op := t.op) (by omega)
        have := hrl h8.2
        omega
    have h1k : t.op = 42 → 1 < t.kids.length := fun e => by
      have h8 := shp_two (op := t.op) (by omega)
      have := hrl h8.2
      omega
    obtain ⟨bk0, hbk0⟩ := hrk _ (List.getElem_mem h0k)
    refine lC (o_ixS tK hk (List.getElem?_eq_getElem h0k) rfl rfl rfl rfl rfl rfl rfl rfl rfl ?_)
    intro ebq8 eoq8 euq8 hyq8 hatq8
    obtain ⟨akvq8, kvq8, rfl, opq8, nmq8, agq8, n64q8, haq8, hkq8⟩ := tm_open hyq8
    replace hatq8 : At M w1 ebq8 eoq8 [.int .u8 t.kids[0].op, .string t.kids[0].name, .string t.kids[0].arg, .int .i64 t.kids[0].n, .bool t.kids[0].has, .int .u8 t.kids[0].ann.op, .string t.kids[0].ann.name, .int .i64 t.kids[0].ann.n, akvq8, kvq8] := hatq8
    refine lC (o_lds tK (fun j v hv => hatq8.cell j v hv) rfl rfl rfl rfl rfl rfl ?_)
    refine lC (o_call fo37 rfl rfl rfl (ih _ (List.getElem_mem h0k) bk0 M _ _ hbk0 hyq8 hlow) ?_)
    rintro _ w2 ⟨rfl, ew2⟩
    replace hE := ew2.bl hE hB
    replace ht := Rep.ext ht ew2
    replace ha := Rep.ext ha ew2
    replace hk := hk.ext ew2
    replace h1 := h1.ext ew2
    replace hyq8 := Rep.ext hyq8 ew2
    replace haq8 := Rep.ext haq8 ew2
    replace hkq8 := hkq8.ext ew2
    replace hatq8 := hatq8.ext ew2
    replace hlow := hlow.ext ew2
    replace hB := ew2.z hB
    refine l_p 1 tK rfl (q1 (c_ret (x_blkR (x_seqR (x_ret1 rfl rfl ?_)))))
    exact ⟨by rw [val_roll (by omega) h0k], hE⟩
  refine q0 (l_p 2 tK rfl (q1 ?_))
  refine c_ifP _ rfl (fun c9 => ?_) (fun c9 => ?_)
  · refine q0 (l_p 1 tK rfl ?_)
    refine lC (o_ld tK (h1.cell 9 _ rfl) rfl rfl rfl rfl rfl ?_)
    have hn1 : t.op = 46 ∨ t.op = 42 := by omega
    have h0k : 0 < t.kids.length := by
      rcases hn1 with e | e
      · have h8 := shp_one (op := t.op) (by omega)
        have := hrl h8.2
        omega
      · have h8 := shp_two (op := t.op) (by omega)
        have := hrl h8.2
        omega
    have h1k : t.op = 42 → 1 < t.kids.length := fun e => by
      have h8 := shp_two (op := t.op) (by omega)
      have := hrl h8.2
      omega
    obtain ⟨bk0, hbk0⟩ := hrk _ (List.getElem_mem h0k)
    have h1k := h1k (by omega)
    obtain ⟨bk1, hbk1⟩ := hrk _ (List.getElem_mem h1k)
    refine lC (o_ixS tK hk (List.getElem?_eq_getElem h1k) rfl rfl rfl rfl rfl rfl rfl rfl rfl ?_)
    intro ebq10 eoq10 euq10 hyq10 hatq10
    obtain ⟨akvq10, kvq10, rfl, opq10, nmq10, agq10, n64q10, haq10, hkq10⟩ := tm_open hyq10
    replace hatq10 : At M w1 ebq10 eoq10 [.int .u8 t.kids[1].op, .string t.kids[1].name, .string t.kids[1].arg, .int .i64 t.kids[1].n, .bool t.kids[1].has, .int .u8 t.kids[1].ann.op, .string t.kids[1].ann.name, .int .i64 t.kids[1].ann.n, akvq10, kvq10] := hatq10
    refine l_p 1 tK rfl ?_
    refine lC (o_ld tK (hatq10.cell 0 _ rfl) rfl rfl rfl rfl rfl ?_)
    refine l_p 1 tK rfl (q1 (q0 (l_p 1 tK rfl ?_)))
    refine lC (o_ld tK (h1.cell 9 _ rfl) rfl rfl rfl rfl rfl ?_)
    refine lC (o_ixS tK hk (List.getElem?_eq_getElem h0k) rfl rfl rfl rfl rfl rfl rfl rfl rfl ?_)
    intro ebq11 eoq11 euq11 hyq11 hatq11
    obtain ⟨akvq11, kvq11, rfl, opq11, nmq11, agq11, n64q11, haq11, hkq11⟩ := tm_open hyq11
    replace hatq11 : At M w1 ebq11 eoq11 [.int .u8 t.kids[0].op, .string t.kids[0].name, .string t.kids[0].arg, .int .i64 t.kids[0].n, .bool t.kids[0].has, .int .u8 t.kids[0].ann.op, .string t.kids[0].ann.name, .int .i64 t.kids[0].ann.n, akvq11, kvq11] := hatq11
    refine lC (o_lds tK (fun j v hv => hatq11.cell j v hv) rfl rfl rfl rfl rfl rfl ?_)
    refine lC (o_call fo37 rfl rfl rfl (ih _ (List.getElem_mem h0k) bk0 M _ _ hbk0 hyq11 hlow) ?_)
    rintro _ w3 ⟨rfl, ew3⟩
    replace hE := ew3.bl hE hB
    replace ht := Rep.ext ht ew3
    replace ha := Rep.ext ha ew3
    replace hk := hk.ext ew3
    replace h1 := h1.ext ew3
    replace hyq10 := Rep.ext hyq10 ew3
    replace haq10 := Rep.ext haq10 ew3
    replace hkq10 := hkq10.ext ew3
    replace hatq10 := hatq10.ext ew3
    replace hyq11 := Rep.ext hyq11 ew3
    replace haq11 := Rep.ext haq11 ew3
    replace hkq11 := hkq11.ext ew3
    replace hatq11 := hatq11.ext ew3
    replace hlow := hlow.ext ew3
    replace hB := ew3.z hB
    refine l_p 1 tK rfl ?_
    refine l_split 32 _ rfl (fun c12 => ?_) (fun c12 => ?_)
    · refine l_p 3 tK rfl ?_
      refine l_splitP 35 _ rfl (fun c13 => ?_) (fun c13 => ?_)
      · refine l_p 6 tK rfl ?_
        refine lC (o_ld tK (h1.cell 9 _ rfl) rfl rfl rfl rfl rfl ?_)
        refine lC (o_ixS tK hk (List.getElem?_eq_getElem h1k) rfl rfl rfl rfl rfl rfl rfl rfl rfl ?_)
        intro ebq14 eoq14 euq14 hyq14 hatq14
        obtain ⟨akvq14, kvq14, rfl, opq14, nmq14, agq14, n64q14, haq14, hkq14⟩ := tm_open hyq14
        replace hatq14 : At M w3 ebq14 eoq14 [.int .u8 t.kids[1].op, .string t.kids[1].name, .string t.kids[1].arg, .int .i64 t.kids[1].n, .bool t.kids[1].has, .int .u8 t.kids[1].ann.op, .string t.kids[1].ann.name, .int .i64 t.kids[1].ann.n, akvq14, kvq14] := hatq14
        refine lC (o_lds tK (fun j v hv => hatq14.cell j v hv) rfl rfl rfl rfl rfl rfl ?_)
        refine lC (o_call fo37 rfl rfl rfl (ih _ (List.getElem_mem h1k) bk1 M _ _ hbk1 hyq14 hlow) ?_)
        rintro _ w4 ⟨rfl, ew4⟩
        replace hE := ew4.bl hE hB
        replace ht := Rep.ext ht ew4
        replace ha := Rep.ext ha ew4
        replace hk := hk.ext ew4
        replace h1 := h1.ext ew4
        replace hyq10 := Rep.ext hyq10 ew4
        replace haq10 := Rep.ext haq10 ew4
        replace hkq10 := hkq10.ext ew4
        replace hatq10 := hatq10.ext ew4
        replace hyq11 := Rep.ext hyq11 ew4
        replace haq11 := Rep.ext haq11 ew4
        replace hkq11 := hkq11.ext ew4
        replace hatq11 := hatq11.ext ew4
        replace hyq14 := Rep.ext hyq14 ew4
        replace haq14 := Rep.ext haq14 ew4
        replace hkq14 := hkq14.ext ew4
        replace hatq14 := hatq14.ext ew4
        replace hlow := hlow.ext ew4
        replace hB := ew4.z hB
        refine l_p 2 tK rfl (q1 (c_ret (x_blkR (x_seqR (x_ret1 rfl rfl ?_)))))
        exact ⟨by rw [val_ext (by omega) h0k h1k]; simp [c12, c13], hE⟩
      refine l_p 5 tK rfl ?_
      refine l_splitP 40 _ rfl (fun c15 => ?_) (fun c15 => ?_)
      · refine l_p 1 tK rfl ?_
        refine lC (o_ld tK (h1.cell 9 _ rfl) rfl rfl rfl rfl rfl ?_)
        refine lC (o_ixS tK hk (List.getElem?_eq_getElem h1k) rfl rfl rfl rfl rfl rfl rfl rfl rfl ?_)
        intro ebq16 eoq16 euq16 hyq16 hatq16
        obtain ⟨akvq16, kvq16, rfl, opq16, nmq16, agq16, n64q16, haq16, hkq16⟩ := tm_open hyq16
        replace hatq16 : At M w3 ebq16 eoq16 [.int .u8 t.kids[1].op, .string t.kids[1].name, .string t.kids[1].arg, .int .i64 t.kids[1].n, .bool t.kids[1].has, .int .u8 t.kids[1].ann.op, .string t.kids[1].ann.name, .int .i64 t.kids[1].ann.n, akvq16, kvq16] := hatq16
        refine lC (o_lds tK (fun j v hv => hatq16.cell j v hv) rfl rfl rfl rfl rfl rfl ?_)
        refine lC (o_call fo37 rfl rfl rfl (ih _ (List.getElem_mem h1k) bk1 M _ _ hbk1 hyq16 hlow) ?_)
        rintro _ w5 ⟨rfl, ew5⟩
        replace hE := ew5.bl hE hB
        replace ht := Rep.ext ht ew5
        replace ha := Rep.ext ha ew5
        replace hk := hk.ext ew5
        replace h1 := h1.ext ew5
        replace hyq10 := Rep.ext hyq10 ew5
        replace haq10 := Rep.ext haq10 ew5
        replace hkq10 := hkq10.ext ew5
        replace hatq10 := hatq10.ext ew5
        replace hyq11 := Rep.ext hyq11 ew5
        replace haq11 := Rep.ext haq11 ew5
        replace hkq11 := hkq11.ext ew5
        replace hatq11 := hatq11.ext ew5
        replace hyq16 := Rep.ext hyq16 ew5
        replace haq16 := Rep.ext haq16 ew5
        replace hkq16 := hkq16.ext ew5
        replace hatq16 := hatq16.ext ew5
        replace hlow := hlow.ext ew5
        replace hB := ew5.z hB
        refine l_p 2 tK rfl (q1 (c_ret (x_blkR (x_seqR (x_ret1 rfl rfl ?_)))))
        exact ⟨by rw [val_ext (by omega) h0k h1k]; simp [c12, c13, c15], hE⟩
      refine l_p 7 tK rfl (q1 (c_ret (x_blkR (x_seqR (x_ret1 rfl rfl ?_)))))
      exact ⟨by rw [val_ext (by omega) h0k h1k]; simp [c12, c13, c15], hE⟩
    refine l_p 15 tK rfl (q1 (c_ret (x_blkR (x_seqR (x_ret1 rfl rfl ?_)))))
    exact ⟨by rw [val_ext (by omega) h0k h1k]; simp [c12], hE⟩
  refine c_skip (x_blk (x_seq (q0 (l_p 1 tK rfl (q1 (c_ret (x_ret1 rfl rfl ?_)))))))
  exact ⟨by rw [val_no (by omega) (by omega) (by omega)], hE⟩
def ValC (t : Tm) : Prop := ∀ (b : Bool) (M : Nat → Prop) (w : World) (v : Value), rightT t b = true → Rep.R M w v t → Low M w → Calls Tryz.prog 23 #[v] w (Ret fun r w' => r = .bool (valF t) ∧ Ext w w')
def LitC (t : Tm) : Prop := ∀ (b : Bool) (M : Nat → Prop) (w : World) (v : Value), rightT t b = true → Rep.R M w v t → Low M w → Calls Tryz.prog 41 #[v] w (Ret fun r w' => r = .bool (litF t) ∧ Ext w w')
theorem lit_of (t : Tm) (ih : ∀ k ∈ t.kids, ValC k ∧ LitC k) : LitC t := by
  intro b M w v hr ht hlow
  have hE : Below w.heap.size w w := Below.refl _ _
  have hB : w.heap.size ≤ w.heap.size := Nat.le_refl _
  obtain ⟨akv, kv, rfl, op, nm, ag, n64, ha, hk⟩ := tm_open ht
  obtain ⟨hrl, hrk, hro, _⟩ := right_kids hr
  refine c_enter (n := 25) Tryz.func41 rfl rfl rfl ?_
  refine q0 ?_
  refine lC (o_box rfl rfl rfl ?_)
  intro b1 w1 hb_b1 ew1 h1
  replace h1 : Box _ b1 28 [.int .u8 t.op, .string t.name, .string t.arg, .int .i64 t.n, .bool t.has, .int .u8 t.ann.op, .string t.ann.name, .int .i64 t.ann.n, akv, kv] := h1
  replace h1 := h1.at (nM_of hlow hb_b1)
  replace hE := ew1.bl hE hB
  replace ht := Rep.ext ht ew1
  replace ha := Rep.ext ha ew1
  replace hk := hk.ext ew1
  replace hlow := hlow.ext ew1
  replace hB := ew1.z hB
  refine l_p 1 tK rfl (q1 (q0 (l_p 1 tK rfl ?_)))
  refine lC (o_ld tK (h1.cell 0 _ rfl) rfl rfl rfl rfl rfl ?_)
  refine l_p 2 tK rfl ?_
  refine l_splitP 6 _ rfl (fun c1 => ?_) (fun c1 => ?_)
  · refine l_p 19 tK rfl (q1 (c_ret (x_ret1 rfl rfl ?_)))
    exact ⟨by rw [lit_empty (by omega)], hE⟩
  refine l_p 1 tK rfl ?_
  refine lC (o_ld tK (h1.cell 0 _ rfl) rfl rfl rfl rfl rfl ?_)
  refine l_p 2 tK rfl ?_
  refine l_splitP 10 _ rfl (fun c2 => ?_) (fun c2 => ?_)
  · refine l_p 1 tK rfl ?_
    refine lC (o_ld tK (h1.cell 9 _ rfl) rfl rfl rfl rfl rfl ?_)
    have hn1 : t.op = 46 ∨ t.op = 42 := by omega
    have h0k : 0 < t.kids.length := by
      rcases hn1 with e | e
      · have h8 := shp_one (op := t.op) (by omega)
        have := hrl h8.2
        omega
      · have h8 := shp_two (op := t.op) (by omega)
        have := hrl h8.2
        omega
    have h1k : t.op = 42 → 1 < t.kids.length := fun e => by
      have h8 := shp_two (op := t.op) (by omega)
      have := hrl h8.2
      omega
    obtain ⟨bk0, hbk0⟩ := hrk _ (List.getElem_mem h0k)
    refine lC (o_ixS tK hk (List.getElem?_eq_getElem h0k) rfl rfl rfl rfl rfl rfl rfl rfl rfl ?_)
    intro ebq3 eoq3 euq3 hyq3 hatq3
    obtain ⟨akvq3, kvq3, rfl, opq3, nmq3, agq3, n64q3, haq3, hkq3⟩ := tm_open hyq3
    replace hatq3 : At M w1 ebq3 eoq3 [.int .u8 t.kids[0].op, .string t.kids[0].name, .string t.kids[0].arg, .int .i64 t.kids[0].n, .bool t.kids[0].has, .int .u8 t.kids[0].ann.op, .string t.kids[0].ann.name, .int .i64 t.kids[0].ann.n, akvq3, kvq3] := hatq3
    refine lC (o_lds tK (fun j v hv => hatq3.cell j v hv) rfl rfl rfl rfl rfl rfl ?_)
    refine lC (o_call fo23 rfl rfl rfl ((ih _ (List.getElem_mem h0k)).1 bk0 M _ _ hbk0 hyq3 hlow) ?_)
    rintro _ w2 ⟨rfl, ew2⟩
    replace hE := ew2.bl hE hB
    replace ht := Rep.ext ht ew2
    replace ha := Rep.ext ha ew2
    replace hk := hk.ext ew2
    replace h1 := h1.ext ew2
    replace hyq3 := Rep.ext hyq3 ew2
    replace haq3 := Rep.ext haq3 ew2
    replace hkq3 := hkq3.ext ew2
    replace hatq3 := hatq3.ext ew2
    replace hlow := hlow.ext ew2
    replace hB := ew2.z hB
    refine l_p 2 tK rfl ?_
    refine l_split 17 _ rfl (fun c4 => ?_) (fun c4 => ?_)
    · refine l_p 1 tK rfl ?_
      refine lC (o_ld tK (h1.cell 9 _ rfl) rfl rfl rfl rfl rfl ?_)
      have h1k := h1k (by omega)
      obtain ⟨bk1, hbk1⟩ := hrk _ (List.getElem_mem h1k)
      refine lC (o_ixS tK hk (List.getElem?_eq_getElem h1k) rfl rfl rfl rfl rfl rfl rfl rfl rfl ?_)
      intro ebq5 eoq5 euq5 hyq5 hatq5
      obtain ⟨akvq5, kvq5, rfl, opq5, nmq5, agq5, n64q5, haq5, hkq5⟩ := tm_open hyq5
      replace hatq5 : At M w2 ebq5 eoq5 [.int .u8 t.kids[1].op, .string t.kids[1].name, .string t.kids[1].arg, .int .i64 t.kids[1].n, .bool t.kids[1].has, .int .u8 t.kids[1].ann.op, .string t.kids[1].ann.name, .int .i64 t.kids[1].ann.n, akvq5, kvq5] := hatq5
      refine lC (o_lds tK (fun j v hv => hatq5.cell j v hv) rfl rfl rfl rfl rfl rfl ?_)
      refine lC (o_call fo41 rfl rfl rfl ((ih _ (List.getElem_mem h1k)).2 bk1 M _ _ hbk1 hyq5 hlow) ?_)
      rintro _ w3 ⟨rfl, ew3⟩
      replace hE := ew3.bl hE hB
      replace ht := Rep.ext ht ew3
      replace ha := Rep.ext ha ew3
      replace hk := hk.ext ew3
      replace h1 := h1.ext ew3
      replace hyq3 := Rep.ext hyq3 ew3
      replace haq3 := Rep.ext haq3 ew3
      replace hkq3 := hkq3.ext ew3
      replace hatq3 := hatq3.ext ew3
      replace hyq5 := Rep.ext hyq5 ew3
      replace haq5 := Rep.ext haq5 ew3
      replace hkq5 := hkq5.ext ew3
      replace hatq5 := hatq5.ext ew3
      replace hlow := hlow.ext ew3
      replace hB := ew3.z hB
      refine l_p 3 tK rfl (q1 (c_ret (x_ret1 rfl rfl ?_)))
      exact ⟨by rw [lit_ext (by omega) h0k h1k]; simp [c1, c2, c4], hE⟩
    refine l_p 8 tK rfl (q1 (c_ret (x_ret1 rfl rfl ?_)))
    have h1k := h1k (by omega)
    exact ⟨by rw [lit_ext (by omega) h0k h1k]; simp [c1, c2, c4], hE⟩
  refine l_p 15 tK rfl (q1 (c_ret (x_ret1 rfl rfl ?_)))
  exact ⟨by first | rw [lit_empty (by omega)] | rw [lit_no (by omega) (by omega)], hE⟩
theorem val_of (t : Tm) (ih : ∀ k ∈ t.kids, ValC k ∧ LitC k) (hl : LitC t) : ValC t := by
  intro b M w v hr ht hlow
  have hE : Below w.heap.size w w := Below.refl _ _
  have hB : w.heap.size ≤ w.heap.size := Nat.le_refl _
  obtain ⟨akv, kv, rfl, op, nm, ag, n64, ha, hk⟩ := tm_open ht
  obtain ⟨hrl, hrk, hro, _⟩ := right_kids hr
  refine c_enter (n := 20) Tryz.func23 rfl rfl rfl ?_
  refine q0 ?_
  refine lC (o_box rfl rfl rfl ?_)
  intro b1 w1 hb_b1 ew1 h1
  replace h1 : Box _ b1 28 [.int .u8 t.op, .string t.name, .string t.arg, .int .i64 t.n, .bool t.has, .int .u8 t.ann.op, .string t.ann.name, .int .i64 t.ann.n, akv, kv] := h1
  replace h1 := h1.at (nM_of hlow hb_b1)
  replace hE := ew1.bl hE hB
  replace ht := Rep.ext ht ew1
  replace ha := Rep.ext ha ew1
  replace hk := hk.ext ew1
  replace hlow := hlow.ext ew1
  replace hB := ew1.z hB
  refine l_p 1 tK rfl (q1 (c_seq (q0 (l_p 1 tK rfl ?_))))
  refine lC (o_ld tK (h1.cell 0 _ rfl) rfl rfl rfl rfl rfl ?_)
  refine q1 (c_blk (c_seq (q0 (l_p 2 tK rfl (q1 ?_)))))
  refine c_splitP 5 _ rfl (fun c1 => c_ifT rfl ?_) (fun c1 => c_ifF rfl ?_)
  · refine c_skip (x_seq (c_ifT rfl (q0 (l_p 1 tK rfl (q1 (c_ret (x_blkR (x_seqR (x_ret1 rfl rfl ?_)))))))))
    exact ⟨by rw [val_yes (by omega)], hE⟩
  refine q0 (l_p 2 tK rfl (q1 ?_))
  refine c_splitP 5 _ rfl (fun c2 => c_ifT rfl ?_) (fun c2 => c_ifF rfl ?_)
  · refine c_skip (x_seq (c_ifT rfl (q0 (l_p 1 tK rfl (q1 (c_ret (x_blkR (x_seqR (x_ret1 rfl rfl ?_)))))))))
    exact ⟨by rw [val_yes (by omega)], hE⟩
  refine q0 (l_p 2 tK rfl (q1 ?_))
  refine c_splitP 5 _ rfl (fun c3 => c_ifT rfl ?_) (fun c3 => c_ifF rfl ?_)
  · refine c_skip (x_seq (c_ifT rfl (q0 (l_p 1 tK rfl (q1 (c_ret (x_blkR (x_seqR (x_ret1 rfl rfl ?_)))))))))
    exact ⟨by rw [val_yes (by omega)], hE⟩
  refine q0 (l_p 2 tK rfl (q1 ?_))
  refine c_splitP 5 _ rfl (fun c4 => c_ifT rfl ?_) (fun c4 => c_ifF rfl ?_)
  · refine c_skip (x_seq (c_ifT rfl (q0 (l_p 1 tK rfl (q1 (c_ret (x_blkR (x_seqR (x_ret1 rfl rfl ?_)))))))))
    exact ⟨by rw [val_yes (by omega)], hE⟩
  refine c_reg (l_p 2 tK rfl (q1 ?_))
  refine c_splitP 5 _ rfl (fun c5 => c_ifT rfl ?_) (fun c5 => c_ifF rfl ?_)
  · refine q0 (l_p 1 tK rfl (q1 (c_ret (x_blkR (x_seqR (x_ret1 rfl rfl ?_))))))
    exact ⟨by rw [val_yes (by omega)], hE⟩
  refine q0 (l_p 2 tK rfl (q1 ?_))
  refine c_ifP _ rfl (fun c6 => ?_) (fun c6 => ?_)
  · refine q0 (l_p 1 tK rfl ?_)
    refine lC (o_ld tK (h1.cell 9 _ rfl) rfl rfl rfl rfl rfl ?_)
    have hn1 : t.op = 46 ∨ t.op = 42 := by omega
    have h0k : 0 < t.kids.length := by
      rcases hn1 with e | e
      · have h8 := shp_one (op := t.op) (by omega)
        have := hrl h8.2
        omega
      · have h8 := shp_two (op := t.op) (by omega)
        have := hrl h8.2
        omega
    have h1k : t.op = 42 → 1 < t.kids.length := fun e => by
      have h8 := shp_two (op := t.op) (by omega)
      have := hrl h8.2
      omega
    obtain ⟨bk0, hbk0⟩ := hrk _ (List.getElem_mem h0k)
    refine lC (o_ixS tK hk (List.getElem?_eq_getElem h0k) rfl rfl rfl rfl rfl rfl rfl rfl rfl ?_)
    intro ebq7 eoq7 euq7 hyq7 hatq7
    obtain ⟨akvq7, kvq7, rfl, opq7, nmq7, agq7, n64q7, haq7, hkq7⟩ := tm_open hyq7
    replace hatq7 : At M w1 ebq7 eoq7 [.int .u8 t.kids[0].op, .string t.kids[0].name, .string t.kids[0].arg, .int .i64 t.kids[0].n, .bool t.kids[0].has, .int .u8 t.kids[0].ann.op, .string t.kids[0].ann.name, .int .i64 t.kids[0].ann.n, akvq7, kvq7] := hatq7
    refine lC (o_lds tK (fun j v hv => hatq7.cell j v hv) rfl rfl rfl rfl rfl rfl ?_)
    refine lC (o_call fo23 rfl rfl rfl ((ih _ (List.getElem_mem h0k)).1 bk0 M _ _ hbk0 hyq7 hlow) ?_)
    rintro _ w2 ⟨rfl, ew2⟩
    replace hE := ew2.bl hE hB
    replace ht := Rep.ext ht ew2
    replace ha := Rep.ext ha ew2
    replace hk := hk.ext ew2
    replace h1 := h1.ext ew2
    replace hyq7 := Rep.ext hyq7 ew2
    replace haq7 := Rep.ext haq7 ew2
    replace hkq7 := hkq7.ext ew2
    replace hatq7 := hatq7.ext ew2
    replace hlow := hlow.ext ew2
    replace hB := ew2.z hB
    refine l_p 1 tK rfl (q1 (c_ret (x_blkR (x_seqR (x_ret1 rfl rfl ?_)))))
    exact ⟨by rw [val_roll (by omega) h0k], hE⟩
  refine c_skip (x_blk (x_seq (q0 ?_)))
  refine lC (o_lds tK (fun j v hv => h1.cell j v hv) rfl rfl rfl rfl rfl rfl ?_)
  refine lC (o_call fo41 rfl rfl rfl (hl b M _ _ hr ht hlow) ?_)
  rintro _ w3 ⟨rfl, ew3⟩
  replace hE := ew3.bl hE hB
  replace ht := Rep.ext ht ew3
  replace ha := Rep.ext ha ew3
  replace hk := hk.ext ew3
  replace h1 := h1.ext ew3
  replace hlow := hlow.ext ew3
  replace hB := ew3.z hB
  refine l_p 1 tK rfl (q1 (c_ret (x_ret1 rfl rfl ?_)))
  exact ⟨by rw [val_lit (by omega) (by omega)], hE⟩
theorem valR_both (t : Tm) : ValC t ∧ LitC t := Tm.ind (p := fun t => ValC t ∧ LitC t) (fun t ih => ⟨val_of t ih (lit_of t ih), lit_of t ih⟩) t
def StatC (t : Tm) : Prop := ∀ (b : Bool) (M : Nat → Prop) (w : World) (v : Value), rightT t b = true → AnnS t → Rep.R M w v t → Low M w → Calls Tryz.prog 38 #[v] w (Ret fun r w' => r = .bool (statT t) ∧ Ext w w')
theorem stat1_of (t : Tm) (h : StatC t) (b : Bool) (hr : rightT t b = true) (hz : AnnS t) (M : Nat → Prop) (w : World) (v : Value) (ht : Rep.R M w v t) (hlow : Low M w) :
    Calls Tryz.prog 65 #[v] w (Ret fun r w' => r = .bool (!statT t) ∧ Ext w w') := by
  have hE : Below w.heap.size w w := Below.refl _ _
  have hB : w.heap.size ≤ w.heap.size := Nat.le_refl _
  obtain ⟨akv, kv, rfl, op, nm, ag, n64, ha, hk⟩ := tm_open ht
  refine c_enter (n := 6) Tryz.func65 rfl rfl rfl ?_
  refine q0 ?_
  refine lC (o_box rfl rfl rfl ?_)
  intro b1 w1 hb_b1 ew1 h1
  replace h1 : Box _ b1 28 [.int .u8 t.op, .string t.name, .string t.arg, .int .i64 t.n, .bool t.has, .int .u8 t.ann.op, .string t.ann.name, .int .i64 t.ann.n, akv, kv] := h1
  replace h1 := h1.at (nM_of hlow hb_b1)
  replace hE := ew1.bl hE hB
  replace ht := Rep.ext ht ew1
  replace ha := Rep.ext ha ew1
  replace hk := hk.ext ew1
  replace hlow := hlow.ext ew1
  replace hB := ew1.z hB
  refine l_p 1 tK rfl (q1 (q0 ?_))
  refine lC (o_lds tK (fun j v hv => h1.cell j v hv) rfl rfl rfl rfl rfl rfl ?_)
  refine lC (o_call fo38 rfl rfl rfl (h b M _ _ hr hz ht hlow) ?_)
  rintro _ w2 ⟨rfl, ew2⟩
  replace hE := ew2.bl hE hB
  replace ht := Rep.ext ht ew2
  replace ha := Rep.ext ha ew2
  replace hk := hk.ext ew2
  replace h1 := h1.ext ew2
  replace hlow := hlow.ext ew2
  replace hB := ew2.z hB
  refine l_p 2 tK rfl (q1 (c_ret (x_ret1 rfl rfl ?_)))
  exact ⟨rfl, hE⟩
theorem index_of (l : List Tm) (h : ∀ k ∈ l, StatC k ∧ (∃ b, rightT k b = true) ∧ AnnS k) (M : Nat → Prop) (w : World) (v : Value) (hs : Sl M w v l) (hlow : Low M w) :
    Calls Tryz.prog 85 #[v, .func (.func 65) #[] #[]] w (Ret fun r w' => (∃ z : Int, r = .int .i64 z ∧ decide (0 ≤ z) = !l.all statT) ∧ Ext w w') := by
  have hE : Below w.heap.size w w := Below.refl _ _
  have hB : w.heap.size ≤ w.heap.size := Nat.le_refl _
  have hlt := hs.lt
  refine c_enter (n := 19) Tryz.func85 rfl rfl rfl ?_
  refine q0 (l_p 1 tK rfl (q1 (c_seq (q0 (l_p 1 tK rfl ?_)))))
  refine lC (o_len tK hs rfl rfl rfl rfl rfl ?_)
  refine l_p 1 tK rfl (q1 (c_blk ?_))
  refine c_loop (X := Nat) (fun i => [(0, v), (1, .func (.func 65) #[] #[]), (7, .int .i64 (l.length : Int)), (8, .int .i64 (i : Nat))]) (fun i w' => i ≤ l.length ∧ (l.take i).all statT = true ∧ Sl M w' v l ∧ Low M w' ∧ Below w.heap.size w w' ∧ w.heap.size ≤ w'.heap.size) (fun i => l.length - i) (0) (s4 rfl rfl rfl rfl) ?_ ?_
  · exact ⟨Nat.zero_le _, rfl, hs, hlow, hE, hB⟩
  rintro i w1 ⟨hi, hall, hs, hlow, hE, hB⟩
  refine q0 (l_p 1 tK rfl (q1 (c_seq ?_)))
  refine c_ifP _ rfl (fun c1 => ?_) (fun c1 => ?_)
  · refine c_skip (x_seq (c_seq (c_blk (q0 (l_p 2 tK rfl (q1 (q0 (l_p 3 tK rfl ?_))))))))
    have hil : i < l.length := by omega
    obtain ⟨hq1, ⟨bq, hq2⟩, hq3⟩ := h _ (List.getElem_mem hil)
    refine lC (o_ixS tK hs (List.getElem?_eq_getElem hil) rfl rfl rfl rfl rfl rfl rfl rfl rfl ?_)
    intro ebx eox eux hyx hatx
    obtain ⟨akvx, kvx, rfl, opx, nmx, agx, n64x, hax, hkx⟩ := tm_open hyx
    replace hatx : At M w1 ebx eox [.int .u8 l[i].op, .string l[i].name, .string l[i].arg, .int .i64 l[i].n, .bool l[i].has, .int .u8 l[i].ann.op, .string l[i].ann.name, .int .i64 l[i].ann.n, akvx, kvx] := hatx
    refine lC (o_lds tK (fun j v hv => hatx.cell j v hv) rfl rfl rfl rfl rfl rfl ?_)
    refine lC (o_dyn rfl fo65 rfl rfl rfl (stat1_of _ hq1 bq hq2 hq3 _ _ _ hyx hlow) ?_)
    rintro _ w2 ⟨rfl, ew2⟩
    replace hE := ew2.bl hE hB
    replace hs := hs.ext ew2
    replace hyx := Rep.ext hyx ew2
    replace hax := Rep.ext hax ew2
    replace hkx := hkx.ext ew2
    replace hatx := hatx.ext ew2
    replace hlow := hlow.ext ew2
    replace hB := ew2.z hB
    refine q1 ?_
    refine c_if _ rfl (fun c2 => ?_) (fun c2 => ?_)
    · refine q0 (l_p 2 tK rfl (q1 (c_ret (x_blkR (x_seqR (x_seqR (x_blkR (x_seqR (x_ret1 rfl rfl ?_)))))))))
      refine ⟨⟨_, rfl, ?_⟩, hE⟩
      have hno : statT l[i] = false := by simpa using c2
      rw [decide_eq_true (by omega), show l.all statT = false from List.all_eq_false.2 ⟨_, List.getElem_mem hil, by rw [hno]; decide⟩]; rfl
    refine c_skip (x_blk (x_seq (c_reg ?_)))
    refine lC (o_ai rfl rfl rfl (by omega) rfl rfl ?_)
    refine l_p 1 tK rfl (l_nil ?_)
    exact x_round (i + 1) (s4 rfl rfl rfl (get_num rfl (by omega))) ⟨by omega, by rw [List.take_succ_eq_append_getElem hil, List.all_append, hall]; simpa using c2, hs, hlow, hE, hB⟩ (by omega)
  refine c_exit (x_seqE (x_seqE (x_blkE (x_seq (q0 (l_p 1 tK rfl (q1 (c_ret (x_ret1 rfl rfl ?_)))))))))
  rw [List.take_of_length_le (by omega)] at hall
  exact ⟨⟨_, rfl, by rw [hall]; rfl⟩, hE⟩
theorem contains_of (l : List Tm) (h : ∀ k ∈ l, StatC k ∧ (∃ b, rightT k b = true) ∧ AnnS k) (M : Nat → Prop) (w : World) (v : Value) (hs : Sl M w v l) (hlow : Low M w) :
    Calls Tryz.prog 64 #[v, .func (.func 65) #[] #[]] w (Ret fun r w' => r = .bool (!l.all statT) ∧ Ext w w') := by
  have hE : Below w.heap.size w w := Below.refl _ _
  have hB : w.heap.size ≤ w.heap.size := Nat.le_refl _
  refine c_enter (n := 9) Tryz.func64 rfl rfl rfl ?_
  refine q0 (l_p 1 tK rfl (q1 (q0 (l_p 2 tK rfl ?_))))
  refine lC (o_call fo85 rfl rfl rfl (index_of l h M _ _ hs hlow) ?_)
  rintro _ w1 ⟨⟨z, rfl, hz9⟩, ew1⟩
  replace hE := ew1.bl hE hB
  replace hs := hs.ext ew1
  replace hlow := hlow.ext ew1
  replace hB := ew1.z hB
  refine l_p 2 tK rfl (q1 (c_ret (x_ret1 rfl rfl ?_)))
  exact ⟨by rw [← hz9], hE⟩
theorem static_of (t : Tm) (ih : ∀ k ∈ t.kids, StatC k) : StatC t := by
  intro b M w v hr hz ht hlow
  have hE : Below w.heap.size w w := Below.refl _ _
  have hB : w.heap.size ≤ w.heap.size := Nat.le_refl _
  obtain ⟨akv, kv, rfl, op, nm, ag, n64, ha, hk⟩ := tm_open ht
  obtain ⟨hrl, hrk, hro, _⟩ := right_kids hr
  have hnote := right_note hr
  refine c_enter (n := 15) Tryz.func38 rfl rfl rfl ?_
  refine q0 ?_
  refine lC (o_box rfl rfl rfl ?_)
  intro b1 w1 hb_b1 ew1 h1
  replace h1 : Box _ b1 28 [.int .u8 t.op, .string t.name, .string t.arg, .int .i64 t.n, .bool t.has, .int .u8 t.ann.op, .string t.ann.name, .int .i64 t.ann.n, akv, kv] := h1
  replace h1 := h1.at (nM_of hlow hb_b1)
  replace hE := ew1.bl hE hB
  replace ht := Rep.ext ht ew1
  replace ha := Rep.ext ha ew1
  replace hk := hk.ext ew1
  replace hlow := hlow.ext ew1
  replace hB := ew1.z hB
  refine l_p 1 tK rfl (q1 (c_seq (q0 (l_p 1 tK rfl ?_))))
  refine lC (o_ld tK (h1.cell 4 _ rfl) rfl rfl rfl rfl rfl ?_)
  refine l_p 1 tK rfl ?_
  refine l_split 5 _ rfl (fun c1 => ?_) (fun c1 => ?_)
  · refine l_p 1 tK rfl ?_
    refine lC (o_lds tK (fun j v hv => (h1).mid 5 (sub := [.int .u8 t.ann.op, .string t.ann.name, .int .i64 t.ann.n, akv]) rfl j v hv) rfl rfl rfl rfl rfl rfl ?_)
    have hks := kStatic_spec t.ann M _ _ ha hlow hz.self
    rw [(hnote.1 c1).1, Bool.true_or, Bool.true_and] at hks
    refine lC (o_call fo63 rfl rfl rfl (hks) ?_)
    rintro _ w2 ⟨rfl, ew2⟩
    replace hE := ew2.bl hE hB
    replace ht := Rep.ext ht ew2
    replace ha := Rep.ext ha ew2
    replace hk := hk.ext ew2
    replace h1 := h1.ext ew2
    replace hlow := hlow.ext ew2
    replace hB := ew2.z hB
    refine l_p 2 tK rfl (q1 ?_)
    refine c_ifB _ rfl (fun c2 => ?_) (fun c2 => ?_)
    · refine q0 (l_p 1 tK rfl (q1 (c_ret (x_seqR (x_ret1 rfl rfl ?_)))))
      have hno : noteOk t = false := by unfold noteOk; clear ih ht hk ha h1; simp_all
      exact ⟨by rw [statT_eq, hno, Bool.false_and], hE⟩
    refine c_skip (x_seq (q0 (l_p 1 tK rfl ?_)))
    refine lC (o_ld tK (h1.cell 9 _ rfl) rfl rfl rfl rfl rfl ?_)
    refine lC (o_call fo64 rfl rfl rfl (contains_of t.kids (fun k hk => ⟨ih k hk, hrk k hk, hz.kid hk⟩) M _ _ hk hlow) ?_)
    rintro _ w3 ⟨rfl, ew3⟩
    replace hE := ew3.bl hE hB
    replace ht := Rep.ext ht ew3
    replace ha := Rep.ext ha ew3
    replace hk := hk.ext ew3
    replace h1 := h1.ext ew3
    replace hlow := hlow.ext ew3
    replace hB := ew3.z hB
    refine l_p 2 tK rfl (q1 (c_ret (x_ret1 rfl rfl ?_)))
    have hno : noteOk t = true := by unfold noteOk; clear ih ht hk ha h1; simp_all
    exact ⟨by rw [statT_eq, hno, Bool.true_and, Bool.not_not], hE⟩
  refine l_p 5 tK rfl (q1 (c_ifF rfl (c_skip (x_seq (q0 (l_p 1 tK rfl ?_))))))
  refine lC (o_ld tK (h1.cell 9 _ rfl) rfl rfl rfl rfl rfl ?_)
  refine lC (o_call fo64 rfl rfl rfl (contains_of t.kids (fun k hk => ⟨ih k hk, hrk k hk, hz.kid hk⟩) M _ _ hk hlow) ?_)
  rintro _ w4 ⟨rfl, ew4⟩
  replace hE := ew4.bl hE hB
  replace ht := Rep.ext ht ew4
  replace ha := Rep.ext ha ew4
  replace hk := hk.ext ew4
  replace h1 := h1.ext ew4
  replace hlow := hlow.ext ew4
  replace hB := ew4.z hB
  refine l_p 2 tK rfl (q1 (c_ret (x_ret1 rfl rfl ?_)))
  have hno : noteOk t = true := by unfold noteOk; clear ih ht hk ha h1; simp_all
  exact ⟨by rw [statT_eq, hno, Bool.true_and, Bool.not_not], hE⟩
theorem static_all (t : Tm) : StatC t := Tm.ind (p := StatC) (fun t ih => static_of t ih) t
theorem refStaticM_spec (t : Tm) (M : Nat → Prop) (w : World) (v : Value) (ht : Rep.R M w v t) (hlow : Low M w) (hz : AnnS t) (hns : nsz t ≤ 2000000) :
    Calls Tryz.prog 24 #[v] w (Ret fun r w' => r = .bool (statT t) ∧ Ext w w') := by
  have hE : Below w.heap.size w w := Below.refl _ _
  have hB : w.heap.size ≤ w.heap.size := Nat.le_refl _
  obtain ⟨akv, kv, rfl, op, nm, ag, n64, ha, hk⟩ := tm_open ht
  have hll : (nodesL t).length = nsz t := rfl
  refine c_enter (n := 27) Tryz.func24 rfl rfl rfl ?_
  refine q0 ?_
  refine lC (o_box rfl rfl rfl ?_)
  intro b1 w1 hb_b1 ew1 h1
  replace h1 : Box _ b1 28 [.int .u8 t.op, .string t.name, .string t.arg, .int .i64 t.n, .bool t.has, .int .u8 t.ann.op, .string t.ann.name, .int .i64 t.ann.n, akv, kv] := h1
  replace h1 := h1.at (nM_of hlow hb_b1)
  replace hE := ew1.bl hE hB
  replace ht := Rep.ext ht ew1
  replace ha := Rep.ext ha ew1
  replace hk := hk.ext ew1
  replace hlow := hlow.ext ew1
  replace hB := ew1.z hB
  refine l_p 1 tK rfl (q1 (q0 ?_))
  refine lC (o_lds tK (fun j v hv => h1.cell j v hv) rfl rfl rfl rfl rfl rfl ?_)
  refine lC (o_call fo8 rfl rfl rfl (nodes_spec t M _ _ ht hlow hns) ?_)
  rintro vhl w2 ⟨hl, ew2⟩
  replace hE := ew2.bl hE hB
  replace ht := Rep.ext ht ew2
  replace ha := Rep.ext ha ew2
  replace hk := hk.ext ew2
  replace h1 := h1.ext ew2
  replace hlow := hlow.ext ew2
  replace hB := ew2.z hB
  refine l_p 1 tK rfl (q1 (c_seq (q0 (l_p 1 tK rfl (q1 (c_blk ?_))))))
  refine c_loop (X := Nat) (fun i => [(3, vhl), (4, .int .i64 (i : Nat))]) (fun i w' => i ≤ (nodesL t).length ∧ ((nodesL t).take i).all noteOk = true ∧ Sl M w' vhl (nodesL t) ∧ Low M w' ∧ Below w.heap.size w w' ∧ w.heap.size ≤ w'.heap.size) (fun i => (nodesL t).length - i) (0) (s2 rfl rfl) ?_ ?_
  · exact ⟨Nat.zero_le _, rfl, hl, hlow, hE, hB⟩
  clear hl h1 ht ha hk hlow hE hB
  rintro i w3 ⟨hi, hall, hl, hlow, hE, hB⟩
  refine c_seq (q0 (l_p 2 tK rfl ?_))
  refine lC (o_len tK hl rfl rfl rfl rfl rfl ?_)
  refine l_p 1 tK rfl (q1 ?_)
  refine c_ifP _ rfl (fun c1 => ?_) (fun c1 => ?_)
  · refine c_skip (x_seq (c_seq (c_blk (q0 (l_p 2 tK rfl ?_)))))
    have hil : i < (nodesL t).length := by omega
    have hzi := hz _ (List.getElem_mem hil)
    refine lC (o_ixS tK hl (List.getElem?_eq_getElem hil) rfl rfl rfl rfl rfl rfl rfl rfl rfl ?_)
    intro ebx2 eox2 eux2 hyx2 hatx2
    obtain ⟨akvx2, kvx2, rfl, opx2, nmx2, agx2, n64x2, hax2, hkx2⟩ := tm_open hyx2
    replace hatx2 : At M w3 ebx2 eox2 [.int .u8 (nodesL t)[i].op, .string (nodesL t)[i].name, .string (nodesL t)[i].arg, .int .i64 (nodesL t)[i].n, .bool (nodesL t)[i].has, .int .u8 (nodesL t)[i].ann.op, .string (nodesL t)[i].ann.name, .int .i64 (nodesL t)[i].ann.n, akvx2, kvx2] := hatx2
    refine l_p 1 tK rfl ?_
    refine lC (o_ld tK (hatx2.cell 4 _ rfl) rfl rfl rfl rfl rfl ?_)
    refine l_p 1 tK rfl ?_
    refine l_split 18 _ rfl (fun c3 => ?_) (fun c3 => ?_)
    · refine l_p 2 tK rfl ?_
      refine lC (o_ixS tK hl (List.getElem?_eq_getElem hil) rfl rfl rfl rfl rfl rfl rfl rfl rfl ?_)
      intro ebx4 eox4 eux4 hyx4 hatx4
      obtain ⟨akvx4, kvx4, rfl, opx4, nmx4, agx4, n64x4, hax4, hkx4⟩ := tm_open hyx4
      replace hatx4 : At M w3 ebx4 eox4 [.int .u8 (nodesL t)[i].op, .string (nodesL t)[i].name, .string (nodesL t)[i].arg, .int .i64 (nodesL t)[i].n, .bool (nodesL t)[i].has, .int .u8 (nodesL t)[i].ann.op, .string (nodesL t)[i].ann.name, .int .i64 (nodesL t)[i].ann.n, akvx4, kvx4] := hatx4
      refine l_p 1 tK rfl ?_
      refine lC (o_lds tK (fun j v hv => (hatx4).mid 5 (sub := [.int .u8 (nodesL t)[i].ann.op, .string (nodesL t)[i].ann.name, .int .i64 (nodesL t)[i].ann.n, akvx4]) rfl j v hv) rfl rfl rfl rfl rfl rfl ?_)
      refine lC (o_call fo42 rfl rfl rfl (refStatic_spec _ M _ _ hax4 hlow hzi) ?_)
      rintro _ w4 ⟨rfl, ew4⟩
      replace hE := ew4.bl hE hB
      replace hl := hl.ext ew4
      replace hyx2 := Rep.ext hyx2 ew4
      replace hax2 := Rep.ext hax2 ew4
      replace hkx2 := hkx2.ext ew4
      replace hatx2 := hatx2.ext ew4
      replace hyx4 := Rep.ext hyx4 ew4
      replace hax4 := Rep.ext hax4 ew4
      replace hkx4 := hkx4.ext ew4
      replace hatx4 := hatx4.ext ew4
      replace hlow := hlow.ext ew4
      replace hB := ew4.z hB
      refine l_p 2 tK rfl (q1 ?_)
      refine c_ifB _ rfl (fun c5 => ?_) (fun c5 => ?_)
      · refine q0 (l_p 1 tK rfl (q1 (c_ret (x_blkR (x_seqR (x_seqR (x_blkR (x_seqR (x_ret1 rfl rfl ?_)))))))))
        have hsf : statT t = false := List.all_eq_false.2 ⟨_, List.getElem_mem hil, by simp [noteOk, c3, c5]⟩
        exact ⟨by rw [hsf], hE⟩
      refine c_skip (x_blk (x_seq (c_reg (l_p 1 tK rfl ?_))))
      refine lC (o_ai rfl rfl rfl (by omega) rfl rfl ?_)
      refine l_p 1 tK rfl (l_nil ?_)
      exact x_round (i + 1) (s2 rfl (get_num rfl (by omega))) ⟨by omega, by rw [List.take_succ_eq_append_getElem hil, List.all_append, hall]; simp [noteOk, c3, c5], hl, hlow, hE, hB⟩ (by omega)
    refine l_p 8 tK rfl (q1 (c_ifF rfl (c_skip (x_blk (x_seq (c_reg (l_p 1 tK rfl ?_)))))))
    refine lC (o_ai rfl rfl rfl (by omega) rfl rfl ?_)
    refine l_p 1 tK rfl (l_nil ?_)
    exact x_round (i + 1) (s2 rfl (get_num rfl (by omega))) ⟨by omega, by rw [List.take_succ_eq_append_getElem hil, List.all_append, hall]; simp [noteOk, c3], hl, hlow, hE, hB⟩ (by omega)
  refine c_exit (x_seqE (x_seqE (x_blkE (x_seq (q0 (l_p 1 tK rfl (q1 (c_ret (x_ret1 rfl rfl ?_)))))))))
  rw [List.take_of_length_le (by omega)] at hall
  exact ⟨by rw [show statT t = true from hall], hE⟩
theorem Value_spec (t : Tm) (M : Nat → Prop) (w : World) (v : Value) (ht : Rep.R M w v t) (hlow : Low M w) (hz : AnnS t) :
    Calls Tryz.prog 19 #[v] w (Ret fun r w' => r = .bool (rightT t false && valF t) ∧ Ext w w') := by
  have hE : Below w.heap.size w w := Below.refl _ _
  have hB : w.heap.size ≤ w.heap.size := Nat.le_refl _
  obtain ⟨akv, kv, rfl, op, nm, ag, n64, ha, hk⟩ := tm_open ht
  refine c_enter (n := 9) Tryz.func19 rfl rfl rfl ?_
  refine q0 ?_
  refine lC (o_box rfl rfl rfl ?_)
  intro b1 w1 hb_b1 ew1 h1
  replace h1 : Box _ b1 28 [.int .u8 t.op, .string t.name, .string t.arg, .int .i64 t.n, .bool t.has, .int .u8 t.ann.op, .string t.ann.name, .int .i64 t.ann.n, akv, kv] := h1
  replace h1 := h1.at (nM_of hlow hb_b1)
  replace hE := ew1.bl hE hB
  replace ht := Rep.ext ht ew1
  replace ha := Rep.ext ha ew1
  replace hk := hk.ext ew1
  replace hlow := hlow.ext ew1
  replace hB := ew1.z hB
  refine l_p 1 tK rfl (q1 (q0 ?_))
  refine lC (o_lds tK (fun j v hv => h1.cell j v hv) rfl rfl rfl rfl rfl rfl ?_)
  refine lC (o_call fo9 rfl rfl rfl (tRight_spec t M _ _ ht hlow hz) ?_)
  rintro _ w2 ⟨rfl, ew2⟩
  replace hE := ew2.bl hE hB
  replace ht := Rep.ext ht ew2
  replace ha := Rep.ext ha ew2
  replace hk := hk.ext ew2
  replace h1 := h1.ext ew2
  replace hlow := hlow.ext ew2
  replace hB := ew2.z hB
  refine l_p 1 tK rfl ?_
  refine l_split 5 _ rfl (fun c1 => ?_) (fun c1 => ?_)
  · refine lC (o_lds tK (fun j v hv => h1.cell j v hv) rfl rfl rfl rfl rfl rfl ?_)
    refine lC (o_call fo37 rfl rfl rfl (value_spec t false M _ _ c1 ht hlow) ?_)
    rintro _ w3 ⟨rfl, ew3⟩
    replace hE := ew3.bl hE hB
    replace ht := Rep.ext ht ew3
    replace ha := Rep.ext ha ew3
    replace hk := hk.ext ew3
    replace h1 := h1.ext ew3
    replace hlow := hlow.ext ew3
    replace hB := ew3.z hB
    refine l_p 2 tK rfl (q1 (c_ret (x_ret1 rfl rfl ?_)))
    exact ⟨by simp [c1], hE⟩
  refine l_p 4 tK rfl (q1 (c_ret (x_ret1 rfl rfl ?_)))
  exact ⟨by simp [c1], hE⟩
theorem Static_spec (t : Tm) (M : Nat → Prop) (w : World) (v : Value) (ht : Rep.R M w v t) (hlow : Low M w) (hz : AnnS t) :
    Calls Tryz.prog 20 #[v] w (Ret fun r w' => r = .bool (rightT t false && statT t) ∧ Ext w w') := by
  have hE : Below w.heap.size w w := Below.refl _ _
  have hB : w.heap.size ≤ w.heap.size := Nat.le_refl _
  obtain ⟨akv, kv, rfl, op, nm, ag, n64, ha, hk⟩ := tm_open ht
  refine c_enter (n := 9) Tryz.func20 rfl rfl rfl ?_
  refine q0 ?_
  refine lC (o_box rfl rfl rfl ?_)
  intro b1 w1 hb_b1 ew1 h1
  replace h1 : Box _ b1 28 [.int .u8 t.op, .string t.name, .string t.arg, .int .i64 t.n, .bool t.has, .int .u8 t.ann.op, .string t.ann.name, .int .i64 t.ann.n, akv, kv] := h1
  replace h1 := h1.at (nM_of hlow hb_b1)
  replace hE := ew1.bl hE hB
  replace ht := Rep.ext ht ew1
  replace ha := Rep.ext ha ew1
  replace hk := hk.ext ew1
  replace hlow := hlow.ext ew1
  replace hB := ew1.z hB
  refine l_p 1 tK rfl (q1 (q0 ?_))
  refine lC (o_lds tK (fun j v hv => h1.cell j v hv) rfl rfl rfl rfl rfl rfl ?_)
  refine lC (o_call fo9 rfl rfl rfl (tRight_spec t M _ _ ht hlow hz) ?_)
  rintro _ w2 ⟨rfl, ew2⟩
  replace hE := ew2.bl hE hB
  replace ht := Rep.ext ht ew2
  replace ha := Rep.ext ha ew2
  replace hk := hk.ext ew2
  replace h1 := h1.ext ew2
  replace hlow := hlow.ext ew2
  replace hB := ew2.z hB
  refine l_p 1 tK rfl ?_
  refine l_split 5 _ rfl (fun c1 => ?_) (fun c1 => ?_)
  · refine lC (o_lds tK (fun j v hv => h1.cell j v hv) rfl rfl rfl rfl rfl rfl ?_)
    refine lC (o_call fo38 rfl rfl rfl (static_all t false M _ _ c1 hz ht hlow) ?_)
    rintro _ w3 ⟨rfl, ew3⟩
    replace hE := ew3.bl hE hB
    replace ht := Rep.ext ht ew3
    replace ha := Rep.ext ha ew3
    replace hk := hk.ext ew3
    replace h1 := h1.ext ew3
    replace hlow := hlow.ext ew3
    replace hB := ew3.z hB
    refine l_p 2 tK rfl (q1 (c_ret (x_ret1 rfl rfl ?_)))
    exact ⟨by simp [c1], hE⟩
  refine l_p 4 tK rfl (q1 (c_ret (x_ret1 rfl rfl ?_)))
  exact ⟨by simp [c1], hE⟩
theorem treeNames_spec (t : Tm) (M : Nat → Prop) (w : World) (v : Value) (ht : Rep.R M w v t) (hzt : tmsz t ≤ 2000000) (hlow : Low M w) :
    Calls Tryz.prog 5 #[v] w (Ret fun r w' => r = .bool true ∧ Ext w w') := by
  have hE : Below w.heap.size w w := Below.refl _ _
  have hB : w.heap.size ≤ w.heap.size := Nat.le_refl _
  have hz := annS_tmsz (Nat.le_trans hzt (by decide))
  have hns := Nat.le_trans (nsz_tmsz t) hzt
  have hast := Nat.le_trans (asz_tmsz t) hzt
  obtain ⟨akv, kv, rfl, op, nm, ag, n64, ha, hk⟩ := tm_open ht
  refine c_enter (n := 43) Tryz.func5 rfl rfl rfl ?_
  refine q0 ?_
  refine lC (o_box rfl rfl rfl ?_)
  intro b1 w1 hb_b1 ew1 h1
  replace h1 : Box _ b1 28 [.int .u8 t.op, .string t.name, .string t.arg, .int .i64 t.n, .bool t.has, .int .u8 t.ann.op, .string t.ann.name, .int .i64 t.ann.n, akv, kv] := h1
  replace h1 := h1.at (nM_of hlow hb_b1)
  replace hE := ew1.bl hE hB
  replace ht := Rep.ext ht ew1
  replace ha := Rep.ext ha ew1
  replace hk := hk.ext ew1
  replace hlow := hlow.ext ew1
  replace hB := ew1.z hB
  refine l_p 1 tK rfl (q1 (c_seq (q0 ?_)))
  refine lC (o_call fo6 rfl rfl rfl (alive5_spec M _ hlow) ?_)
  rintro _ w2 ⟨rfl, ew2⟩
  replace hE := ew2.bl hE hB
  replace ht := Rep.ext ht ew2
  replace ha := Rep.ext ha ew2
  replace hk := hk.ext ew2
  replace h1 := h1.ext ew2
  replace hlow := hlow.ext ew2
  replace hB := ew2.z hB
  refine l_p 1 tK rfl (q1 ?_)
  refine c_ifB _ rfl (fun c1 => ?_) (fun c1 => ?_)
  · first | (exfalso; omega) | exact absurd c1 (by simp)
  refine c_skip (x_seq (c_seq (q0 ?_)))
  refine lC (o_lds tK (fun j v hv => h1.cell j v hv) rfl rfl rfl rfl rfl rfl ?_)
  refine lC (o_call fo7 rfl rfl rfl (many5_spec t M _ _ ht hlow hz (by omega) (by omega)) ?_)
  rintro _ w3 ⟨rfl, ew3⟩
  replace hE := ew3.bl hE hB
  replace ht := Rep.ext ht ew3
  replace ha := Rep.ext ha ew3
  replace hk := hk.ext ew3
  replace h1 := h1.ext ew3
  replace hlow := hlow.ext ew3
  replace hB := ew3.z hB
  refine q1 ?_
  refine c_if _ rfl (fun c2 => ?_) (fun c2 => ?_)
  · refine q0 (l_p 1 tK rfl (q1 (c_ret (x_seqR (x_ret1 rfl rfl ?_)))))
    exact ⟨by simp, hE⟩
  refine c_skip (x_seq (c_seq (q0 ?_)))
  refine lC (o_lds tK (fun j v hv => h1.cell j v hv) rfl rfl rfl rfl rfl rfl ?_)
  refine lC (o_call fo10 rfl rfl rfl (refTR_spec t false M _ _ ht hlow hz) ?_)
  rintro _ w4 ⟨rfl, ew4⟩
  replace hE := ew4.bl hE hB
  replace ht := Rep.ext ht ew4
  replace ha := Rep.ext ha ew4
  replace hk := hk.ext ew4
  replace h1 := h1.ext ew4
  replace hlow := hlow.ext ew4
  replace hB := ew4.z hB
  refine l_p 1 tK rfl (q1 ?_)
  refine c_ifB _ rfl (fun c3 => ?_) (fun c3 => ?_)
  · have hr : rightT t false = false := by simpa using c3
    refine q0 ?_
    refine lC (o_lds tK (fun j v hv => h1.cell j v hv) rfl rfl rfl rfl rfl rfl ?_)
    have hfs := free_spec t M _ _ ht hlow hz (by omega)
    rw [hr, cond_false] at hfs
    refine lC (o_call fo18 rfl rfl rfl (hfs) ?_)
    rintro vhfa w5 ⟨hfa, ew5⟩
    replace hE := ew5.bl hE hB
    replace ht := Rep.ext ht ew5
    replace ha := Rep.ext ha ew5
    replace hk := hk.ext ew5
    replace h1 := h1.ext ew5
    replace hlow := hlow.ext ew5
    replace hB := ew5.z hB
    refine lC (o_len tK hfa rfl rfl rfl rfl rfl ?_)
    refine l_p 2 tK rfl ?_
    refine l_splitP 14 _ rfl (fun c4 => ?_) (fun c4 => ?_)
    · refine lC (o_lds tK (fun j v hv => h1.cell j v hv) rfl rfl rfl rfl rfl rfl ?_)
      have hvs5 := Value_spec t M _ _ ht hlow hz
      rw [hr, Bool.false_and] at hvs5
      refine lC (o_call fo19 rfl rfl rfl (hvs5) ?_)
      rintro _ w6 ⟨rfl, ew6⟩
      replace hE := ew6.bl hE hB
      replace ht := Rep.ext ht ew6
      replace ha := Rep.ext ha ew6
      replace hk := hk.ext ew6
      replace h1 := h1.ext ew6
      replace hfa := hfa.ext ew6
      replace hlow := hlow.ext ew6
      replace hB := ew6.z hB
      refine l_p 3 tK rfl ?_
      refine lC (o_lds tK (fun j v hv => h1.cell j v hv) rfl rfl rfl rfl rfl rfl ?_)
      have hvs6 := Static_spec t M _ _ ht hlow hz
      rw [hr, Bool.false_and] at hvs6
      refine lC (o_call fo20 rfl rfl rfl (hvs6) ?_)
      rintro _ w7 ⟨rfl, ew7⟩
      replace hE := ew7.bl hE hB
      replace ht := Rep.ext ht ew7
      replace ha := Rep.ext ha ew7
      replace hk := hk.ext ew7
      replace h1 := h1.ext ew7
      replace hfa := hfa.ext ew7
      replace hlow := hlow.ext ew7
      replace hB := ew7.z hB
      refine l_p 3 tK rfl (q1 (c_ret (x_seqR (x_ret1 rfl rfl ?_))))
      exact ⟨by simp, hE⟩
    exact absurd c4 (by simp)
  have hr : rightT t false = true := by simpa using c3
  refine c_skip (x_seq (c_seq ?_))
  refine a_beg Ext rfl ?_
  intro w8 ew8
  replace hE := ew8.bl hE hB
  replace ht := Rep.ext ht ew8
  replace ha := Rep.ext ha ew8
  replace hk := hk.ext ew8
  replace h1 := h1.ext ew8
  replace hlow := hlow.ext ew8
  replace hB := ew8.z hB
  have hS : Ext w8 w8 := ext_refl _
  have D_hk := hk
  have D_h1 := h1
  refine a_lds 0 tK (fun _ hs j v hv => (D_h1.ext hs).cell j v hv) rfl rfl rfl rfl rfl rfl rfl (by kernel_rfl) (fun _ _ _ h => h) hS ?_
  refine a_lds 2 tK (fun _ hs j v hv => (D_h1.ext hs).cell j v hv) rfl rfl rfl rfl rfl rfl rfl (by kernel_rfl) (fun _ _ _ h => h) hS ?_
  have hfs := free_spec t M _ _ ht hlow hz (by omega)
  rw [hr, cond_true, freeS_law hr] at hfs
  refine a_one 1 rfl (by kernel_rfl) (o_call fo18 rfl rfl rfl (hfs) ?_)
  rintro vhfa w9 ⟨hfa, ew9⟩
  replace hS := hS.then ew9
  replace hE := ew9.bl hE hB
  replace ht := Rep.ext ht ew9
  replace ha := Rep.ext ha ew9
  replace hk := hk.ext ew9
  replace h1 := h1.ext ew9
  replace hlow := hlow.ext ew9
  replace hB := ew9.z hB
  refine ⟨hS, ?_⟩
  refine a_bar 3 rfl (by kernel_rfl) (by kernel_rfl) (o_call fo22 rfl rfl rfl (freeR_spec t M _ _ ht hlow hns) ?_)
  rintro vhfb w10 ⟨hfb, ew10⟩
  replace hS := hS.then ew10
  replace hE := ew10.bl hE hB
  replace ht := Rep.ext ht ew10
  replace ha := Rep.ext ha ew10
  replace hk := hk.ext ew10
  replace h1 := h1.ext ew10
  replace hfa := hfa.ext ew10
  replace hlow := hlow.ext ew10
  replace hB := ew10.z hB
  refine a_bar 4 rfl (by kernel_rfl) (by kernel_rfl) (o_call fo21 rfl rfl rfl (texts_spec _ _ M _ _ _ hfa hfb) ?_)
  rintro _ w11 ⟨rfl, ew11⟩
  replace hS := hS.then ew11
  replace hE := ew11.bl hE hB
  replace ht := Rep.ext ht ew11
  replace ha := Rep.ext ha ew11
  replace hk := hk.ext ew11
  replace h1 := h1.ext ew11
  replace hfa := hfa.ext ew11
  replace hfb := hfb.ext ew11
  replace hlow := hlow.ext ew11
  replace hB := ew11.z hB
  refine a_p 5 tK rfl rfl rfl rfl (by kernel_rfl) (fun _ _ _ h => h) hS ?_
  refine a_split 29 _ rfl (fun c7 => ?_) (fun c7 => ?_)
  · refine a_lds 6 tK (fun _ hs j v hv => (D_h1.ext hs).cell j v hv) rfl rfl rfl rfl rfl rfl rfl (by kernel_rfl) (fun _ _ _ h => h) hS ?_
    refine a_lds 8 tK (fun _ hs j v hv => (D_h1.ext hs).cell j v hv) rfl rfl rfl rfl rfl rfl rfl (by kernel_rfl) (fun _ _ _ h => h) hS ?_
    have hvs8 := Value_spec t M _ _ ht hlow hz
    rw [hr, Bool.true_and] at hvs8
    refine a_one 7 rfl (by kernel_rfl) (o_call fo19 rfl rfl rfl (hvs8) ?_)
    rintro _ w12 ⟨rfl, ew12⟩
    replace hS := hS.then ew12
    replace hE := ew12.bl hE hB
    replace ht := Rep.ext ht ew12
    replace ha := Rep.ext ha ew12
    replace hk := hk.ext ew12
    replace h1 := h1.ext ew12
    replace hfa := hfa.ext ew12
    replace hfb := hfb.ext ew12
    replace hlow := hlow.ext ew12
    replace hB := ew12.z hB
    refine ⟨hS, ?_⟩
    refine a_bar 9 rfl (by kernel_rfl) (by kernel_rfl) (o_call fo23 rfl rfl rfl ((valR_both t).1 false M _ _ hr ht hlow) ?_)
    rintro _ w13 ⟨rfl, ew13⟩
    replace hS := hS.then ew13
    replace hE := ew13.bl hE hB
    replace ht := Rep.ext ht ew13
    replace ha := Rep.ext ha ew13
    replace hk := hk.ext ew13
    replace h1 := h1.ext ew13
    replace hfa := hfa.ext ew13
    replace hfb := hfb.ext ew13
    replace hlow := hlow.ext ew13
    replace hB := ew13.z hB
    refine a_bar 10 rfl (by kernel_rfl) (by kernel_rfl) (o_beq tK rfl rfl rfl rfl rfl rfl ?_)
    refine a_p 11 tK rfl rfl rfl rfl (by kernel_rfl) (fun _ _ _ h => h) hS ?_
    refine a_p 12 tK rfl rfl rfl rfl (by kernel_rfl) (fun _ _ _ h => h) hS ?_
    refine a_split 36 _ rfl (fun c9 => ?_) (fun c9 => ?_)
    · refine a_lds 13 tK (fun _ hs j v hv => (D_h1.ext hs).cell j v hv) rfl rfl rfl rfl rfl rfl rfl (by kernel_rfl) (fun _ _ _ h => h) hS ?_
      refine a_lds 15 tK (fun _ hs j v hv => (D_h1.ext hs).cell j v hv) rfl rfl rfl rfl rfl rfl rfl (by kernel_rfl) (fun _ _ _ h => h) hS ?_
      have hvs10 := Static_spec t M _ _ ht hlow hz
      rw [hr, Bool.true_and] at hvs10
      refine a_one 14 rfl (by kernel_rfl) (o_call fo20 rfl rfl rfl (hvs10) ?_)
      rintro _ w14 ⟨rfl, ew14⟩
      replace hS := hS.then ew14
      replace hE := ew14.bl hE hB
      replace ht := Rep.ext ht ew14
      replace ha := Rep.ext ha ew14
      replace hk := hk.ext ew14
      replace h1 := h1.ext ew14
      replace hfa := hfa.ext ew14
      replace hfb := hfb.ext ew14
      replace hlow := hlow.ext ew14
      replace hB := ew14.z hB
      refine ⟨hS, ?_⟩
      refine a_bar 16 rfl (by kernel_rfl) (by kernel_rfl) (o_call fo24 rfl rfl rfl (refStaticM_spec t M _ _ ht hlow hz (by omega)) ?_)
      rintro _ w15 ⟨rfl, ew15⟩
      replace hS := hS.then ew15
      replace hE := ew15.bl hE hB
      replace ht := Rep.ext ht ew15
      replace ha := Rep.ext ha ew15
      replace hk := hk.ext ew15
      replace h1 := h1.ext ew15
      replace hfa := hfa.ext ew15
      replace hfb := hfb.ext ew15
      replace hlow := hlow.ext ew15
      replace hB := ew15.z hB
      refine a_bar 17 rfl (by kernel_rfl) (by kernel_rfl) (o_beq tK rfl rfl rfl rfl rfl rfl ?_)
      refine a_p 18 tK rfl rfl rfl rfl (by kernel_rfl) (fun _ _ _ h => h) hS ?_
      refine a_p 19 tK rfl rfl rfl rfl (by kernel_rfl) (fun _ _ _ h => h) hS ?_
      refine a_end (by kernel_rfl) ?_
      refine x_seq (c_ret (x_ret1 rfl rfl ?_))
      exact ⟨by simp, hE⟩
    exact absurd c9 (by simp)
  exact absurd c7 (by simp)
end Go.Proofs.YtohfnpmehgpphaaGreat
