/- The walk of a law. Printed by wip/walks/graph8.py. -/
import Derived.Test.YtcledfefgbbgeaaWg
import Derived.Test.YtcledfefgbbgeaaMore
import Derived.Test.YtcledfefgbbgeaaPlainK
namespace Go.Proofs.Ytcledfefgbbgeaa
open Go Rw Go.RowKit

/-- GraphGrows is true. -/
theorem graphGrows_spec (M : Nat → Prop) (w : World) (vn : Value) (needs : List (List Int)) (i k : Int) (hi : I64 i) (hk : I64 k) (hn : Sl M w vn needs) (hlow0 : Low M w) :
    Calls Try.prog 4 #[vn, .int .i64 i, .int .i64 k] w (Ret fun r w' => r = .bool true ∧ Ext w w') := by
  have hlow := hlow0
  have hB : w.heap.size ≤ w.heap.size := Nat.le_refl _
  have hE : Below w.heap.size w w := Below.refl _ _
  have hsub : ∀ b, M b → M b := fun _ h => h
  refine c_enter (n := 101) Try.func4 rfl rfl rfl ?_
  refine c_seq ?_
  refine c_reg ?_
  refine l_cons (o_p tbOk rfl rfl rfl ?_)
  refine l_nil ?_
  refine x_seq ?_
  refine c_seq ?_
  refine c_seq ?_
  refine c_reg ?_
  refine l_cons (o_call fo7 rfl rfl rfl (alive_spec M _ hlow) ?_)
  rintro _ w1 ⟨rfl, ew1⟩
  replace hE := hE.trans (Below.mono ew1 hB)
  replace hn := hn.ext ew1
  replace hlow := hlow.ext ew1
  replace hB := Nat.le_trans hB ew1.size
  refine l_cons (o_p tbOk rfl rfl rfl ?_)
  refine l_nil ?_
  refine x_seq ?_
  refine c_ifF rfl ?_
  refine c_skip ?_
  refine x_seq ?_
  refine c_seq ?_
  refine c_seq ?_
  refine c_reg ?_
  refine l_cons (o_p tbOk rfl rfl rfl ?_)
  refine l_cons (o_call fo8 rfl rfl rfl (few_spec M _ _ needs hn) ?_)
  rintro _ _ ⟨⟨b, rfl, hb⟩, rfl⟩
  refine l_cons (o_p tbOk rfl rfl rfl ?_)
  refine l_cons (o_p tbOk rfl rfl rfl ?_)
  refine l_splitB 19 _ rfl (fun h => ?_) (fun h => ?_)
  · refine l_cons (o_skip rfl rfl ?_)
    refine l_cons (o_skip rfl rfl ?_)
    refine l_cons (o_p tbOk rfl rfl rfl ?_)
    refine l_cons (o_p tbOk rfl rfl rfl ?_)
    refine l_cons (o_skip rfl rfl ?_)
    refine l_cons (o_skip rfl rfl ?_)
    refine l_cons (o_skip rfl rfl ?_)
    refine l_cons (o_skip rfl rfl ?_)
    refine l_cons (o_p tbOk rfl rfl rfl ?_)
    refine l_nil ?_
    refine x_seq ?_
    refine c_ifT rfl ?_
    refine c_seq ?_
    refine c_reg ?_
    refine l_cons (o_p tbOk rfl rfl rfl ?_)
    refine l_nil ?_
    refine x_seq ?_
    refine c_ret ?_
    refine x_seqR ?_
    refine x_ret1 rfl rfl ?_
    exact ⟨rfl, hE⟩
  · obtain rfl : b = true := by simpa using h
    obtain ⟨h14, h100⟩ := hb rfl
    refine l_cons (o_p tbOk rfl rfl rfl ?_)
    refine l_cons (o_p tbOk rfl rfl rfl ?_)
    refine l_cons (o_p tbOk rfl rfl rfl ?_)
    refine l_cons (o_p tbOk rfl rfl rfl ?_)
    refine l_splitP 23 _ rfl (fun h2 => ?_) (fun h2 => ?_)
    · refine l_cons (o_skip rfl rfl ?_)
      refine l_cons (o_skip rfl rfl ?_)
      refine l_cons (o_skip rfl rfl ?_)
      refine l_cons (o_skip rfl rfl ?_)
      refine l_cons (o_p tbOk rfl rfl rfl ?_)
      refine l_nil ?_
      refine x_seq ?_
      refine c_ifT rfl ?_
      refine c_seq ?_
      refine c_reg ?_
      refine l_cons (o_p tbOk rfl rfl rfl ?_)
      refine l_nil ?_
      refine x_seq ?_
      refine c_ret ?_
      refine x_seqR ?_
      refine x_ret1 rfl rfl ?_
      exact ⟨rfl, hE⟩
    · refine l_cons (o_p tbOk rfl rfl rfl ?_)
      refine l_cons (o_p tbOk rfl rfl rfl ?_)
      refine l_cons (o_len tbOk hn rfl rfl rfl rfl rfl ?_)
      refine l_cons (o_p tbOk rfl rfl rfl ?_)
      refine l_cons (o_p tbOk rfl rfl rfl ?_)
      refine l_nil ?_
      refine x_seq ?_
      refine c_ifP _ rfl (fun h3 => ?_) (fun h3 => ?_)
      · refine c_seq ?_
        refine c_reg ?_
        refine l_cons (o_p tbOk rfl rfl rfl ?_)
        refine l_nil ?_
        refine x_seq ?_
        refine c_ret ?_
        refine x_seqR ?_
        refine x_ret1 rfl rfl ?_
        exact ⟨rfl, hE⟩
      · refine c_skip ?_
        refine x_seq ?_
        refine c_seq ?_
        refine c_reg ?_
        refine l_cons (o_p tbOk rfl rfl rfl ?_)
        refine l_nil ?_
        refine x_seq ?_
        refine c_seq ?_
        refine c_seq ?_
        refine c_reg ?_
        refine l_cons (o_p tbOk rfl rfl rfl ?_)
        refine l_nil ?_
        refine x_seq ?_
        refine c_blk ?_
        refine c_loop3 (X := Nat) (Y := Value) (Z := Nat → Prop) (fun j v M1 => [(0, vn), (1, .int .i64 i), (2, .int .i64 k), (7, v), (8, .int .i64 (j : Nat))]) (fun j v M1 w' => j ≤ needs.length ∧ OwnSl 26 w.heap.size M1 w' v (grown needs i k j) ∧ Sl M1 w' vn needs ∧ Low M1 w' ∧ (∀ b, M b → M1 b) ∧ Below w.heap.size w w' ∧ w.heap.size ≤ w'.heap.size) (fun j v M1 => needs.length - j) (0) (.slice none 0 0) (M) (subL_cons rfl (subL_cons rfl (subL_cons rfl (subL_cons rfl (subL_cons rfl (subL_nil)))))) ?_ ?_
        · exact ⟨Nat.zero_le _, own_nil, hn, hlow, hsub, hE, hB⟩
        rintro j v M1 w2 ⟨hj, hm, hn, hlow, hsub, hE, hB⟩
        refine c_seq ?_
        refine c_seq ?_
        refine c_reg ?_
        refine l_cons (o_p tbOk rfl rfl rfl ?_)
        refine l_cons (o_p tbOk rfl rfl rfl ?_)
        refine l_cons (o_len tbOk hn rfl rfl rfl rfl rfl ?_)
        refine l_cons (o_p tbOk rfl rfl rfl ?_)
        refine l_nil ?_
        refine x_seq ?_
        refine c_ifP _ rfl (fun h4 => ?_) (fun h4 => ?_)
        · have hjn : j < needs.length := by omega
          have hl100 := h100 needs[j] (List.getElem_mem hjn)
          have Ohm := hm
          have Ohn := hn
          have Ohlow := hlow
          have Ohsub := hsub
          have OhE := hE
          have OhB := hB
          have hB : w2.heap.size ≤ w2.heap.size := Nat.le_refl _
          have hE : Below w2.heap.size w2 w2 := Below.refl _ _
          have hsub : ∀ b, M1 b → M1 b := fun _ h => h
          refine c_skip ?_
          refine x_seq ?_
          refine c_seq ?_
          refine c_blk ?_
          refine c_seq ?_
          refine c_reg ?_
          refine l_cons (o_bs tbOk rfl rfl rfl rfl rfl rfl rfl (by intro v hv; cases hv) rfl rfl rfl ?_)
          intro bw3 w3 qbw3 ew3 hbw3
          have sw3 := Stp.add ew3 hlow hB (Nat.le_of_eq qbw3.symm) hbw3.lt
          have le_bw3 := hB
          replace hE := hE.trans sw3.below
          replace hn := hn.stp sw3
          replace hsub := fun b h => sw3.sub b (hsub b h)
          replace hlow := sw3.low
          replace hB := Nat.le_trans hB sw3.upd.1
          have hl := own_litS sw3 hbw3 (show Rs _ _ [] ([] : List Int) from trivial) qbw3 le_bw3 (by simp [maxLen])
          refine l_cons (o_p tbOk rfl rfl rfl ?_)
          refine l_cons (o_p tbOk rfl rfl rfl ?_)
          refine l_cons (o_ixS tbOk hn (List.getElem?_eq_getElem hjn) rfl rfl rfl rfl rfl rfl rfl rfl rfl ?_)
          intro b4 o4 vs hs hat4
          replace hs : Sl (Rw.Add M1 bw3) w3 vs needs[j] := hs
          replace hat4 := hat4.sl hs
          refine l_cons (o_ld tbOk (hat4.cell 0 _ rfl) rfl rfl rfl rfl rfl ?_)
          refine l_cons (o_app tbOk hl hs hlow hB rfl rfl rfl rfl rfl rfl rfl (by show 0 + _ < _; omega) (by show (0 + _) * 8 ≤ _; omega) rfl rfl ?_)
          intro vw4 w4 Mw4 hw4 sw4 frw4 blw4
          replace hE := hE.trans sw4.below
          replace hn := hn.stp sw4
          replace hsub := fun b h => sw4.sub b (hsub b h)
          replace hlow := sw4.low
          replace hB := Nat.le_trans hB sw4.upd.1
          replace hl := hw4
          clear hw4
          replace hl : OwnSl _ _ Mw4 w4 _ needs[j] := hl
          refine l_cons (o_p tbOk rfl rfl rfl ?_)
          refine l_nil ?_
          refine x_seq ?_
          refine c_seq ?_
          refine c_seq ?_
          refine c_reg ?_
          refine l_cons (o_p tbOk rfl rfl rfl ?_)
          refine l_cons (o_p tbOk rfl rfl rfl ?_)
          refine l_cons (o_p tbOk rfl rfl rfl ?_)
          refine l_nil ?_
          refine x_seq ?_
          refine c_ifP _ rfl (fun hij => ?_) (fun hij => ?_)
          · refine c_reg ?_
            refine l_cons (o_p tbOk rfl rfl rfl ?_)
            refine l_cons (o_p tbOk rfl rfl rfl ?_)
            refine l_cons (o_bs tbOk rfl rfl rfl rfl rfl rfl rfl (sz1 rfl) rfl rfl rfl ?_)
            intro bw5 w5 qbw5 ew5 hbw5
            have nbw5 := nM_of hlow qbw5
            replace hl := hl.ext hlow hB ew5
            replace hE := hE.trans (Below.mono ew5 hB)
            replace hn := hn.ext ew5
            replace hlow := hlow.ext ew5
            replace hB := Nat.le_trans hB ew5.size
            refine l_cons (o_app1 tbOk hl hbw5 nbw5 ⟨rfl, hk⟩ hlow hB rfl rfl rfl rfl rfl rfl rfl (by omega) (by show (_ + _) * 8 ≤ _; omega) rfl rfl ?_)
            intro vw6 w6 Mw6 hw6 sw6 frw6 blw6
            replace hE := hE.trans sw6.below
            replace hn := hn.stp sw6
            replace hsub := fun b h => sw6.sub b (hsub b h)
            replace hlow := sw6.low
            replace hB := Nat.le_trans hB sw6.upd.1
            replace hl := hw6
            clear hw6
            refine l_cons (o_p tbOk rfl rfl rfl ?_)
            refine l_nil ?_
            refine x_seq ?_
            refine c_reg ?_
            refine l_cons (o_p tbOk rfl rfl rfl ?_)
            refine l_cons (o_p tbOk rfl rfl rfl ?_)
            have hrow := hl.sl (by simp; omega) Ohlow hsub
            have eN : Ext w2 w6 := hE
            have hm := Ohm
            clear Ohm
            have hn := Ohn
            clear Ohn
            have hlow := Ohlow
            clear Ohlow
            have hsub := Ohsub
            clear Ohsub
            have hE := OhE
            clear OhE
            have hB := OhB
            clear OhB
            replace hm := hm.ext hlow hB eN
            replace hE := hE.trans (Below.mono eN hB)
            replace hn := hn.ext eN
            replace hlow := hlow.ext eN
            replace hB := Nat.le_trans hB eN.size
            have hgl := grown_length needs i k j
            refine l_cons (o_bs tbOk rfl rfl rfl rfl rfl rfl rfl (sz1 (by rw [hrow.cells]; rfl)) rfl rfl rfl ?_)
            intro bw7 w7 qbw7 ew7 hbw7
            have nbw7 := nM_of hlow qbw7
            replace hm := hm.ext hlow hB ew7
            replace hE := hE.trans (Below.mono ew7 hB)
            replace hn := hn.ext ew7
            replace hrow := hrow.ext ew7
            replace hlow := hlow.ext ew7
            replace hB := Nat.le_trans hB ew7.size
            refine l_cons (o_app1 tbOk hm hbw7 nbw7 hrow hlow hB rfl rfl rfl rfl rfl rfl rfl (by omega) (by show (_ + _) * 24 ≤ _; omega) rfl rfl ?_)
            intro vw8 w8 Mw8 hw8 sw8 frw8 blw8
            replace hE := hE.trans sw8.below
            replace hn := hn.stp sw8
            replace hrow := hrow.stp sw8
            replace hsub := fun b h => sw8.sub b (hsub b h)
            replace hlow := sw8.low
            replace hB := Nat.le_trans hB sw8.upd.1
            replace hm := hw8
            clear hw8
            refine l_cons (o_p tbOk rfl rfl rfl ?_)
            refine l_nil ?_
            refine x_blk ?_
            refine x_seq ?_
            refine c_reg ?_
            refine l_cons (o_p tbOk rfl rfl rfl ?_)
            refine l_cons (o_ar rfl rfl rfl (IntWalk.i64_in _ (by omega)) rfl rfl ?_)
            refine l_cons (o_p tbOk rfl rfl rfl ?_)
            refine l_nil ?_
            exact x_round3 (j + 1) (vw8) (Mw8) (subL_cons rfl (subL_cons rfl (subL_cons rfl (subL_cons rfl (subL_cons rfl (subL_nil)))))) ⟨by omega, by rw [grown_succ hjn]; simpa [hij] using hm, hn, hlow, hsub, hE, hB⟩ (by omega)
          · refine c_skip ?_
            refine x_seq ?_
            refine c_reg ?_
            refine l_cons (o_p tbOk rfl rfl rfl ?_)
            refine l_cons (o_p tbOk rfl rfl rfl ?_)
            have hrow := hl.sl (by omega) Ohlow hsub
            have eN : Ext w2 w4 := hE
            have hm := Ohm
            clear Ohm
            have hn := Ohn
            clear Ohn
            have hlow := Ohlow
            clear Ohlow
            have hsub := Ohsub
            clear Ohsub
            have hE := OhE
            clear OhE
            have hB := OhB
            clear OhB
            replace hm := hm.ext hlow hB eN
            replace hE := hE.trans (Below.mono eN hB)
            replace hn := hn.ext eN
            replace hlow := hlow.ext eN
            replace hB := Nat.le_trans hB eN.size
            have hgl := grown_length needs i k j
            refine l_cons (o_bs tbOk rfl rfl rfl rfl rfl rfl rfl (sz1 (by rw [hrow.cells]; rfl)) rfl rfl rfl ?_)
            intro bw9 w9 qbw9 ew9 hbw9
            have nbw9 := nM_of hlow qbw9
            replace hm := hm.ext hlow hB ew9
            replace hE := hE.trans (Below.mono ew9 hB)
            replace hn := hn.ext ew9
            replace hrow := hrow.ext ew9
            replace hlow := hlow.ext ew9
            replace hB := Nat.le_trans hB ew9.size
            refine l_cons (o_app1 tbOk hm hbw9 nbw9 hrow hlow hB rfl rfl rfl rfl rfl rfl rfl (by omega) (by show (_ + _) * 24 ≤ _; omega) rfl rfl ?_)
            intro vw10 w10 Mw10 hw10 sw10 frw10 blw10
            replace hE := hE.trans sw10.below
            replace hn := hn.stp sw10
            replace hrow := hrow.stp sw10
            replace hsub := fun b h => sw10.sub b (hsub b h)
            replace hlow := sw10.low
            replace hB := Nat.le_trans hB sw10.upd.1
            replace hm := hw10
            clear hw10
            refine l_cons (o_p tbOk rfl rfl rfl ?_)
            refine l_nil ?_
            refine x_blk ?_
            refine x_seq ?_
            refine c_reg ?_
            refine l_cons (o_p tbOk rfl rfl rfl ?_)
            refine l_cons (o_ar rfl rfl rfl (IntWalk.i64_in _ (by omega)) rfl rfl ?_)
            refine l_cons (o_p tbOk rfl rfl rfl ?_)
            refine l_nil ?_
            exact x_round3 (j + 1) (vw10) (Mw10) (subL_cons rfl (subL_cons rfl (subL_cons rfl (subL_cons rfl (subL_cons rfl (subL_nil)))))) ⟨by omega, by rw [grown_succ hjn]; simpa [hij] using hm, hn, hlow, hsub, hE, hB⟩ (by omega)
        · obtain rfl : j = needs.length := by omega
          have hgl := grown_length needs i k needs.length
          have hgr := grown_grew needs i k
          generalize grown needs i k needs.length = more at hm hgl hgr
          replace hm : Sl M w2 v more := hm.sl (by omega) hlow0 hsub
          replace hn : Sl M w2 vn needs := hn.wk (fun b _ hb => hsub b hb)
          replace hlow : Low M w2 := fun b hb => Nat.lt_of_lt_of_le (hlow0 b hb) hB
          refine c_exit ?_
          refine x_seqE ?_
          refine x_seqE ?_
          refine x_blkE ?_
          refine x_seq ?_
          refine c_seq ?_
          refine c_seq ?_
          refine c_reg ?_
          refine l_cons (o_p tbOk rfl rfl rfl ?_)
          refine l_nil ?_
          refine x_seq ?_
          refine c_blk ?_
          refine c_loop (X := Nat) (fun j => [(0, vn), (7, v), (10, .int .i64 (j : Nat))]) (fun j w' => j ≤ needs.length ∧ Sl M w' v more ∧ Sl M w' vn needs ∧ Low M w' ∧ Below w.heap.size w w' ∧ w.heap.size ≤ w'.heap.size) (fun j => needs.length - j) (0) (subL_cons rfl (subL_cons rfl (subL_cons rfl (subL_nil)))) ?_ ?_
          · exact ⟨Nat.zero_le _, hm, hn, hlow, hE, hB⟩
          rintro j w11 ⟨hj, hm, hn, hlow, hE, hB⟩
          refine c_seq ?_
          refine c_seq ?_
          refine c_reg ?_
          refine l_cons (o_p tbOk rfl rfl rfl ?_)
          refine l_cons (o_p tbOk rfl rfl rfl ?_)
          refine l_cons (o_len tbOk hn rfl rfl rfl rfl rfl ?_)
          refine l_cons (o_p tbOk rfl rfl rfl ?_)
          refine l_nil ?_
          refine x_seq ?_
          refine c_ifP _ rfl (fun h5 => ?_) (fun h5 => ?_)
          · have hjn : j < needs.length := by omega
            have hrl := reach_len needs (j : Int)
            refine c_skip ?_
            refine x_seq ?_
            refine c_seq ?_
            refine c_blk ?_
            refine c_seq ?_
            refine c_reg ?_
            refine l_cons (o_p tbOk rfl rfl rfl ?_)
            refine l_cons (o_p tbOk rfl rfl rfl ?_)
            refine l_cons (o_call fo12 rfl rfl rfl (Reach_spec M _ _ needs (j : Int) hn hlow (by omega)) ?_)
            rintro r1 w12 ⟨hr1, ew12⟩
            replace hE := hE.trans (Below.mono ew12 hB)
            replace hm := hm.ext ew12
            replace hn := hn.ext ew12
            replace hlow := hlow.ext ew12
            replace hB := Nat.le_trans hB ew12.size
            refine l_cons (o_p tbOk rfl rfl rfl ?_)
            refine l_cons (o_p tbOk rfl rfl rfl ?_)
            refine l_cons (o_call fo12 rfl rfl rfl (Reach_spec M _ _ more (j : Int) hm hlow (by omega)) ?_)
            rintro r2 w13 ⟨hr2, ew13⟩
            replace hE := hE.trans (Below.mono ew13 hB)
            replace hm := hm.ext ew13
            replace hn := hn.ext ew13
            replace hr1 := hr1.ext ew13
            replace hlow := hlow.ext ew13
            replace hB := Nat.le_trans hB ew13.size
            refine l_cons (o_p tbOk rfl rfl rfl ?_)
            refine l_cons (o_p tbOk rfl rfl rfl ?_)
            refine l_nil ?_
            refine x_seq ?_
            refine c_seq ?_
            refine c_seq ?_
            refine c_reg ?_
            refine l_cons (o_p tbOk rfl rfl rfl ?_)
            refine l_nil ?_
            refine x_seq ?_
            refine c_blk ?_
            refine c_loop (X := Nat) (fun m => [(0, vn), (7, v), (10, .int .i64 (j : Nat)), (11, r1), (12, r2), (13, .int .i64 (m : Nat))]) (fun m w' => w13 = w' ∧ m ≤ (reachL needs (j : Int)).length) (fun m => (reachL needs (j : Int)).length - m) (0) (subL_cons rfl (subL_cons rfl (subL_cons rfl (subL_cons rfl (subL_cons rfl (subL_cons rfl (subL_nil))))))) ?_ ?_
            · exact ⟨rfl, Nat.zero_le _⟩
            rintro m _ ⟨rfl, hm0⟩
            refine c_seq ?_
            refine c_seq ?_
            refine c_reg ?_
            refine l_cons (o_p tbOk rfl rfl rfl ?_)
            refine l_cons (o_p tbOk rfl rfl rfl ?_)
            refine l_cons (o_len tbOk hr1 rfl rfl rfl rfl rfl ?_)
            refine l_cons (o_p tbOk rfl rfl rfl ?_)
            refine l_nil ?_
            refine x_seq ?_
            refine c_ifP _ rfl (fun h6 => ?_) (fun h6 => ?_)
            · have hmn : m < (reachL needs (j : Int)).length := by omega
              refine c_skip ?_
              refine x_seq ?_
              refine c_seq ?_
              refine c_blk ?_
              refine c_seq ?_
              refine c_reg ?_
              refine l_cons (o_p tbOk rfl rfl rfl ?_)
              refine l_cons (o_p tbOk rfl rfl rfl ?_)
              refine l_cons (o_p tbOk rfl rfl rfl ?_)
              refine l_cons (o_ixS tbOk hr1 (List.getElem?_eq_getElem hmn) rfl rfl rfl rfl rfl rfl rfl rfl rfl ?_)
              intro b5 o5 u5 hx5 hat5
              obtain ⟨rfl, _⟩ := hx5
              refine l_cons (o_ld tbOk (hat5.cell 0 _ rfl) rfl rfl rfl rfl rfl ?_)
              refine l_cons (o_call fo13 rfl rfl rfl (in_spec M _ _ _ _ hr2) ?_)
              rintro r _ ⟨hr, rfl⟩
              obtain rfl : r = .bool true := by
                rw [hr, decide_eq_true]
                obtain ⟨q, hq, hq2⟩ := mem_reach.1 (List.getElem_mem hmn)
                rw [hq]; exact mem_reach.2 ⟨q, rfl, hgr.rch hq2⟩
              refine l_cons (o_p tbOk rfl rfl rfl ?_)
              refine l_nil ?_
              refine x_seq ?_
              refine c_ifF rfl ?_
              refine c_skip ?_
              refine x_blk ?_
              refine x_seq ?_
              refine c_reg ?_
              refine l_cons (o_p tbOk rfl rfl rfl ?_)
              refine l_cons (o_ar rfl rfl rfl (IntWalk.i64_in _ (by omega)) rfl rfl ?_)
              refine l_cons (o_p tbOk rfl rfl rfl ?_)
              refine l_nil ?_
              exact x_round (m + 1) (subL_cons rfl (subL_cons rfl (subL_cons rfl (subL_cons rfl (subL_cons rfl (subL_cons rfl (subL_nil))))))) ⟨rfl, by omega⟩ (by omega)
            · refine c_exit ?_
              refine x_seqE ?_
              refine x_seqE ?_
              refine x_blkE ?_
              refine x_seq ?_
              refine c_seq ?_
              refine c_reg ?_
              refine l_cons (o_p tbOk rfl rfl rfl ?_)
              refine l_cons (o_call fo14 rfl rfl rfl (circles_spec M _ _ needs hn hlow (by omega)) ?_)
              rintro r3 w14 ⟨hr3, ew14⟩
              replace hE := hE.trans (Below.mono ew14 hB)
              replace hm := hm.ext ew14
              replace hn := hn.ext ew14
              replace hr1 := hr1.ext ew14
              replace hr2 := hr2.ext ew14
              replace hlow := hlow.ext ew14
              replace hB := Nat.le_trans hB ew14.size
              refine l_cons (o_p tbOk rfl rfl rfl ?_)
              refine l_cons (o_call fo13 rfl rfl rfl (in_spec M _ _ _ _ hr3) ?_)
              rintro _ _ ⟨rfl, rfl⟩
              refine l_cons (o_p tbOk rfl rfl rfl ?_)
              refine l_split 81 _ rfl (fun h7 => ?_) (fun h7 => ?_)
              · refine l_cons (o_p tbOk rfl rfl rfl ?_)
                refine l_cons (o_call fo14 rfl rfl rfl (circles_spec M _ _ more hm hlow (by omega)) ?_)
                rintro r4 w15 ⟨hr4, ew15⟩
                replace hE := hE.trans (Below.mono ew15 hB)
                replace hm := hm.ext ew15
                replace hn := hn.ext ew15
                replace hr1 := hr1.ext ew15
                replace hr2 := hr2.ext ew15
                replace hr3 := hr3.ext ew15
                replace hlow := hlow.ext ew15
                replace hB := Nat.le_trans hB ew15.size
                refine l_cons (o_p tbOk rfl rfl rfl ?_)
                refine l_cons (o_call fo13 rfl rfl rfl (in_spec M _ _ _ _ hr4) ?_)
                rintro r _ ⟨hr, rfl⟩
                obtain rfl : r = .bool true := by
                  rw [hr, decide_eq_true]
                  exact mem_circles.2 (hgr.rch (mem_circles.1 (of_decide_eq_true h7)))
                refine l_cons (o_p tbOk rfl rfl rfl ?_)
                refine l_cons (o_p tbOk rfl rfl rfl ?_)
                refine l_cons (o_p tbOk rfl rfl rfl ?_)
                refine l_cons (o_p tbOk rfl rfl rfl ?_)
                refine l_cons (o_call fo10 rfl rfl rfl (order_spec M _ _ more hm hlow (by omega)) ?_)
                rintro r5 w16 ⟨hr5, ew16⟩
                replace hE := hE.trans (Below.mono ew16 hB)
                replace hm := hm.ext ew16
                replace hn := hn.ext ew16
                replace hr1 := hr1.ext ew16
                replace hr2 := hr2.ext ew16
                replace hr3 := hr3.ext ew16
                replace hr4 := hr4.ext ew16
                replace hlow := hlow.ext ew16
                replace hB := Nat.le_trans hB ew16.size
                refine l_cons (o_p tbOk rfl rfl rfl ?_)
                refine l_cons (o_call fo13 rfl rfl rfl (in_spec M _ _ _ _ hr5) ?_)
                rintro _ _ ⟨rfl, rfl⟩
                refine l_cons (o_p tbOk rfl rfl rfl ?_)
                refine l_split 93 _ rfl (fun h8 => ?_) (fun h8 => ?_)
                · refine l_cons (o_p tbOk rfl rfl rfl ?_)
                  refine l_cons (o_call fo10 rfl rfl rfl (order_spec M _ _ needs hn hlow (by omega)) ?_)
                  rintro r6 w17 ⟨hr6, ew17⟩
                  replace hE := hE.trans (Below.mono ew17 hB)
                  replace hm := hm.ext ew17
                  replace hn := hn.ext ew17
                  replace hr1 := hr1.ext ew17
                  replace hr2 := hr2.ext ew17
                  replace hr3 := hr3.ext ew17
                  replace hr4 := hr4.ext ew17
                  replace hr5 := hr5.ext ew17
                  replace hlow := hlow.ext ew17
                  replace hB := Nat.le_trans hB ew17.size
                  refine l_cons (o_p tbOk rfl rfl rfl ?_)
                  refine l_cons (o_call fo13 rfl rfl rfl (in_spec M _ _ _ _ hr6) ?_)
                  rintro r _ ⟨hr, rfl⟩
                  obtain rfl : r = .bool true := by
                    rw [hr, decide_eq_true]
                    exact hgr.order hjn (of_decide_eq_true h8)
                  refine l_cons (o_p tbOk rfl rfl rfl ?_)
                  refine l_cons (o_p tbOk rfl rfl rfl ?_)
                  refine l_cons (o_p tbOk rfl rfl rfl ?_)
                  refine l_nil ?_
                  refine x_seq ?_
                  refine c_ifF rfl ?_
                  refine c_skip ?_
                  refine x_blk ?_
                  refine x_seq ?_
                  refine c_reg ?_
                  refine l_cons (o_p tbOk rfl rfl rfl ?_)
                  refine l_cons (o_ar rfl rfl rfl (IntWalk.i64_in _ (by omega)) rfl rfl ?_)
                  refine l_cons (o_p tbOk rfl rfl rfl ?_)
                  refine l_nil ?_
                  exact x_round (j + 1) (subL_cons rfl (subL_cons rfl (subL_cons rfl (subL_nil)))) ⟨by omega, hm, hn, hlow, hE, hB⟩ (by omega)
                · refine l_cons (o_skip rfl rfl ?_)
                  refine l_cons (o_skip rfl rfl ?_)
                  refine l_cons (o_skip rfl rfl ?_)
                  refine l_cons (o_skip rfl rfl ?_)
                  refine l_cons (o_skip rfl rfl ?_)
                  refine l_cons (o_p tbOk rfl rfl rfl ?_)
                  refine l_cons (o_p tbOk rfl rfl rfl ?_)
                  refine l_nil ?_
                  refine x_seq ?_
                  refine c_ifF rfl ?_
                  refine c_skip ?_
                  refine x_blk ?_
                  refine x_seq ?_
                  refine c_reg ?_
                  refine l_cons (o_p tbOk rfl rfl rfl ?_)
                  refine l_cons (o_ar rfl rfl rfl (IntWalk.i64_in _ (by omega)) rfl rfl ?_)
                  refine l_cons (o_p tbOk rfl rfl rfl ?_)
                  refine l_nil ?_
                  exact x_round (j + 1) (subL_cons rfl (subL_cons rfl (subL_cons rfl (subL_nil)))) ⟨by omega, hm, hn, hlow, hE, hB⟩ (by omega)
              · refine l_cons (o_skip rfl rfl ?_)
                refine l_cons (o_skip rfl rfl ?_)
                refine l_cons (o_skip rfl rfl ?_)
                refine l_cons (o_skip rfl rfl ?_)
                refine l_cons (o_skip rfl rfl ?_)
                refine l_cons (o_p tbOk rfl rfl rfl ?_)
                refine l_cons (o_p tbOk rfl rfl rfl ?_)
                refine l_cons (o_p tbOk rfl rfl rfl ?_)
                refine l_cons (o_call fo10 rfl rfl rfl (order_spec M _ _ more hm hlow (by omega)) ?_)
                rintro r5 w18 ⟨hr5, ew18⟩
                replace hE := hE.trans (Below.mono ew18 hB)
                replace hm := hm.ext ew18
                replace hn := hn.ext ew18
                replace hr1 := hr1.ext ew18
                replace hr2 := hr2.ext ew18
                replace hr3 := hr3.ext ew18
                replace hlow := hlow.ext ew18
                replace hB := Nat.le_trans hB ew18.size
                refine l_cons (o_p tbOk rfl rfl rfl ?_)
                refine l_cons (o_call fo13 rfl rfl rfl (in_spec M _ _ _ _ hr5) ?_)
                rintro _ _ ⟨rfl, rfl⟩
                refine l_cons (o_p tbOk rfl rfl rfl ?_)
                refine l_split 93 _ rfl (fun h8 => ?_) (fun h8 => ?_)
                · refine l_cons (o_p tbOk rfl rfl rfl ?_)
                  refine l_cons (o_call fo10 rfl rfl rfl (order_spec M _ _ needs hn hlow (by omega)) ?_)
                  rintro r6 w19 ⟨hr6, ew19⟩
                  replace hE := hE.trans (Below.mono ew19 hB)
                  replace hm := hm.ext ew19
                  replace hn := hn.ext ew19
                  replace hr1 := hr1.ext ew19
                  replace hr2 := hr2.ext ew19
                  replace hr3 := hr3.ext ew19
                  replace hr5 := hr5.ext ew19
                  replace hlow := hlow.ext ew19
                  replace hB := Nat.le_trans hB ew19.size
                  refine l_cons (o_p tbOk rfl rfl rfl ?_)
                  refine l_cons (o_call fo13 rfl rfl rfl (in_spec M _ _ _ _ hr6) ?_)
                  rintro r _ ⟨hr, rfl⟩
                  obtain rfl : r = .bool true := by
                    rw [hr, decide_eq_true]
                    exact hgr.order hjn (of_decide_eq_true h8)
                  refine l_cons (o_p tbOk rfl rfl rfl ?_)
                  refine l_cons (o_p tbOk rfl rfl rfl ?_)
                  refine l_cons (o_p tbOk rfl rfl rfl ?_)
                  refine l_nil ?_
                  refine x_seq ?_
                  refine c_ifF rfl ?_
                  refine c_skip ?_
                  refine x_blk ?_
                  refine x_seq ?_
                  refine c_reg ?_
                  refine l_cons (o_p tbOk rfl rfl rfl ?_)
                  refine l_cons (o_ar rfl rfl rfl (IntWalk.i64_in _ (by omega)) rfl rfl ?_)
                  refine l_cons (o_p tbOk rfl rfl rfl ?_)
                  refine l_nil ?_
                  exact x_round (j + 1) (subL_cons rfl (subL_cons rfl (subL_cons rfl (subL_nil)))) ⟨by omega, hm, hn, hlow, hE, hB⟩ (by omega)
                · refine l_cons (o_skip rfl rfl ?_)
                  refine l_cons (o_skip rfl rfl ?_)
                  refine l_cons (o_skip rfl rfl ?_)
                  refine l_cons (o_skip rfl rfl ?_)
                  refine l_cons (o_skip rfl rfl ?_)
                  refine l_cons (o_p tbOk rfl rfl rfl ?_)
                  refine l_cons (o_p tbOk rfl rfl rfl ?_)
                  refine l_nil ?_
                  refine x_seq ?_
                  refine c_ifF rfl ?_
                  refine c_skip ?_
                  refine x_blk ?_
                  refine x_seq ?_
                  refine c_reg ?_
                  refine l_cons (o_p tbOk rfl rfl rfl ?_)
                  refine l_cons (o_ar rfl rfl rfl (IntWalk.i64_in _ (by omega)) rfl rfl ?_)
                  refine l_cons (o_p tbOk rfl rfl rfl ?_)
                  refine l_nil ?_
                  exact x_round (j + 1) (subL_cons rfl (subL_cons rfl (subL_cons rfl (subL_nil)))) ⟨by omega, hm, hn, hlow, hE, hB⟩ (by omega)
          · refine c_exit ?_
            refine x_seqE ?_
            refine x_seqE ?_
            refine x_blkE ?_
            refine x_seq ?_
            refine c_seq ?_
            refine c_reg ?_
            refine l_cons (o_p tbOk rfl rfl rfl ?_)
            refine l_nil ?_
            refine x_seq ?_
            refine c_ret ?_
            refine x_ret1 rfl rfl ?_
            exact ⟨rfl, hE⟩

end Go.Proofs.Ytcledfefgbbgeaa
