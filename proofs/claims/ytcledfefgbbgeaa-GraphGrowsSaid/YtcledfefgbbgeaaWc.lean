/- Walks of the document's graph functions. Printed by wip/walks/graph3.py. -/
import Derived.Test.YtcledfefgbbgeaaWb
import Derived.Test.YtcledfefgbbgeaaPlainH
namespace Go.Proofs.Ytcledfefgbbgeaa
open Go Rw Go.RowKit

/-- Reaches: does a node reach another one? -/
theorem reaches_spec (M : Nat → Prop) (w : World) (vn : Value) (needs : List (List Int)) (i k : Nat) (hn : Sl M w vn needs) (hi : i < needs.length) (hk : k < needs.length) (hlow0 : Low M w) (hsm : needs.length ≤ 1000000) :
    Calls Try.prog 25 #[vn, .int .i64 (i : Int), .int .i64 (k : Int)] w (Ret fun r w' => r = .bool (@decide (Rch needs i k) (Classical.propDecidable _)) ∧ Ext w w') := by
  have hlow := hlow0
  have hB : w.heap.size ≤ w.heap.size := Nat.le_refl _
  have hE : Below w.heap.size w w := Below.refl _ _
  have hsub : ∀ b, M b → M b := fun _ h => h
  refine c_enter (n := 91) Try.func25 rfl rfl rfl ?_
  refine c_seq ?_
  refine c_reg ?_
  refine l_cons (o_p tbOk rfl rfl rfl ?_)
  refine l_nil ?_
  refine x_seq ?_
  refine c_seq ?_
  refine c_reg ?_
  refine l_cons (o_p tbOk rfl rfl rfl ?_)
  refine l_cons (o_len tbOk hn rfl rfl rfl rfl rfl ?_)
  refine l_cons (o_mk (false) tbOk rfl rfl rfl rfl rfl rfl rfl rfl (fun _ _ => rfl) (by show 1 * _ ≤ 140737488355328; omega) (by omega) hlow hB rfl rfl ?_)
  intro bw1 w1 qbw1 ew1 sw1 hnow
  replace hE := hE.trans sw1.below
  replace hn := hn.stp sw1
  replace hsub := fun b h => sw1.sub b (hsub b h)
  replace hlow := sw1.low
  replace hB := Nat.le_trans hB sw1.upd.1
  refine l_cons (o_p tbOk rfl rfl rfl ?_)
  refine l_nil ?_
  refine x_seq ?_
  refine c_seq ?_
  refine c_reg ?_
  refine l_cons (o_p tbOk rfl rfl rfl ?_)
  refine l_cons (o_p tbOk rfl rfl rfl ?_)
  refine l_cons (o_ixO tbOk hnow (y := false) (by simp [hi]) rfl rfl rfl rfl rfl rfl rfl rfl rfl ?_)
  intro b u hob hr hat
  obtain rfl := hr
  obtain rfl := ob_eq hob
  refine l_cons (o_stO tbOk hnow hob (by simpa using hi) (z := true) rfl hlow rfl rfl rfl rfl rfl rfl ?_)
  intro w2 hw2 sw2 frw2
  replace hE := hE.trans sw2.below
  replace hn := hn.stp sw2
  replace hsub := fun b h => sw2.sub b (hsub b h)
  replace hlow := sw2.low
  replace hB := Nat.le_trans hB sw2.upd.1
  replace hnow := hw2
  clear hw2
  replace hnow : OwnSl 4 w.heap.size _ w2 (.slice (some ⟨bw1, 0, none⟩) needs.length needs.length) (rounds needs i 0) := hnow
  refine l_nil ?_
  refine x_seq ?_
  refine c_seq ?_
  refine c_seq ?_
  refine c_reg ?_
  refine l_cons (o_p tbOk rfl rfl rfl ?_)
  refine l_nil ?_
  refine x_seq ?_
  refine c_blk ?_
  refine c_loop2 (X := Nat) (Y := Nat → Prop) (fun t M1 => [(0, vn), (1, .int .i64 (i : Int)), (2, .int .i64 (k : Int)), (7, (.slice (some ⟨bw1, 0, none⟩) needs.length needs.length)), (8, .int .i64 (t : Nat))]) (fun t M1 w' => t ≤ needs.length ∧ (∀ s, s < t → ¬ NextP needs (rounds needs i s) k) ∧ OwnSl 4 w.heap.size M1 w' (.slice (some ⟨bw1, 0, none⟩) needs.length needs.length) (rounds needs i t) ∧ Sl M1 w' vn needs ∧ Low M1 w' ∧ (∀ b, M b → M1 b) ∧ Below w.heap.size w w' ∧ w.heap.size ≤ w'.heap.size) (fun t M1 => needs.length - t) (0) ((Rw.Add M bw1)) (subL_cons rfl (subL_cons rfl (subL_cons rfl (subL_cons rfl (subL_cons rfl (subL_nil)))))) ?_ ?_
  · exact ⟨Nat.zero_le _, fun s hs => absurd hs (Nat.not_lt_zero _), hnow, hn, hlow, hsub, hE, hB⟩
  rintro t M1 w3 ⟨ht, hno, hnow, hn, hlow, hsub, hE, hB⟩
  refine c_seq ?_
  refine c_seq ?_
  refine c_reg ?_
  refine l_cons (o_p tbOk rfl rfl rfl ?_)
  refine l_cons (o_p tbOk rfl rfl rfl ?_)
  refine l_cons (o_len tbOk hn rfl rfl rfl rfl rfl ?_)
  refine l_cons (o_p tbOk rfl rfl rfl ?_)
  refine l_nil ?_
  refine x_seq ?_
  refine c_ifP _ rfl (fun h => ?_) (fun h => ?_)
  · have hlen := rounds_length needs i t
    have hbn : bw1 < w3.heap.size := (hnow.lt bw1 rfl).2
    refine c_skip ?_
    refine x_seq ?_
    refine c_seq ?_
    refine c_blk ?_
    refine c_seq ?_
    refine c_reg ?_
    refine l_cons (o_p tbOk rfl rfl rfl ?_)
    refine l_cons (o_len tbOk hn rfl rfl rfl rfl rfl ?_)
    refine l_cons (o_mk (false) tbOk rfl rfl rfl rfl rfl rfl rfl rfl (fun _ _ => rfl) (by show 1 * _ ≤ 140737488355328; omega) (by omega) hlow hB rfl rfl ?_)
    intro bw4 w4 qbw4 ew4 sw4 hnext
    replace hnow := hnow.stp sw4 (fun x hx => ew4.block x (hnow.lt x hx).2)
    replace hE := hE.trans sw4.below
    replace hn := hn.stp sw4
    replace hsub := fun b h => sw4.sub b (hsub b h)
    replace hlow := sw4.low
    replace hB := Nat.le_trans hB sw4.upd.1
    have hne : bw1 ≠ bw4 := by omega
    refine l_cons (o_p tbOk rfl rfl rfl ?_)
    refine l_nil ?_
    refine x_seq ?_
    refine c_seq ?_
    refine c_seq ?_
    refine c_reg ?_
    refine l_cons (o_p tbOk rfl rfl rfl ?_)
    refine l_nil ?_
    refine x_seq ?_
    refine c_blk ?_
    refine c_loop2 (X := Nat) (Y := List Bool) (fun j nx => [(0, vn), (1, .int .i64 (i : Int)), (2, .int .i64 (k : Int)), (7, (.slice (some ⟨bw1, 0, none⟩) needs.length needs.length)), (8, .int .i64 (t : Nat)), (9, (.slice (some ⟨bw4, 0, none⟩) needs.length needs.length)), (10, .int .i64 (j : Nat))]) (fun j nx w' => j ≤ needs.length ∧ Nxt needs (rounds needs i t) j nx ∧ OwnSl 4 w.heap.size (Rw.Add M1 bw4) w' (.slice (some ⟨bw4, 0, none⟩) needs.length needs.length) nx ∧ OwnSl 4 w.heap.size (Rw.Add M1 bw4) w' (.slice (some ⟨bw1, 0, none⟩) needs.length needs.length) (rounds needs i t) ∧ Sl (Rw.Add M1 bw4) w' vn needs ∧ Low (Rw.Add M1 bw4) w' ∧ (∀ b, M b → (Rw.Add M1 bw4) b) ∧ Below w.heap.size w w' ∧ w.heap.size ≤ w'.heap.size) (fun j nx => needs.length - j) (0) (List.replicate needs.length false) (subL_cons rfl (subL_cons rfl (subL_cons rfl (subL_cons rfl (subL_cons rfl (subL_cons rfl (subL_cons rfl (subL_nil)))))))) ?_ ?_
    · exact ⟨Nat.zero_le _, nxt_start _ _, hnext, hnow, hn, hlow, hsub, hE, hB⟩
    rintro j nx w5 ⟨hj, hx, hnext, hnow, hn, hlow, hsub, hE, hB⟩
    refine c_seq ?_
    refine c_seq ?_
    refine c_reg ?_
    refine l_cons (o_p tbOk rfl rfl rfl ?_)
    refine l_cons (o_p tbOk rfl rfl rfl ?_)
    refine l_cons (o_len tbOk hn rfl rfl rfl rfl rfl ?_)
    refine l_cons (o_p tbOk rfl rfl rfl ?_)
    refine l_nil ?_
    refine x_seq ?_
    refine c_ifP _ rfl (fun h0 => ?_) (fun h0 => ?_)
    · have hjn : j < needs.length := by omega
      have hjr : j < (rounds needs i t).length := by omega
      have hxi := nxt_in hx (List.getElem?_eq_getElem hjn)
      refine c_skip ?_
      refine x_seq ?_
      refine c_seq ?_
      refine c_blk ?_
      refine c_seq ?_
      refine c_reg ?_
      refine l_cons (o_p tbOk rfl rfl rfl ?_)
      refine l_nil ?_
      refine x_seq ?_
      refine c_blk ?_
      refine c_loop2 (X := Nat) (Y := List Bool) (fun p nx => [(0, vn), (1, .int .i64 (i : Int)), (2, .int .i64 (k : Int)), (7, (.slice (some ⟨bw1, 0, none⟩) needs.length needs.length)), (8, .int .i64 (t : Nat)), (9, (.slice (some ⟨bw4, 0, none⟩) needs.length needs.length)), (10, .int .i64 (j : Nat)), (11, .int .i64 (p : Nat))]) (fun p nx w' => NxtIn needs (rounds needs i t) j needs[j] p nx ∧ OwnSl 4 w.heap.size (Rw.Add M1 bw4) w' (.slice (some ⟨bw4, 0, none⟩) needs.length needs.length) nx ∧ OwnSl 4 w.heap.size (Rw.Add M1 bw4) w' (.slice (some ⟨bw1, 0, none⟩) needs.length needs.length) (rounds needs i t) ∧ Sl (Rw.Add M1 bw4) w' vn needs ∧ Low (Rw.Add M1 bw4) w' ∧ (∀ b, M b → (Rw.Add M1 bw4) b) ∧ Below w.heap.size w w' ∧ w.heap.size ≤ w'.heap.size) (fun p nx => needs[j].length - p) (0) (nx) (subL_cons rfl (subL_cons rfl (subL_cons rfl (subL_cons rfl (subL_cons rfl (subL_cons rfl (subL_cons rfl (subL_cons rfl (subL_nil))))))))) ?_ ?_
      · exact ⟨hxi, hnext, hnow, hn, hlow, hsub, hE, hB⟩
      rintro p nx w6 ⟨hx, hnext, hnow, hn, hlow, hsub, hE, hB⟩
      refine c_seq ?_
      refine c_seq ?_
      refine c_reg ?_
      refine l_cons (o_p tbOk rfl rfl rfl ?_)
      refine l_cons (o_p tbOk rfl rfl rfl ?_)
      refine l_cons (o_ixO tbOk hnow (List.getElem?_eq_getElem hjr) rfl rfl rfl rfl rfl rfl rfl rfl rfl ?_)
      intro b1 u1 hob1 hr1 hat1
      obtain rfl := hr1
      refine l_cons (o_ld tbOk (hat1.cell 0 _ rfl) rfl rfl rfl rfl rfl ?_)
      refine l_cons (o_p tbOk rfl rfl rfl ?_)
      refine l_split 39 _ rfl (fun h1 => ?_) (fun h1 => ?_)
      · refine l_cons (o_p tbOk rfl rfl rfl ?_)
        refine l_cons (o_p tbOk rfl rfl rfl ?_)
        refine l_cons (o_p tbOk rfl rfl rfl ?_)
        refine l_cons (o_ixS tbOk hn (List.getElem?_eq_getElem hjn) rfl rfl rfl rfl rfl rfl rfl rfl rfl ?_)
        intro b2 o2 vs hs hat2
        replace hs : Sl (Rw.Add M1 bw4) w6 vs needs[j] := hs
        replace hat2 := hat2.sl hs
        have hsl := hs.lt
        refine l_cons (o_ld tbOk (hat2.cell 0 _ rfl) rfl rfl rfl rfl rfl ?_)
        refine l_cons (o_len tbOk hs rfl rfl rfl rfl rfl ?_)
        refine l_cons (o_p tbOk rfl rfl rfl ?_)
        refine l_cons (o_p tbOk rfl rfl rfl ?_)
        refine l_nil ?_
        refine x_seq ?_
        refine c_ifP _ rfl (fun h2 => ?_) (fun h2 => ?_)
        · have hp : p < needs[j].length := by omega
          refine c_skip ?_
          refine x_seq ?_
          refine c_seq ?_
          refine c_blk ?_
          refine c_seq ?_
          refine c_reg ?_
          refine l_cons (o_p tbOk rfl rfl rfl ?_)
          refine l_cons (o_p tbOk rfl rfl rfl ?_)
          refine l_cons (o_ixS tbOk hn (List.getElem?_eq_getElem hjn) rfl rfl rfl rfl rfl rfl rfl rfl rfl ?_)
          intro b3 o3 vs3 hs3 hat3
          replace hs3 : Sl (Rw.Add M1 bw4) w6 vs3 needs[j] := hs3
          replace hat3 := hat3.sl hs3
          refine l_cons (o_ld tbOk (hat3.cell 0 _ rfl) rfl rfl rfl rfl rfl ?_)
          refine l_cons (o_p tbOk rfl rfl rfl ?_)
          refine l_cons (o_ixS tbOk hs3 (List.getElem?_eq_getElem hp) rfl rfl rfl rfl rfl rfl rfl rfl rfl ?_)
          intro b4 o4 u4 hr4 hat4
          obtain ⟨rfl, hi4⟩ := hr4
          refine l_cons (o_ld tbOk (hat4.cell 0 _ rfl) rfl rfl rfl rfl rfl ?_)
          refine l_cons (o_p tbOk rfl rfl rfl ?_)
          refine l_nil ?_
          refine x_seq ?_
          refine c_seq ?_
          refine c_reg ?_
          refine l_cons (o_p tbOk rfl rfl rfl ?_)
          refine l_cons (o_p tbOk rfl rfl rfl ?_)
          refine l_cons (o_p tbOk rfl rfl rfl ?_)
          refine l_splitP 59 _ rfl (fun h3 => ?_) (fun h3 => ?_)
          · refine l_cons (o_p tbOk rfl rfl rfl ?_)
            refine l_cons (o_p tbOk rfl rfl rfl ?_)
            refine l_cons (o_len tbOk hn rfl rfl rfl rfl rfl ?_)
            refine l_cons (o_p tbOk rfl rfl rfl ?_)
            refine l_cons (o_p tbOk rfl rfl rfl ?_)
            refine l_nil ?_
            refine x_seq ?_
            refine c_ifP _ rfl (fun h4 => ?_) (fun h4 => ?_)
            · obtain ⟨v, hv, hvn⟩ := isNode_nat (show isNode needs needs[j][p] = true by simp [isNode, h3, h4])
              have hvx : v < nx.length := by rw [hx.base.len]; exact hvn
              refine c_reg ?_
              refine l_cons (o_p tbOk rfl rfl rfl ?_)
              refine l_cons (o_p tbOk rfl rfl rfl ?_)
              refine l_cons (o_ixO tbOk hnext (List.getElem?_eq_getElem hvx) rfl rfl hv rfl rfl rfl rfl rfl rfl ?_)
              intro b5 u5 hob5 hr5 hat5
              obtain rfl := ob_eq hob5
              refine l_cons (o_stO tbOk hnext hob5 hvx (z := true) rfl hlow rfl rfl rfl rfl rfl rfl ?_)
              intro w7 hw7 sw7 frw7
              replace hnow := hnow.stp sw7 (fun x hx => frw7 x (hnow.lt x hx).2 (fun e => hne ((ob_eq hx).trans e)))
              replace hE := hE.trans sw7.below
              replace hn := hn.stp sw7
              replace hsub := fun b h => sw7.sub b (hsub b h)
              replace hlow := sw7.low
              replace hB := Nat.le_trans hB sw7.upd.1
              replace hnext := hw7
              clear hw7
              refine l_nil ?_
              refine x_blk ?_
              refine x_seq ?_
              refine c_reg ?_
              refine l_cons (o_p tbOk rfl rfl rfl ?_)
              refine l_cons (o_ar rfl rfl rfl (IntWalk.i64_in _ (by omega)) rfl rfl ?_)
              refine l_cons (o_p tbOk rfl rfl rfl ?_)
              refine l_nil ?_
              exact x_round2 (p + 1) (nx.set v true) (subL_cons rfl (subL_cons rfl (subL_cons rfl (subL_cons rfl (subL_cons rfl (subL_cons rfl (subL_cons rfl (subL_cons rfl (subL_nil))))))))) ⟨nxt_mark hx (by rw [List.getElem?_eq_getElem hjr, h1]) hp hv hvn, hnext, hnow, hn, hlow, hsub, hE, hB⟩ (by omega)
            · refine c_skip ?_
              refine x_blk ?_
              refine x_seq ?_
              refine c_reg ?_
              refine l_cons (o_p tbOk rfl rfl rfl ?_)
              refine l_cons (o_ar rfl rfl rfl (IntWalk.i64_in _ (by omega)) rfl rfl ?_)
              refine l_cons (o_p tbOk rfl rfl rfl ?_)
              refine l_nil ?_
              exact x_round2 (p + 1) (nx) (subL_cons rfl (subL_cons rfl (subL_cons rfl (subL_cons rfl (subL_cons rfl (subL_cons rfl (subL_cons rfl (subL_cons rfl (subL_nil))))))))) ⟨nxt_skip hx hp (by simp [isNode, h4]), hnext, hnow, hn, hlow, hsub, hE, hB⟩ (by omega)
          · refine l_cons (o_skip rfl rfl ?_)
            refine l_cons (o_skip rfl rfl ?_)
            refine l_cons (o_skip rfl rfl ?_)
            refine l_cons (o_skip rfl rfl ?_)
            refine l_cons (o_p tbOk rfl rfl rfl ?_)
            refine l_nil ?_
            refine x_seq ?_
            refine c_ifF rfl ?_
            refine c_skip ?_
            refine x_blk ?_
            refine x_seq ?_
            refine c_reg ?_
            refine l_cons (o_p tbOk rfl rfl rfl ?_)
            refine l_cons (o_ar rfl rfl rfl (IntWalk.i64_in _ (by omega)) rfl rfl ?_)
            refine l_cons (o_p tbOk rfl rfl rfl ?_)
            refine l_nil ?_
            exact x_round2 (p + 1) (nx) (subL_cons rfl (subL_cons rfl (subL_cons rfl (subL_cons rfl (subL_cons rfl (subL_cons rfl (subL_cons rfl (subL_cons rfl (subL_nil))))))))) ⟨nxt_skip hx hp (by simp [isNode, h3]), hnext, hnow, hn, hlow, hsub, hE, hB⟩ (by omega)
        · refine c_exit ?_
          refine x_seqE ?_
          refine x_seqE ?_
          refine x_blkE ?_
          refine x_blk ?_
          refine x_seq ?_
          refine c_reg ?_
          refine l_cons (o_p tbOk rfl rfl rfl ?_)
          refine l_cons (o_ar rfl rfl rfl (IntWalk.i64_in _ (by omega)) rfl rfl ?_)
          refine l_cons (o_p tbOk rfl rfl rfl ?_)
          refine l_nil ?_
          exact x_round2 (j + 1) (nx) (subL_cons rfl (subL_cons rfl (subL_cons rfl (subL_cons rfl (subL_cons rfl (subL_cons rfl (subL_cons rfl (subL_nil)))))))) ⟨by omega, nxt_next hx (fun h' => h2 (by omega)), hnext, hnow, hn, hlow, hsub, hE, hB⟩ (by omega)
      · refine l_cons (o_skip rfl rfl ?_)
        refine l_cons (o_skip rfl rfl ?_)
        refine l_cons (o_skip rfl rfl ?_)
        refine l_cons (o_skip rfl rfl ?_)
        refine l_cons (o_skip rfl rfl ?_)
        refine l_cons (o_skip rfl rfl ?_)
        refine l_cons (o_skip rfl rfl ?_)
        refine l_cons (o_p tbOk rfl rfl rfl ?_)
        refine l_nil ?_
        refine x_seq ?_
        refine c_ifF rfl ?_
        refine c_exit ?_
        refine x_seqE ?_
        refine x_seqE ?_
        refine x_blkE ?_
        refine x_blk ?_
        refine x_seq ?_
        refine c_reg ?_
        refine l_cons (o_p tbOk rfl rfl rfl ?_)
        refine l_cons (o_ar rfl rfl rfl (IntWalk.i64_in _ (by omega)) rfl rfl ?_)
        refine l_cons (o_p tbOk rfl rfl rfl ?_)
        refine l_nil ?_
        exact x_round2 (j + 1) (nx) (subL_cons rfl (subL_cons rfl (subL_cons rfl (subL_cons rfl (subL_cons rfl (subL_cons rfl (subL_cons rfl (subL_nil)))))))) ⟨by omega, nxt_next hx (fun h' => by rw [List.getElem?_eq_getElem hjr, h1] at h'; simp at h'), hnext, hnow, hn, hlow, hsub, hE, hB⟩ (by omega)
    · rw [nxt_end hx (by omega)] at hnext
      have hkn : k < (nextW needs (rounds needs i t)).length := by simp [nextW]; exact hk
      refine c_exit ?_
      refine x_seqE ?_
      refine x_seqE ?_
      refine x_blkE ?_
      refine x_seq ?_
      refine c_seq ?_
      refine c_seq ?_
      refine c_reg ?_
      refine l_cons (o_p tbOk rfl rfl rfl ?_)
      refine l_cons (o_p tbOk rfl rfl rfl ?_)
      refine l_cons (o_ixO tbOk hnext (List.getElem?_eq_getElem hkn) rfl rfl rfl rfl rfl rfl rfl rfl rfl ?_)
      intro b6 u6 hob6 hr6 hat6
      obtain rfl := hr6
      refine l_cons (o_ld tbOk (hat6.cell 0 _ rfl) rfl rfl rfl rfl rfl ?_)
      refine l_nil ?_
      refine x_seq ?_
      refine c_if _ rfl (fun h6 => ?_) (fun h6 => ?_)
      · refine c_seq ?_
        refine c_reg ?_
        refine l_cons (o_p tbOk rfl rfl rfl ?_)
        refine l_nil ?_
        refine x_seq ?_
        refine c_ret ?_
        refine x_seqR ?_
        refine x_blkR ?_
        refine x_seqR ?_
        refine x_seqR ?_
        refine x_blkR ?_
        refine x_seqR ?_
        refine x_ret1 rfl rfl ?_
        exact ⟨by rw [reach_found hkn h6 (t := t) rfl], hE⟩
      · have hnw : (nextW needs (rounds needs i t)).length = needs.length := by simp [nextW]
        refine c_skip ?_
        refine x_seq ?_
        refine c_seq ?_
        refine c_reg ?_
        refine l_cons (o_p tbOk rfl rfl rfl ?_)
        refine l_nil ?_
        refine x_seq ?_
        refine c_blk ?_
        refine c_loop (X := Nat) (fun j => [(0, vn), (1, .int .i64 (i : Int)), (2, .int .i64 (k : Int)), (7, (.slice (some ⟨bw1, 0, none⟩) needs.length needs.length)), (8, .int .i64 (t : Nat)), (9, (.slice (some ⟨bw4, 0, none⟩) needs.length needs.length)), (13, .int .i64 (j : Nat))]) (fun j w' => j ≤ needs.length ∧ OwnSl 4 w.heap.size (Rw.Add M1 bw4) w' (.slice (some ⟨bw4, 0, none⟩) needs.length needs.length) (nextW needs (rounds needs i t)) ∧ OwnSl 4 w.heap.size (Rw.Add M1 bw4) w' (.slice (some ⟨bw1, 0, none⟩) needs.length needs.length) (orUpto (rounds needs i t) (nextW needs (rounds needs i t)) j) ∧ Sl (Rw.Add M1 bw4) w' vn needs ∧ Low (Rw.Add M1 bw4) w' ∧ (∀ b, M b → (Rw.Add M1 bw4) b) ∧ Below w.heap.size w w' ∧ w.heap.size ≤ w'.heap.size) (fun j => needs.length - j) (0) (subL_cons rfl (subL_cons rfl (subL_cons rfl (subL_cons rfl (subL_cons rfl (subL_cons rfl (subL_cons rfl (subL_nil)))))))) ?_ ?_
        · exact ⟨Nat.zero_le _, hnext, by rw [or_start]; exact hnow, hn, hlow, hsub, hE, hB⟩
        rintro j w8 ⟨hj, hnext, hnow, hn, hlow, hsub, hE, hB⟩
        refine c_seq ?_
        refine c_seq ?_
        refine c_reg ?_
        refine l_cons (o_p tbOk rfl rfl rfl ?_)
        refine l_cons (o_p tbOk rfl rfl rfl ?_)
        refine l_cons (o_len tbOk hn rfl rfl rfl rfl rfl ?_)
        refine l_cons (o_p tbOk rfl rfl rfl ?_)
        refine l_nil ?_
        refine x_seq ?_
        refine c_ifP _ rfl (fun hm => ?_) (fun hm => ?_)
        · have hjn : j < needs.length := by omega
          have hjr : j < (rounds needs i t).length := by omega
          have hjx : j < (nextW needs (rounds needs i t)).length := by omega
          have hjo : j < (orUpto (rounds needs i t) (nextW needs (rounds needs i t)) j).length := by rw [or_length]; exact hjr
          have hstep := or_step (next := nextW needs (rounds needs i t)) hjr hjx
          refine c_skip ?_
          refine x_seq ?_
          refine c_seq ?_
          refine c_blk ?_
          refine c_reg ?_
          refine l_cons (o_p tbOk rfl rfl rfl ?_)
          refine l_cons (o_p tbOk rfl rfl rfl ?_)
          refine l_cons (o_p tbOk rfl rfl rfl ?_)
          refine l_cons (o_p tbOk rfl rfl rfl ?_)
          refine l_cons (o_ixO tbOk hnow (List.getElem?_eq_getElem hjo) rfl rfl rfl rfl rfl rfl rfl rfl rfl ?_)
          intro b7 u7 hob7 hr7 hat7
          obtain rfl := hr7
          refine l_cons (o_ld tbOk (hat7.cell 0 _ rfl) rfl rfl rfl rfl rfl ?_)
          refine l_cons (o_p tbOk rfl rfl rfl ?_)
          refine l_split 84 _ rfl (fun h7 => ?_) (fun h7 => ?_)
          · refine l_cons (o_skip rfl rfl ?_)
            refine l_cons (o_skip rfl rfl ?_)
            refine l_cons (o_skip rfl rfl ?_)
            refine l_cons (o_skip rfl rfl ?_)
            refine l_cons (o_p tbOk rfl rfl rfl ?_)
            refine l_cons (o_ixO tbOk hnow (List.getElem?_eq_getElem hjo) rfl rfl rfl rfl rfl rfl rfl rfl rfl ?_)
            intro b9 u9 hob9 hr9 hat9
            obtain rfl := ob_eq hob9
            refine l_cons (o_stO tbOk hnow hob9 hjo (z := true) rfl hlow rfl rfl rfl rfl rfl rfl ?_)
            intro w9 hw9 sw9 frw9
            replace hnext := hnext.stp sw9 (fun x hx => frw9 x (hnext.lt x hx).2 (fun e => hne (e.symm.trans (ob_eq hx).symm)))
            replace hE := hE.trans sw9.below
            replace hn := hn.stp sw9
            replace hsub := fun b h => sw9.sub b (hsub b h)
            replace hlow := sw9.low
            replace hB := Nat.le_trans hB sw9.upd.1
            replace hnow := hw9
            clear hw9
            refine l_nil ?_
            refine x_blk ?_
            refine x_seq ?_
            refine c_reg ?_
            refine l_cons (o_p tbOk rfl rfl rfl ?_)
            refine l_cons (o_ar rfl rfl rfl (IntWalk.i64_in _ (by omega)) rfl rfl ?_)
            refine l_cons (o_p tbOk rfl rfl rfl ?_)
            refine l_nil ?_
            exact x_round (j + 1) (subL_cons rfl (subL_cons rfl (subL_cons rfl (subL_cons rfl (subL_cons rfl (subL_cons rfl (subL_cons rfl (subL_nil)))))))) ⟨by omega, hnext, by rw [← hstep, ← or_get hjr hjo, h7]; simpa using hnow, hn, hlow, hsub, hE, hB⟩ (by omega)
          · refine l_cons (o_p tbOk rfl rfl rfl ?_)
            refine l_cons (o_p tbOk rfl rfl rfl ?_)
            refine l_cons (o_ixO tbOk hnext (List.getElem?_eq_getElem hjx) rfl rfl rfl rfl rfl rfl rfl rfl rfl ?_)
            intro b8 u8 hob8 hr8 hat8
            obtain rfl := hr8
            refine l_cons (o_ld tbOk (hat8.cell 0 _ rfl) rfl rfl rfl rfl rfl ?_)
            refine l_cons (o_p tbOk rfl rfl rfl ?_)
            refine l_cons (o_ixO tbOk hnow (List.getElem?_eq_getElem hjo) rfl rfl rfl rfl rfl rfl rfl rfl rfl ?_)
            intro b9 u9 hob9 hr9 hat9
            obtain rfl := ob_eq hob9
            refine l_cons (o_stO tbOk hnow hob9 hjo (z := (nextW needs (rounds needs i t))[j]) rfl hlow rfl rfl rfl rfl rfl rfl ?_)
            intro w10 hw10 sw10 frw10
            replace hnext := hnext.stp sw10 (fun x hx => frw10 x (hnext.lt x hx).2 (fun e => hne (e.symm.trans (ob_eq hx).symm)))
            replace hE := hE.trans sw10.below
            replace hn := hn.stp sw10
            replace hsub := fun b h => sw10.sub b (hsub b h)
            replace hlow := sw10.low
            replace hB := Nat.le_trans hB sw10.upd.1
            replace hnow := hw10
            clear hw10
            refine l_nil ?_
            refine x_blk ?_
            refine x_seq ?_
            refine c_reg ?_
            refine l_cons (o_p tbOk rfl rfl rfl ?_)
            refine l_cons (o_ar rfl rfl rfl (IntWalk.i64_in _ (by omega)) rfl rfl ?_)
            refine l_cons (o_p tbOk rfl rfl rfl ?_)
            refine l_nil ?_
            exact x_round (j + 1) (subL_cons rfl (subL_cons rfl (subL_cons rfl (subL_cons rfl (subL_cons rfl (subL_cons rfl (subL_cons rfl (subL_nil)))))))) ⟨by omega, hnext, by rw [← hstep, ← or_get hjr hjo, h7]; simpa using hnow, hn, hlow, hsub, hE, hB⟩ (by omega)
        · refine c_exit ?_
          refine x_seqE ?_
          refine x_seqE ?_
          refine x_blkE ?_
          refine x_blk ?_
          refine x_seq ?_
          refine c_reg ?_
          refine l_cons (o_p tbOk rfl rfl rfl ?_)
          refine l_cons (o_ar rfl rfl rfl (IntWalk.i64_in _ (by omega)) rfl rfl ?_)
          refine l_cons (o_p tbOk rfl rfl rfl ?_)
          refine l_nil ?_
          exact x_round2 (t + 1) ((Rw.Add M1 bw4)) (subL_cons rfl (subL_cons rfl (subL_cons rfl (subL_cons rfl (subL_cons rfl (subL_nil)))))) ⟨by omega, not_found hno hkn h6, by rw [or_end hlen (by omega)] at hnow; exact hnow, hn, hlow, hsub, hE, hB⟩ (by omega)
  · refine c_exit ?_
    refine x_seqE ?_
    refine x_seqE ?_
    refine x_blkE ?_
    refine x_seq ?_
    refine c_seq ?_
    refine c_reg ?_
    refine l_cons (o_p tbOk rfl rfl rfl ?_)
    refine l_nil ?_
    refine x_seq ?_
    refine c_ret ?_
    refine x_ret1 rfl rfl ?_
    exact ⟨by rw [reach_no hi (hno _ (by omega))], hE⟩

end Go.Proofs.Ytcledfefgbbgeaa
