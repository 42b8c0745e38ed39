/- The walks of the orders. Printed by wip/walks/graph6.py. -/
import Derived.Test.YtcledfefgbbgeaaWd
import Derived.Test.YtcledfefgbbgeaaPlainJ
namespace Go.Proofs.Ytcledfefgbbgeaa
open Go Rw Go.RowKit

/-- slices.IndexFunc at numbers. -/
theorem indexFunc_spec (M : Nat → Prop) (w : World) (v : Value) (l : List Int) (g : Nat) (caps : List Value) (p : Int → Bool) (hl : Sl M w v l) (hg : FnOk Try.prog g)
    (hc : ∀ x ∈ l, Calls Try.prog g ([Value.int .i64 x] ++ caps).toArray w (Ret fun r w' => r = .bool (p x) ∧ w = w')) :
    Calls Try.prog 26 #[v, .func (.func g) #[] caps.toArray] w (Ret fun r w' => r = .int .i64 (idxOf p l) ∧ w = w') := by
  have hlt := hl.lt
  refine c_enter (n := 19) Try.func26 rfl rfl rfl ?_
  refine c_seq ?_
  refine c_reg ?_
  refine l_cons (o_p tbOk rfl rfl rfl ?_)
  refine l_nil ?_
  refine x_seq ?_
  refine c_seq ?_
  refine c_seq ?_
  refine c_reg ?_
  refine l_cons (o_p tbOk rfl rfl rfl ?_)
  refine l_cons (o_len tbOk hl rfl rfl rfl rfl rfl ?_)
  refine l_cons (o_p tbOk rfl rfl rfl ?_)
  refine l_nil ?_
  refine x_seq ?_
  refine c_blk ?_
  refine c_loop (X := Nat) (fun k => [(0, v), (1, .func (.func g) #[] caps.toArray), (7, .int .i64 (l.length : Int)), (8, .int .i64 (k : Nat))]) (fun k w' => w = w' ∧ k ≤ l.length ∧ ∀ (j : Nat) x, j < k → l[j]? = some x → p x = false) (fun k => l.length - k) (0) (subL_cons rfl (subL_cons rfl (subL_cons rfl (subL_cons rfl (subL_nil))))) ?_ ?_
  · exact ⟨rfl, Nat.zero_le _, fun j x hj => absurd hj (Nat.not_lt_zero _)⟩
  rintro k _ ⟨rfl, hk, hno⟩
  refine c_seq ?_
  refine c_reg ?_
  refine l_cons (o_p tbOk rfl rfl rfl ?_)
  refine l_nil ?_
  refine x_seq ?_
  refine c_seq ?_
  refine c_ifP _ rfl (fun h => ?_) (fun h => ?_)
  · have hkl : k < l.length := by omega
    refine c_skip ?_
    refine x_seq ?_
    refine c_seq ?_
    refine c_blk ?_
    refine c_seq ?_
    refine c_reg ?_
    refine l_cons (o_p tbOk rfl rfl rfl ?_)
    refine l_cons (o_p tbOk rfl rfl rfl ?_)
    refine l_nil ?_
    refine x_seq ?_
    refine c_seq ?_
    refine c_reg ?_
    refine l_cons (o_p tbOk rfl rfl rfl ?_)
    refine l_cons (o_p tbOk rfl rfl rfl ?_)
    refine l_cons (o_p tbOk rfl rfl rfl ?_)
    refine l_cons (o_ixS tbOk hl (List.getElem?_eq_getElem hkl) rfl rfl rfl rfl rfl rfl rfl rfl rfl ?_)
    intro b o u hr hat
    obtain ⟨rfl, hb⟩ := hr
    refine l_cons (o_ld tbOk (hat.cell 0 _ rfl) rfl rfl rfl rfl rfl ?_)
    refine l_cons (o_dyn rfl hg rfl rfl rfl (hc l[k] (List.getElem_mem hkl)) ?_)
    rintro _ _ ⟨rfl, rfl⟩
    refine l_nil ?_
    refine x_seq ?_
    refine c_if _ rfl (fun h2 => ?_) (fun h2 => ?_)
    · refine c_seq ?_
      refine c_reg ?_
      refine l_cons (o_p tbOk rfl rfl rfl ?_)
      refine l_cons (o_p tbOk rfl rfl rfl ?_)
      refine l_nil ?_
      refine x_seq ?_
      refine c_ret ?_
      refine x_blkR ?_
      refine x_seqR ?_
      refine x_seqR ?_
      refine x_blkR ?_
      refine x_seqR ?_
      refine x_ret1 rfl rfl ?_
      exact ⟨by rw [idxOf_found hkl h2 hno], rfl⟩
    · refine c_skip ?_
      refine x_blk ?_
      refine x_seq ?_
      refine c_reg ?_
      refine l_cons (o_ar rfl rfl rfl (IntWalk.i64_in _ (by omega)) rfl rfl ?_)
      refine l_cons (o_p tbOk rfl rfl rfl ?_)
      refine l_nil ?_
      exact x_round (k + 1) (subL_cons rfl (subL_cons rfl (subL_cons rfl (subL_cons rfl (subL_nil))))) ⟨rfl, by omega, idx_step hno hkl h2⟩ (by omega)
  · refine c_exit ?_
    refine x_seqE ?_
    refine x_seqE ?_
    refine x_blkE ?_
    refine x_seq ?_
    refine c_seq ?_
    refine c_reg ?_
    refine l_cons (o_p tbOk rfl rfl rfl ?_)
    refine l_nil ?_
    refine x_seq ?_
    refine c_ret ?_
    refine x_ret1 rfl rfl ?_
    exact ⟨by rw [idxOf_none (by omega) hno], rfl⟩

/-- slices.ContainsFunc at numbers. -/
theorem containsFunc_spec (M : Nat → Prop) (w : World) (v : Value) (l : List Int) (g : Nat) (caps : List Value) (p : Int → Bool) (hl : Sl M w v l) (hg : FnOk Try.prog g)
    (hc : ∀ x ∈ l, Calls Try.prog g ([Value.int .i64 x] ++ caps).toArray w (Ret fun r w' => r = .bool (p x) ∧ w = w')) :
    Calls Try.prog 20 #[v, .func (.func g) #[] caps.toArray] w (Ret fun r w' => r = .bool (l.any p) ∧ w = w') := by
  refine c_enter (n := 9) Try.func20 rfl rfl rfl ?_
  refine c_seq ?_
  refine c_reg ?_
  refine l_cons (o_p tbOk rfl rfl rfl ?_)
  refine l_nil ?_
  refine x_seq ?_
  refine c_seq ?_
  refine c_reg ?_
  refine l_cons (o_p tbOk rfl rfl rfl ?_)
  refine l_cons (o_p tbOk rfl rfl rfl ?_)
  refine l_cons (o_call fo26 rfl rfl rfl (indexFunc_spec M _ _ l g caps p hl hg hc) ?_)
  rintro _ _ ⟨rfl, rfl⟩
  refine l_cons (o_p tbOk rfl rfl rfl ?_)
  refine l_cons (o_p tbOk rfl rfl rfl ?_)
  refine l_nil ?_
  refine x_seq ?_
  refine c_ret ?_
  refine x_ret1 rfl rfl ?_
  exact ⟨by rw [idxOf_any], rfl⟩

/-- Order's function: must one wait for a number? -/
theorem order1_spec (M : Nat → Prop) (w : World) (B b1 b3 : Nat) (vn vd : Value) (needs : List (List Int)) (inn : List Bool) (x : Int) (h1 : At M w b1 0 [vn]) (h3 : At M w b3 0 [vd]) (hn : Sl M w vn needs) (hd : OwnSl 4 B M w vd inn) (hlen : inn.length = needs.length) :
    Calls Try.prog 21 ([Value.int .i64 x] ++ [Value.pointer (some ⟨b1, 0, none⟩), Value.pointer (some ⟨b3, 0, none⟩)]).toArray w (Ret fun r w' => r = .bool (waits needs inn x) ∧ w = w') := by
  refine c_enter (n := 15) Try.func21 rfl rfl rfl ?_
  refine c_seq ?_
  refine c_reg ?_
  refine l_cons (o_p tbOk rfl rfl rfl ?_)
  refine l_nil ?_
  refine x_seq ?_
  refine c_seq ?_
  refine c_reg ?_
  refine l_cons (o_ld tbOk (h1.cell 0 _ rfl) rfl rfl rfl rfl rfl ?_)
  refine l_cons (o_p tbOk rfl rfl rfl ?_)
  refine l_cons (o_call fo22 rfl rfl rfl (node_spec M _ _ needs _ hn) ?_)
  rintro _ _ ⟨rfl, rfl⟩
  refine l_cons (o_p tbOk rfl rfl rfl ?_)
  refine l_split 8 _ rfl (fun h => ?_) (fun h => ?_)
  · obtain ⟨v, hv, hvn⟩ := isNode_nat h
    have hvi : v < inn.length := by omega
    refine l_cons (o_ld tbOk (h3.cell 0 _ rfl) rfl rfl rfl rfl rfl ?_)
    refine l_cons (o_p tbOk rfl rfl rfl ?_)
    refine l_cons (o_ixO tbOk hd (List.getElem?_eq_getElem hvi) rfl rfl hv rfl rfl rfl rfl rfl rfl ?_)
    intro b u hob hr hat
    obtain rfl := hr
    refine l_cons (o_ld tbOk (hat.cell 0 _ rfl) rfl rfl rfl rfl rfl ?_)
    refine l_cons (o_p tbOk rfl rfl rfl ?_)
    refine l_cons (o_p tbOk rfl rfl rfl ?_)
    refine l_cons (o_p tbOk rfl rfl rfl ?_)
    refine l_nil ?_
    refine x_seq ?_
    refine c_ret ?_
    refine x_ret1 rfl rfl ?_
    exact ⟨by unfold waits; rw [h, hv]; simp [hvi], rfl⟩
  · refine l_cons (o_skip rfl rfl ?_)
    refine l_cons (o_skip rfl rfl ?_)
    refine l_cons (o_skip rfl rfl ?_)
    refine l_cons (o_skip rfl rfl ?_)
    refine l_cons (o_skip rfl rfl ?_)
    refine l_cons (o_p tbOk rfl rfl rfl ?_)
    refine l_cons (o_p tbOk rfl rfl rfl ?_)
    refine l_nil ?_
    refine x_seq ?_
    refine c_ret ?_
    refine x_ret1 rfl rfl ?_
    exact ⟨by simp [waits, h], rfl⟩

/-- Order: of all sound nodes. -/
theorem order_spec (M : Nat → Prop) (w : World) (vn : Value) (needs : List (List Int)) (hn : Sl M w vn needs) (hlow0 : Low M w) (hsm : needs.length ≤ 1000000) :
    Calls Try.prog 10 #[vn] w (Ret fun r w' => Sl M w' r (orderL needs) ∧ Ext w w') := by
  have hlow := hlow0
  have hB : w.heap.size ≤ w.heap.size := Nat.le_refl _
  have hE : Below w.heap.size w w := Below.refl _ _
  have hsub : ∀ b, M b → M b := fun _ h => h
  refine c_enter (n := 43) Try.func10 rfl rfl rfl ?_
  refine c_seq ?_
  refine c_reg ?_
  refine l_cons (o_box rfl rfl rfl ?_)
  intro b1 w1 hb_b1 ew1 h1
  rw [hn.cells] at h1
  replace h1 := h1.at (nM_of hlow hb_b1)
  replace hE := hE.trans (Below.mono ew1 hB)
  replace hn := hn.ext ew1
  replace hlow := hlow.ext ew1
  replace hB := Nat.le_trans hB ew1.size
  refine l_cons (o_p tbOk rfl rfl rfl ?_)
  refine l_nil ?_
  refine x_seq ?_
  refine c_seq ?_
  refine c_reg ?_
  refine l_cons (o_ld tbOk (h1.cell 0 _ rfl) rfl rfl rfl rfl rfl ?_)
  refine l_cons (o_len tbOk hn rfl rfl rfl rfl rfl ?_)
  refine l_cons (o_mk (false) tbOk rfl rfl rfl rfl rfl rfl rfl rfl (fun _ _ => rfl) (by show 1 * _ ≤ 140737488355328; omega) (by omega) hlow hB rfl rfl ?_)
  intro bw2 w2 qbw2 ew2 sw2 hd
  replace hE := hE.trans sw2.below
  replace hn := hn.stp sw2
  replace h1 := h1.stp sw2
  replace hsub := fun b h => sw2.sub b (hsub b h)
  replace hlow := sw2.low
  replace hB := Nat.le_trans hB sw2.upd.1
  refine l_cons (o_new tbOk rfl rfl rfl ?_)
  intro b3 w3 qb3 ew3 hb3
  have nb3 := nM_of hlow qb3
  refine l_cons (o_st tbOk hb3 rfl rfl rfl rfl (by simp [Value.cells, Value.oneCell']) rfl rfl ?_)
  intro w4 h3 uw4 bew4
  have ew4 : Ext w2 w4 := ew3.trans (bew4 _ (Nat.le_of_eq qb3.symm))
  replace hd := hd.ext hlow hB ew4
  replace hE := hE.trans (Below.mono ew4 hB)
  replace hn := hn.ext ew4
  replace h1 := h1.ext ew4
  replace hlow := hlow.ext ew4
  replace hB := Nat.le_trans hB ew4.size
  replace h3 : Box w4 b3 33 [(.slice (some ⟨bw2, 0, none⟩) needs.length needs.length)] := h3
  replace h3 := h3.at nb3
  refine l_nil ?_
  refine x_seq ?_
  refine c_seq ?_
  refine c_reg ?_
  refine l_cons (o_p tbOk rfl rfl rfl ?_)
  refine l_nil ?_
  refine x_seq ?_
  refine c_blk ?_
  refine c_loop3 (X := Nat) (Y := Value) (Z := Nat → Prop) (fun t v M1 => [(1, .pointer (some ⟨b1, 0, none⟩)), (3, .pointer (some ⟨b3, 0, none⟩)), (4, v)]) (fun t v M1 w' => (∀ s, s < t → nextOf needs (ordS needs s).1 ≠ none) ∧ OwnSl 4 w.heap.size M1 w' (.slice (some ⟨bw2, 0, none⟩) needs.length needs.length) (ordS needs t).1 ∧ OwnSl 3 w.heap.size M1 w' v (ordS needs t).2 ∧ (∀ b, v.ownBlock = some b → b ≠ bw2) ∧ At M1 w' b1 0 [vn] ∧ At M1 w' b3 0 [(.slice (some ⟨bw2, 0, none⟩) needs.length needs.length)] ∧ Sl M1 w' vn needs ∧ Low M1 w' ∧ (∀ b, M b → M1 b) ∧ Below w.heap.size w w' ∧ w.heap.size ≤ w'.heap.size) (fun t v M1 => needs.length + 1 - t) (0) (.slice none 0 0) ((Rw.Add M bw2)) (subL_cons rfl (subL_cons rfl (subL_cons rfl (subL_nil)))) ?_ ?_
  · exact ⟨fun s hs => absurd hs (Nat.not_lt_zero _), hd, own_nil, fun b hb => by simp [Value.ownBlock] at hb, h1, h3, hn, hlow, hsub, hE, hB⟩
  rintro t v M1 w5 ⟨hpast, hd, ho, hne, h1, h3, hn, hlow, hsub, hE, hB⟩
  refine c_blk ?_
  refine c_seq ?_
  refine c_reg ?_
  refine l_cons (o_p tbOk rfl rfl rfl ?_)
  refine l_nil ?_
  refine x_seq ?_
  refine c_seq ?_
  refine c_seq ?_
  refine c_reg ?_
  refine l_cons (o_ld tbOk (h1.cell 0 _ rfl) rfl rfl rfl rfl rfl ?_)
  refine l_cons (o_len tbOk hn rfl rfl rfl rfl rfl ?_)
  refine l_cons (o_p tbOk rfl rfl rfl ?_)
  refine l_nil ?_
  refine x_seq ?_
  refine c_blk ?_
  have hil := ordS_len needs t
  have htl := ordS_t_le hpast
  have hol := ordS_out needs t
  refine c_loop (X := Nat) (fun i => [(1, .pointer (some ⟨b1, 0, none⟩)), (3, .pointer (some ⟨b3, 0, none⟩)), (4, v), (5, .int .i64 (-1)), (12, vn), (13, .int .i64 (needs.length : Int)), (14, .int .i64 (i : Nat))]) (fun i w' => w5 = w' ∧ i ≤ needs.length ∧ ∀ j, j < i → cand needs (ordS needs t).1 j = false) (fun i => needs.length - i) (0) (subL_cons rfl (subL_cons rfl (subL_cons rfl (subL_cons rfl (subL_cons rfl (subL_cons rfl (subL_cons rfl (subL_nil)))))))) ?_ ?_
  · exact ⟨rfl, Nat.zero_le _, fun j hj => absurd hj (Nat.not_lt_zero _)⟩
  rintro i _ ⟨rfl, hi, hno⟩
  refine c_seq ?_
  refine c_reg ?_
  refine l_cons (o_p tbOk rfl rfl rfl ?_)
  refine l_nil ?_
  refine x_seq ?_
  refine c_seq ?_
  refine c_ifP _ rfl (fun h => ?_) (fun h => ?_)
  · have hin : i < needs.length := by omega
    have hii : i < (ordS needs t).1.length := by omega
    refine c_skip ?_
    refine x_seq ?_
    refine c_seq ?_
    refine c_blk ?_
    refine c_seq ?_
    refine c_reg ?_
    refine l_cons (o_p tbOk rfl rfl rfl ?_)
    refine l_cons (o_ixS tbOk hn (List.getElem?_eq_getElem hin) rfl rfl rfl rfl rfl rfl rfl rfl rfl ?_)
    intro b4 o4 vs hs hat4
    replace hs : Sl M1 w5 vs needs[i] := hs
    replace hat4 := hat4.sl hs
    have hcl : ∀ x ∈ needs[i], Calls Try.prog 21 ([Value.int .i64 x] ++ [Value.pointer (some ⟨b1, 0, none⟩), Value.pointer (some ⟨b3, 0, none⟩)]).toArray w5 (Ret fun r w' => r = .bool (waits needs (ordS needs t).1 x) ∧ w5 = w') := fun x _ => order1_spec M1 _ w.heap.size b1 b3 vn _ needs _ x h1 h3 hn hd hil
    refine l_cons (o_ld tbOk (hat4.cell 0 _ rfl) rfl rfl rfl rfl rfl ?_)
    refine l_cons (o_p tbOk rfl rfl rfl ?_)
    refine l_cons (o_p tbOk rfl rfl rfl ?_)
    refine l_nil ?_
    refine x_seq ?_
    refine c_seq ?_
    refine c_reg ?_
    refine l_cons (o_p tbOk rfl rfl rfl ?_)
    refine l_cons (o_p tbOk rfl rfl rfl ?_)
    refine l_cons (o_call fo20 rfl rfl rfl (containsFunc_spec M1 _ vs needs[i] 21 [(.pointer (some ⟨b1, 0, none⟩) : Value), (.pointer (some ⟨b3, 0, none⟩) : Value)] (waits needs (ordS needs t).1) hs fo21 hcl) ?_)
    rintro _ _ ⟨rfl, rfl⟩
    refine l_cons (o_p tbOk rfl rfl rfl ?_)
    refine l_cons (o_p tbOk rfl rfl rfl ?_)
    refine l_nil ?_
    refine x_seq ?_
    refine c_seq ?_
    refine c_reg ?_
    refine l_cons (o_ld tbOk (h3.cell 0 _ rfl) rfl rfl rfl rfl rfl ?_)
    refine l_cons (o_p tbOk rfl rfl rfl ?_)
    refine l_cons (o_ixO tbOk hd (List.getElem?_eq_getElem hii) rfl rfl rfl rfl rfl rfl rfl rfl rfl ?_)
    intro b5 u5 hob5 hr5 hat5
    obtain rfl := hr5
    refine l_cons (o_ld tbOk (hat5.cell 0 _ rfl) rfl rfl rfl rfl rfl ?_)
    refine l_cons (o_p tbOk rfl rfl rfl ?_)
    refine l_cons (o_p tbOk rfl rfl rfl ?_)
    refine l_splitB 28 _ rfl (fun h2 => ?_) (fun h2 => ?_)
    · refine l_cons (o_p tbOk rfl rfl rfl ?_)
      refine l_cons (o_p tbOk rfl rfl rfl ?_)
      refine l_nil ?_
      refine x_seq ?_
      refine c_ifB _ rfl (fun h3x => ?_) (fun h3x => ?_)
      · have hc : cand needs (ordS needs t).1 i = true := by simp [cand, hii, hin, h2, h3x]
        have hnx := next_first hin hc hno
        refine c_seq ?_
        refine c_reg ?_
        refine l_cons (o_p tbOk rfl rfl rfl ?_)
        refine l_cons (o_p tbOk rfl rfl rfl ?_)
        refine l_nil ?_
        refine x_seq ?_
        refine c_exit ?_
        refine x_blkO rfl ?_
        refine x_seqE ?_
        refine x_seqE ?_
        refine x_blkE ?_
        refine x_seq ?_
        refine c_seq ?_
        refine c_seq ?_
        refine c_reg ?_
        refine l_cons (o_p tbOk rfl rfl rfl ?_)
        refine l_cons (o_p tbOk rfl rfl rfl ?_)
        refine l_nil ?_
        refine x_seq ?_
        refine c_ifP _ rfl (fun h4 => ?_) (fun h4 => ?_)
        · exact absurd h4 (by omega)
        · refine c_skip ?_
          refine x_seq ?_
          refine c_seq ?_
          refine c_reg ?_
          refine l_cons (o_ld tbOk (h3.cell 0 _ rfl) rfl rfl rfl rfl rfl ?_)
          refine l_cons (o_p tbOk rfl rfl rfl ?_)
          refine l_cons (o_ixO tbOk hd (List.getElem?_eq_getElem hii) rfl rfl rfl rfl rfl rfl rfl rfl rfl ?_)
          intro b6 u6 hob6 hr6 hat6
          obtain rfl : bw2 = b6 := by simpa [Value.ownBlock] using hob6
          refine l_cons (o_stO tbOk hd hob6 hii (z := true) rfl hlow rfl rfl rfl rfl rfl rfl ?_)
          intro w6 hw6 sw6 frw6
          replace ho := ho.stp sw6 (fun x hx => frw6 x (ho.lt x hx).2 (hne x hx))
          replace hE := hE.trans sw6.below
          replace h1 := h1.stp sw6
          replace h3 := h3.stp sw6
          replace hn := hn.stp sw6
          replace hsub := fun b h => sw6.sub b (hsub b h)
          replace hlow := sw6.low
          replace hB := Nat.le_trans hB sw6.upd.1
          replace hd := hw6
          clear hw6
          have hbd : bw2 < w6.heap.size := (hd.lt bw2 rfl).2
          refine l_nil ?_
          refine x_seq ?_
          refine c_reg ?_
          refine l_cons (o_p tbOk rfl rfl rfl ?_)
          refine l_cons (o_p tbOk rfl rfl rfl ?_)
          refine l_cons (o_bs tbOk rfl rfl rfl rfl rfl rfl rfl (sz1 rfl) rfl rfl rfl ?_)
          intro bw7 w7 qbw7 ew7 hbw7
          have nbw7 := nM_of hlow qbw7
          replace hd := hd.ext hlow hB ew7
          replace ho := ho.ext hlow hB ew7
          replace hE := hE.trans (Below.mono ew7 hB)
          replace h1 := h1.ext ew7
          replace h3 := h3.ext ew7
          replace hn := hn.ext ew7
          replace hlow := hlow.ext ew7
          replace hB := Nat.le_trans hB ew7.size
          refine l_cons (o_app1 tbOk ho hbw7 nbw7 ⟨rfl, by unfold I64; omega⟩ hlow hB rfl rfl rfl rfl rfl rfl rfl (by omega) (by show (_ + _) * 8 ≤ _; omega) rfl rfl ?_)
          intro vw8 w8 Mw8 hw8 sw8 frw8 blw8
          replace hd := hd.stp sw8 (fun x hx => frw8 x (hd.lt x hx).2 (fun e => hne x e.symm (by simpa [Value.ownBlock] using hx.symm)))
          replace hE := hE.trans sw8.below
          replace h1 := h1.stp sw8
          replace h3 := h3.stp sw8
          replace hn := hn.stp sw8
          replace hsub := fun b h => sw8.sub b (hsub b h)
          replace hlow := sw8.low
          replace hB := Nat.le_trans hB sw8.upd.1
          replace ho := hw8
          clear hw8
          refine l_cons (o_p tbOk rfl rfl rfl ?_)
          refine l_nil ?_
          refine x_blk ?_
          exact x_round3 (t + 1) (vw8) (Mw8) (subL_cons rfl (subL_cons rfl (subL_cons rfl (subL_nil)))) ⟨past_step hpast hnx, by rw [ordS_some hnx]; exact hd, by rw [ordS_some hnx]; exact ho, (fun x hx => (blw8 x hx).elim (hne x) (fun h => by have := ew7.size; omega)), h1, h3, hn, hlow, hsub, hE, hB⟩ (by omega)
      · refine c_skip ?_
        refine x_blk ?_
        refine x_seq ?_
        refine c_reg ?_
        refine l_cons (o_ar rfl rfl rfl (IntWalk.i64_in _ (by omega)) rfl rfl ?_)
        refine l_cons (o_p tbOk rfl rfl rfl ?_)
        refine l_nil ?_
        exact x_round (i + 1) (subL_cons rfl (subL_cons rfl (subL_cons rfl (subL_cons rfl (subL_cons rfl (subL_cons rfl (subL_cons rfl (subL_nil)))))))) ⟨rfl, by omega, cand_step hno (by simp [cand, h3x, hin])⟩ (by omega)
    · refine l_cons (o_skip rfl rfl ?_)
      refine l_cons (o_p tbOk rfl rfl rfl ?_)
      refine l_nil ?_
      refine x_seq ?_
      refine c_ifF rfl ?_
      refine c_skip ?_
      refine x_blk ?_
      refine x_seq ?_
      refine c_reg ?_
      refine l_cons (o_ar rfl rfl rfl (IntWalk.i64_in _ (by omega)) rfl rfl ?_)
      refine l_cons (o_p tbOk rfl rfl rfl ?_)
      refine l_nil ?_
      exact x_round (i + 1) (subL_cons rfl (subL_cons rfl (subL_cons rfl (subL_cons rfl (subL_cons rfl (subL_cons rfl (subL_cons rfl (subL_nil)))))))) ⟨rfl, by omega, cand_step hno (by simp [cand, hii, h2])⟩ (by omega)
  · refine c_exit ?_
    refine x_seqE ?_
    refine x_seqE ?_
    refine x_blkE ?_
    refine x_seq ?_
    refine c_seq ?_
    refine c_seq ?_
    refine c_reg ?_
    refine l_cons (o_p tbOk rfl rfl rfl ?_)
    refine l_cons (o_p tbOk rfl rfl rfl ?_)
    refine l_nil ?_
    refine x_seq ?_
    refine c_ifT rfl ?_
    refine c_seq ?_
    refine c_reg ?_
    refine l_cons (o_p tbOk rfl rfl rfl ?_)
    refine l_cons (o_p tbOk rfl rfl rfl ?_)
    refine l_nil ?_
    refine x_seq ?_
    refine c_ret ?_
    refine x_seqR ?_
    refine x_blkR ?_
    refine x_seqR ?_
    refine x_blkR ?_
    refine x_ret1 rfl rfl ?_
    rw [orderL_stop hpast (next_none (fun j hj => hno j (by omega)))] at ho
    exact ⟨ho.sl (by have := ordS_out needs needs.length; unfold orderL; omega) hlow0 hsub, hE⟩

/-- The document's order. -/
theorem refOrder_spec (M : Nat → Prop) (w : World) (vn : Value) (needs : List (List Int)) (hn : Sl M w vn needs) (hlow0 : Low M w) (hsm : needs.length ≤ 1000000) :
    Calls Try.prog 11 #[vn] w (Ret fun r w' => Sl M w' r (orderL needs) ∧ Ext w w') := by
  have hlow := hlow0
  have hB : w.heap.size ≤ w.heap.size := Nat.le_refl _
  have hE : Below w.heap.size w w := Below.refl _ _
  have hsub : ∀ b, M b → M b := fun _ h => h
  refine c_enter (n := 70) Try.func11 rfl rfl rfl ?_
  refine c_seq ?_
  refine c_reg ?_
  refine l_cons (o_p tbOk rfl rfl rfl ?_)
  refine l_nil ?_
  refine x_seq ?_
  refine c_seq ?_
  refine c_reg ?_
  refine l_cons (o_p tbOk rfl rfl rfl ?_)
  refine l_nil ?_
  refine x_seq ?_
  refine c_seq ?_
  refine c_reg ?_
  refine l_cons (o_p tbOk rfl rfl rfl ?_)
  refine l_cons (o_len tbOk hn rfl rfl rfl rfl rfl ?_)
  refine l_cons (o_mk (false) tbOk rfl rfl rfl rfl rfl rfl rfl rfl (fun _ _ => rfl) (by show 1 * _ ≤ 140737488355328; omega) (by omega) hlow hB rfl rfl ?_)
  intro bw1 w1 qbw1 ew1 sw1 hd
  replace hE := hE.trans sw1.below
  replace hn := hn.stp sw1
  replace hsub := fun b h => sw1.sub b (hsub b h)
  replace hlow := sw1.low
  replace hB := Nat.le_trans hB sw1.upd.1
  refine l_cons (o_p tbOk rfl rfl rfl ?_)
  refine l_nil ?_
  refine x_seq ?_
  refine c_seq ?_
  refine c_seq ?_
  refine c_reg ?_
  refine l_cons (o_p tbOk rfl rfl rfl ?_)
  refine l_nil ?_
  refine x_seq ?_
  refine c_blk ?_
  refine c_loop3 (X := Nat) (Y := Value) (Z := Nat → Prop) (fun t v M1 => [(0, vn), (3, v), (4, (.slice (some ⟨bw1, 0, none⟩) needs.length needs.length)), (5, .int .i64 (t : Nat))]) (fun t v M1 w' => t ≤ needs.length ∧ OwnSl 4 w.heap.size M1 w' (.slice (some ⟨bw1, 0, none⟩) needs.length needs.length) (ordS needs t).1 ∧ OwnSl 3 w.heap.size M1 w' v (ordS needs t).2 ∧ (∀ b, v.ownBlock = some b → b ≠ bw1) ∧ Sl M1 w' vn needs ∧ Low M1 w' ∧ (∀ b, M b → M1 b) ∧ Below w.heap.size w w' ∧ w.heap.size ≤ w'.heap.size) (fun t v M1 => needs.length - t) (0) (.slice none 0 0) ((Rw.Add M bw1)) (subL_cons rfl (subL_cons rfl (subL_cons rfl (subL_cons rfl (subL_nil))))) ?_ ?_
  · exact ⟨Nat.zero_le _, hd, own_nil, fun b hb => by simp [Value.ownBlock] at hb, hn, hlow, hsub, hE, hB⟩
  rintro t v M1 w2 ⟨ht, hd, ho, hne, hn, hlow, hsub, hE, hB⟩
  refine c_seq ?_
  refine c_seq ?_
  refine c_reg ?_
  refine l_cons (o_p tbOk rfl rfl rfl ?_)
  refine l_cons (o_p tbOk rfl rfl rfl ?_)
  refine l_cons (o_len tbOk hn rfl rfl rfl rfl rfl ?_)
  refine l_cons (o_p tbOk rfl rfl rfl ?_)
  refine l_nil ?_
  refine x_seq ?_
  refine c_ifP _ rfl (fun h => ?_) (fun h => ?_)
  · have hil := ordS_len needs t
    have hol := ordS_out needs t
    refine c_skip ?_
    refine x_seq ?_
    refine c_seq ?_
    refine c_blk ?_
    refine c_seq ?_
    refine c_reg ?_
    refine l_cons (o_p tbOk rfl rfl rfl ?_)
    refine l_nil ?_
    refine x_seq ?_
    refine c_blk ?_
    refine c_loop (X := Nat) (fun i => [(0, vn), (3, v), (4, (.slice (some ⟨bw1, 0, none⟩) needs.length needs.length)), (5, .int .i64 (t : Nat)), (6, .int .i64 (i : Nat))]) (fun i w' => w2 = w' ∧ i ≤ needs.length ∧ ∀ j, j < i → cand needs (ordS needs t).1 j = false) (fun i => needs.length - i) (0) (subL_cons rfl (subL_cons rfl (subL_cons rfl (subL_cons rfl (subL_cons rfl (subL_nil)))))) ?_ ?_
    · exact ⟨rfl, Nat.zero_le _, fun j hj => absurd hj (Nat.not_lt_zero _)⟩
    rintro i _ ⟨rfl, hi, hno⟩
    refine c_seq ?_
    refine c_seq ?_
    refine c_reg ?_
    refine l_cons (o_p tbOk rfl rfl rfl ?_)
    refine l_cons (o_p tbOk rfl rfl rfl ?_)
    refine l_cons (o_len tbOk hn rfl rfl rfl rfl rfl ?_)
    refine l_cons (o_p tbOk rfl rfl rfl ?_)
    refine l_nil ?_
    refine x_seq ?_
    refine c_ifP _ rfl (fun h1 => ?_) (fun h1 => ?_)
    · have hin : i < needs.length := by omega
      have hii : i < (ordS needs t).1.length := by omega
      refine c_skip ?_
      refine x_seq ?_
      refine c_seq ?_
      refine c_blk ?_
      refine c_seq ?_
      refine c_reg ?_
      refine l_cons (o_p tbOk rfl rfl rfl ?_)
      refine l_cons (o_p tbOk rfl rfl rfl ?_)
      refine l_cons (o_ixO tbOk hd (List.getElem?_eq_getElem hii) rfl rfl rfl rfl rfl rfl rfl rfl rfl ?_)
      intro b4 u4 hob4 hr4 hat4
      obtain rfl := hr4
      refine l_cons (o_ld tbOk (hat4.cell 0 _ rfl) rfl rfl rfl rfl rfl ?_)
      refine l_cons (o_p tbOk rfl rfl rfl ?_)
      refine l_cons (o_p tbOk rfl rfl rfl ?_)
      refine l_nil ?_
      refine x_seq ?_
      refine c_seq ?_
      refine c_seq ?_
      refine c_reg ?_
      refine l_cons (o_p tbOk rfl rfl rfl ?_)
      refine l_nil ?_
      refine x_seq ?_
      refine c_blk ?_
      refine c_loop2 (X := Nat) (Y := Bool) (fun p rd => [(0, vn), (3, v), (4, (.slice (some ⟨bw1, 0, none⟩) needs.length needs.length)), (5, .int .i64 (t : Nat)), (6, .int .i64 (i : Nat)), (7, .bool rd), (8, .int .i64 (p : Nat))]) (fun p rd w' => w2 = w' ∧ p ≤ needs[i].length ∧ rd = (!(ordS needs t).1[i] && !((needs[i].take p).any (waits needs (ordS needs t).1)))) (fun p rd => needs[i].length - p) (0) (!(ordS needs t).1[i]) (subL_cons rfl (subL_cons rfl (subL_cons rfl (subL_cons rfl (subL_cons rfl (subL_cons rfl (subL_cons rfl (subL_nil)))))))) ?_ ?_
      · exact ⟨rfl, Nat.zero_le _, by simp⟩
      rintro p rd _ ⟨rfl, hp0, hrd⟩
      refine c_seq ?_
      refine c_seq ?_
      refine c_reg ?_
      refine l_cons (o_p tbOk rfl rfl rfl ?_)
      refine l_cons (o_p tbOk rfl rfl rfl ?_)
      refine l_cons (o_p tbOk rfl rfl rfl ?_)
      refine l_cons (o_ixS tbOk hn (List.getElem?_eq_getElem hin) rfl rfl rfl rfl rfl rfl rfl rfl rfl ?_)
      intro b5 o5 vs hs hat5
      replace hs : Sl M1 w2 vs needs[i] := hs
      replace hat5 := hat5.sl hs
      have hsl := hs.lt
      refine l_cons (o_ld tbOk (hat5.cell 0 _ rfl) rfl rfl rfl rfl rfl ?_)
      refine l_cons (o_len tbOk hs rfl rfl rfl rfl rfl ?_)
      refine l_cons (o_p tbOk rfl rfl rfl ?_)
      refine l_nil ?_
      refine x_seq ?_
      refine c_ifP _ rfl (fun h2 => ?_) (fun h2 => ?_)
      · have hp : p < needs[i].length := by omega
        refine c_skip ?_
        refine x_seq ?_
        refine c_seq ?_
        refine c_blk ?_
        refine c_seq ?_
        refine c_reg ?_
        refine l_cons (o_p tbOk rfl rfl rfl ?_)
        refine l_cons (o_p tbOk rfl rfl rfl ?_)
        refine l_cons (o_ixS tbOk hn (List.getElem?_eq_getElem hin) rfl rfl rfl rfl rfl rfl rfl rfl rfl ?_)
        intro b6 o6 vs6 hs6 hat6
        replace hs6 : Sl M1 w2 vs6 needs[i] := hs6
        replace hat6 := hat6.sl hs6
        refine l_cons (o_ld tbOk (hat6.cell 0 _ rfl) rfl rfl rfl rfl rfl ?_)
        refine l_cons (o_p tbOk rfl rfl rfl ?_)
        refine l_cons (o_ixS tbOk hs6 (List.getElem?_eq_getElem hp) rfl rfl rfl rfl rfl rfl rfl rfl rfl ?_)
        intro b7 o7 u7 hr7 hat7
        obtain ⟨rfl, hi7⟩ := hr7
        refine l_cons (o_ld tbOk (hat7.cell 0 _ rfl) rfl rfl rfl rfl rfl ?_)
        refine l_cons (o_p tbOk rfl rfl rfl ?_)
        refine l_nil ?_
        refine x_seq ?_
        refine c_seq ?_
        refine c_reg ?_
        refine l_cons (o_p tbOk rfl rfl rfl ?_)
        refine l_cons (o_p tbOk rfl rfl rfl ?_)
        refine l_cons (o_p tbOk rfl rfl rfl ?_)
        refine l_splitP 48 _ rfl (fun h4 => ?_) (fun h4 => ?_)
        · refine l_cons (o_p tbOk rfl rfl rfl ?_)
          refine l_cons (o_p tbOk rfl rfl rfl ?_)
          refine l_cons (o_len tbOk hn rfl rfl rfl rfl rfl ?_)
          refine l_cons (o_p tbOk rfl rfl rfl ?_)
          refine l_cons (o_p tbOk rfl rfl rfl ?_)
          refine l_cons (o_p tbOk rfl rfl rfl ?_)
          refine l_splitP 54 _ rfl (fun h5 => ?_) (fun h5 => ?_)
          · obtain ⟨x, hx, hxn⟩ := isNode_nat (show isNode needs needs[i][p] = true by simp [isNode, h4, h5])
            have hxi : x < (ordS needs t).1.length := by omega
            refine l_cons (o_p tbOk rfl rfl rfl ?_)
            refine l_cons (o_p tbOk rfl rfl rfl ?_)
            refine l_cons (o_ixO tbOk hd (List.getElem?_eq_getElem hxi) rfl rfl hx rfl rfl rfl rfl rfl rfl ?_)
            intro b8 u8 hob8 hr8 hat8
            obtain rfl := hr8
            have hw : waits needs (ordS needs t).1 needs[i][p] = !(ordS needs t).1[x] := by
              have hnd : isNode needs needs[i][p] = true := by simp [isNode, h4, h5]
              unfold waits; rw [hnd, hx]; simp [hxi]
            refine l_cons (o_ld tbOk (hat8.cell 0 _ rfl) rfl rfl rfl rfl rfl ?_)
            refine l_cons (o_p tbOk rfl rfl rfl ?_)
            refine l_cons (o_p tbOk rfl rfl rfl ?_)
            refine l_nil ?_
            refine x_seq ?_
            refine c_ifB _ rfl (fun h6 => ?_) (fun h6 => ?_)
            · refine c_reg ?_
              refine l_cons (o_p tbOk rfl rfl rfl ?_)
              refine l_nil ?_
              refine x_blk ?_
              refine x_seq ?_
              refine c_reg ?_
              refine l_cons (o_p tbOk rfl rfl rfl ?_)
              refine l_cons (o_ar rfl rfl rfl (IntWalk.i64_in _ (by omega)) rfl rfl ?_)
              refine l_cons (o_p tbOk rfl rfl rfl ?_)
              refine l_nil ?_
              exact x_round2 (p + 1) (false) (subL_cons rfl (subL_cons rfl (subL_cons rfl (subL_cons rfl (subL_cons rfl (subL_cons rfl (subL_cons rfl (subL_nil)))))))) ⟨rfl, by omega, by rw [any_step hp, hw, h6]; simp [hrd]⟩ (by omega)
            · refine c_skip ?_
              refine x_blk ?_
              refine x_seq ?_
              refine c_reg ?_
              refine l_cons (o_p tbOk rfl rfl rfl ?_)
              refine l_cons (o_ar rfl rfl rfl (IntWalk.i64_in _ (by omega)) rfl rfl ?_)
              refine l_cons (o_p tbOk rfl rfl rfl ?_)
              refine l_nil ?_
              exact x_round2 (p + 1) (rd) (subL_cons rfl (subL_cons rfl (subL_cons rfl (subL_cons rfl (subL_cons rfl (subL_cons rfl (subL_cons rfl (subL_nil)))))))) ⟨rfl, by omega, by rw [any_step hp, hw, h6]; simp [hrd]⟩ (by omega)
          · refine l_cons (o_skip rfl rfl ?_)
            refine l_cons (o_skip rfl rfl ?_)
            refine l_cons (o_skip rfl rfl ?_)
            refine l_cons (o_skip rfl rfl ?_)
            refine l_cons (o_skip rfl rfl ?_)
            refine l_cons (o_p tbOk rfl rfl rfl ?_)
            refine l_nil ?_
            refine x_seq ?_
            refine c_ifF rfl ?_
            refine c_skip ?_
            refine x_blk ?_
            refine x_seq ?_
            refine c_reg ?_
            refine l_cons (o_p tbOk rfl rfl rfl ?_)
            refine l_cons (o_ar rfl rfl rfl (IntWalk.i64_in _ (by omega)) rfl rfl ?_)
            refine l_cons (o_p tbOk rfl rfl rfl ?_)
            refine l_nil ?_
            exact x_round2 (p + 1) (rd) (subL_cons rfl (subL_cons rfl (subL_cons rfl (subL_cons rfl (subL_cons rfl (subL_cons rfl (subL_cons rfl (subL_nil)))))))) ⟨rfl, by omega, by rw [any_step hp, show waits needs (ordS needs t).1 needs[i][p] = false by simp [waits, isNode, h5]]; simp [hrd]⟩ (by omega)
        · refine l_cons (o_skip rfl rfl ?_)
          refine l_cons (o_skip rfl rfl ?_)
          refine l_cons (o_skip rfl rfl ?_)
          refine l_cons (o_skip rfl rfl ?_)
          refine l_cons (o_p tbOk rfl rfl rfl ?_)
          refine l_cons (o_p tbOk rfl rfl rfl ?_)
          refine l_cons (o_skip rfl rfl ?_)
          refine l_cons (o_skip rfl rfl ?_)
          refine l_cons (o_skip rfl rfl ?_)
          refine l_cons (o_skip rfl rfl ?_)
          refine l_cons (o_skip rfl rfl ?_)
          refine l_cons (o_p tbOk rfl rfl rfl ?_)
          refine l_nil ?_
          refine x_seq ?_
          refine c_ifF rfl ?_
          refine c_skip ?_
          refine x_blk ?_
          refine x_seq ?_
          refine c_reg ?_
          refine l_cons (o_p tbOk rfl rfl rfl ?_)
          refine l_cons (o_ar rfl rfl rfl (IntWalk.i64_in _ (by omega)) rfl rfl ?_)
          refine l_cons (o_p tbOk rfl rfl rfl ?_)
          refine l_nil ?_
          exact x_round2 (p + 1) (rd) (subL_cons rfl (subL_cons rfl (subL_cons rfl (subL_cons rfl (subL_cons rfl (subL_cons rfl (subL_cons rfl (subL_nil)))))))) ⟨rfl, by omega, by rw [any_step hp, show waits needs (ordS needs t).1 needs[i][p] = false by simp [waits, isNode, h4]]; simp [hrd]⟩ (by omega)
      · have hcand : rd = cand needs (ordS needs t).1 i := by
          rw [hrd, List.take_of_length_le (by omega)]; simp [cand, hii, hin]
        refine c_exit ?_
        refine x_seqE ?_
        refine x_seqE ?_
        refine x_blkE ?_
        refine x_seq ?_
        refine c_seq ?_
        refine c_reg ?_
        refine l_cons (o_p tbOk rfl rfl rfl ?_)
        refine l_nil ?_
        refine x_seq ?_
        refine c_if _ rfl (fun h9 => ?_) (fun h9 => ?_)
        · have hnx := next_first hin (hcand ▸ h9) hno
          refine c_seq ?_
          refine c_reg ?_
          refine l_cons (o_p tbOk rfl rfl rfl ?_)
          refine l_cons (o_p tbOk rfl rfl rfl ?_)
          refine l_cons (o_ixO tbOk hd (List.getElem?_eq_getElem hii) rfl rfl rfl rfl rfl rfl rfl rfl rfl ?_)
          intro b9 u9 hob9 hr9 hat9
          obtain rfl : bw1 = b9 := by simpa [Value.ownBlock] using hob9
          refine l_cons (o_stO tbOk hd hob9 hii (z := true) rfl hlow rfl rfl rfl rfl rfl rfl ?_)
          intro w3 hw3 sw3 frw3
          replace ho := ho.stp sw3 (fun x hx => frw3 x (ho.lt x hx).2 (hne x hx))
          replace hE := hE.trans sw3.below
          replace hn := hn.stp sw3
          replace hsub := fun b h => sw3.sub b (hsub b h)
          replace hlow := sw3.low
          replace hB := Nat.le_trans hB sw3.upd.1
          replace hd := hw3
          clear hw3
          have hbd : bw1 < w3.heap.size := (hd.lt bw1 rfl).2
          refine l_nil ?_
          refine x_seq ?_
          refine c_seq ?_
          refine c_reg ?_
          refine l_cons (o_p tbOk rfl rfl rfl ?_)
          refine l_cons (o_p tbOk rfl rfl rfl ?_)
          refine l_cons (o_bs tbOk rfl rfl rfl rfl rfl rfl rfl (sz1 rfl) rfl rfl rfl ?_)
          intro bw4 w4 qbw4 ew4 hbw4
          have nbw4 := nM_of hlow qbw4
          replace hd := hd.ext hlow hB ew4
          replace ho := ho.ext hlow hB ew4
          replace hE := hE.trans (Below.mono ew4 hB)
          replace hn := hn.ext ew4
          replace hlow := hlow.ext ew4
          replace hB := Nat.le_trans hB ew4.size
          refine l_cons (o_app1 tbOk ho hbw4 nbw4 ⟨rfl, by unfold I64; omega⟩ hlow hB rfl rfl rfl rfl rfl rfl rfl (by omega) (by show (_ + _) * 8 ≤ _; omega) rfl rfl ?_)
          intro vw5 w5 Mw5 hw5 sw5 frw5 blw5
          replace hd := hd.stp sw5 (fun x hx => frw5 x (hd.lt x hx).2 (fun e => hne x e.symm (by simpa [Value.ownBlock] using hx.symm)))
          replace hE := hE.trans sw5.below
          replace hn := hn.stp sw5
          replace hsub := fun b h => sw5.sub b (hsub b h)
          replace hlow := sw5.low
          replace hB := Nat.le_trans hB sw5.upd.1
          replace ho := hw5
          clear hw5
          refine l_cons (o_p tbOk rfl rfl rfl ?_)
          refine l_nil ?_
          refine x_seq ?_
          refine c_exit ?_
          refine x_blkO rfl ?_
          refine x_seqE ?_
          refine x_seqE ?_
          refine x_blkE ?_
          refine x_blk ?_
          refine x_seq ?_
          refine c_reg ?_
          refine l_cons (o_p tbOk rfl rfl rfl ?_)
          refine l_cons (o_ar rfl rfl rfl (IntWalk.i64_in _ (by omega)) rfl rfl ?_)
          refine l_cons (o_p tbOk rfl rfl rfl ?_)
          refine l_nil ?_
          exact x_round3 (t + 1) (vw5) (Mw5) (subL_cons rfl (subL_cons rfl (subL_cons rfl (subL_cons rfl (subL_nil))))) ⟨by omega, by rw [ordS_some hnx]; exact hd, by rw [ordS_some hnx]; exact ho, (fun x hx => (blw5 x hx).elim (hne x) (fun h => by have := ew4.size; omega)), hn, hlow, hsub, hE, hB⟩ (by omega)
        · refine c_skip ?_
          refine x_blk ?_
          refine x_seq ?_
          refine c_reg ?_
          refine l_cons (o_p tbOk rfl rfl rfl ?_)
          refine l_cons (o_ar rfl rfl rfl (IntWalk.i64_in _ (by omega)) rfl rfl ?_)
          refine l_cons (o_p tbOk rfl rfl rfl ?_)
          refine l_nil ?_
          exact x_round (i + 1) (subL_cons rfl (subL_cons rfl (subL_cons rfl (subL_cons rfl (subL_cons rfl (subL_nil)))))) ⟨rfl, by omega, cand_step hno (hcand ▸ h9)⟩ (by omega)
    · have hnx := next_none (fun j hj => hno j (by omega))
      refine c_exit ?_
      refine x_seqE ?_
      refine x_seqE ?_
      refine x_blkE ?_
      refine x_blk ?_
      refine x_seq ?_
      refine c_reg ?_
      refine l_cons (o_p tbOk rfl rfl rfl ?_)
      refine l_cons (o_ar rfl rfl rfl (IntWalk.i64_in _ (by omega)) rfl rfl ?_)
      refine l_cons (o_p tbOk rfl rfl rfl ?_)
      refine l_nil ?_
      exact x_round3 (t + 1) (v) (M1) (subL_cons rfl (subL_cons rfl (subL_cons rfl (subL_cons rfl (subL_nil))))) ⟨by omega, by rw [ordS_none hnx]; exact hd, by rw [ordS_none hnx]; exact ho, hne, hn, hlow, hsub, hE, hB⟩ (by omega)
  · refine c_exit ?_
    refine x_seqE ?_
    refine x_seqE ?_
    refine x_blkE ?_
    refine x_seq ?_
    refine c_seq ?_
    refine c_reg ?_
    refine l_cons (o_p tbOk rfl rfl rfl ?_)
    refine l_cons (o_p tbOk rfl rfl rfl ?_)
    refine l_nil ?_
    refine x_seq ?_
    refine c_ret ?_
    refine x_ret1 rfl rfl ?_
    obtain rfl : t = needs.length := by omega
    exact ⟨ho.sl (by have := ordS_out needs needs.length; omega) hlow0 hsub, hE⟩

end Go.Proofs.Ytcledfefgbbgeaa
