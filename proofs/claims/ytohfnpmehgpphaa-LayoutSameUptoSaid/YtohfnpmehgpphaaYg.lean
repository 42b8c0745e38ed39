/- Walks: instances of places. Printed by wip/walks/layout5.py. -/
import Derived.Test.YtohfnpmehgpphaaYd
import Derived.Test.YtohfnpmehgpphaaPlainP
namespace Go.Proofs.Ytohfnpmehgpphaa
open Go Rw Go.RowKit
set_option maxRecDepth 100000

/-- A binding of this place's variable? -/
theorem inst1_spec (p : Pl) (b : Bnd) (kv : Value) (bl : Nat) (M : Nat → Prop) (w : World) (h1 : At NoM w bl 0 [.int .i64 (p.base), .int .i64 (p.var), .string p.name]) (hlow : Low M w) (hkv : kv.oneCell' = true) :
    Calls Try.prog 67 #[.agg #[.int .i64 b.n, .int .u8 b.to.op, .string b.to.name, .int .i64 b.to.n, kv], .pointer (some ⟨bl, 0, none⟩)] w (Ret fun r w' => r = .bool (bindM p b) ∧ Ext w w') := by
  have hE : Below w.heap.size w w := Below.refl _ _
  have hB : w.heap.size ≤ w.heap.size := Nat.le_refl _
  refine c_enter (n := 14) Try.func67 rfl rfl rfl ?_
  refine c_seq ?_
  refine c_reg ?_
  refine l_cons (o_box rfl rfl rfl ?_)
  intro b2 w1 hb_b2 ew1 h2
  replace h2 := h2.at (nM_of hlow hb_b2)
  replace hE := hE.trans (Below.mono ew1 hB)
  replace h1 := h1.ext ew1
  replace hlow := hlow.ext ew1
  replace hB := Nat.le_trans hB ew1.size
  replace h2 : At _ _ b2 0 [.int .i64 b.n, .int .u8 b.to.op, .string b.to.name, .int .i64 b.to.n, kv] := h2
  refine l_cons (o_p tbOk rfl rfl rfl ?_)
  refine l_nil ?_
  refine x_seq ?_
  refine c_seq ?_
  refine c_reg ?_
  refine l_cons (o_p tbOk rfl rfl rfl ?_)
  refine l_cons (o_ld tbOk (h1.cell 1 _ rfl) rfl rfl rfl rfl rfl ?_)
  refine l_cons (o_p tbOk rfl rfl rfl ?_)
  refine l_cons (o_p tbOk rfl rfl rfl ?_)
  refine l_splitP 7 _ rfl (fun c1 => ?_) (fun c1 => ?_)
  · refine l_cons (o_p tbOk rfl rfl rfl ?_)
    refine l_cons (o_ld tbOk (h2.cell 0 _ rfl) rfl rfl rfl rfl rfl ?_)
    refine l_cons (o_p tbOk rfl rfl rfl ?_)
    refine l_cons (o_ld tbOk (h1.cell 1 _ rfl) rfl rfl rfl rfl rfl ?_)
    refine l_cons (o_p tbOk rfl rfl rfl ?_)
    refine l_cons (o_p tbOk rfl rfl rfl ?_)
    refine l_cons (o_p tbOk rfl rfl rfl ?_)
    refine l_nil ?_
    refine x_seq ?_
    refine c_ret ?_
    refine x_ret1 rfl rfl ?_
    exact ⟨by simp [bindM, *], hE⟩
  refine l_cons (o_skip rfl rfl ?_)
  refine l_cons (o_skip rfl rfl ?_)
  refine l_cons (o_skip rfl rfl ?_)
  refine l_cons (o_skip rfl rfl ?_)
  refine l_cons (o_skip rfl rfl ?_)
  refine l_cons (o_p tbOk rfl rfl rfl ?_)
  refine l_cons (o_p tbOk rfl rfl rfl ?_)
  refine l_nil ?_
  refine x_seq ?_
  refine c_ret ?_
  refine x_ret1 rfl rfl ?_
  exact ⟨by simp [bindM, *], hE⟩

/-- IndexFunc: the first binding. -/
theorem indexB_spec (p : Pl) (bs : List Bnd) (b : Nat) (M : Nat → Prop) (w : World) (v : Value) (h1 : At NoM w b 0 [.int .i64 (p.base), .int .i64 (p.var), .string p.name]) (hs : Sl M w v bs) (hlow : Low M w) :
    Calls Try.prog 66 #[v, .func (.func 67) #[] #[.pointer (some ⟨b, 0, none⟩)]] w (Ret fun r w' => (∃ z : Int, r = .int .i64 z ∧ ((∃ i, ∃ hi : i < bs.length, z = (i : Nat) ∧ bindM p bs[i] = true ∧ (∀ (k : Nat) (x : Bnd), k < i → bs[k]? = some x → bindM p x = false)) ∨ (z = -1 ∧ (∀ (k : Nat) (x : Bnd), k < bs.length → bs[k]? = some x → bindM p x = false)))) ∧ Ext w w') := by
  have hE : Below w.heap.size w w := Below.refl _ _
  have hB : w.heap.size ≤ w.heap.size := Nat.le_refl _
  have hL := hs.lt
  refine c_enter (n := 19) Try.func66 rfl rfl rfl ?_
  refine c_seq ?_
  refine c_reg ?_
  refine l_cons (o_p tbOk rfl rfl rfl ?_)
  refine l_nil ?_
  refine x_seq ?_
  refine c_seq ?_
  refine c_seq ?_
  refine c_reg ?_
  refine l_cons (o_p tbOk rfl rfl rfl ?_)
  refine l_cons (o_len tbOk hs rfl rfl rfl rfl rfl ?_)
  refine l_cons (o_p tbOk rfl rfl rfl ?_)
  refine l_nil ?_
  refine x_seq ?_
  refine c_blk ?_
  refine c_loop (X := Nat) (fun i => [(0, v), (1, .func (.func 67) #[] #[.pointer (some ⟨b, 0, none⟩)]), (7, .int .i64 (bs.length : Int)), (8, .int .i64 (i : Nat))]) (fun i w' => i ≤ bs.length ∧ (∀ (k : Nat) (x : Bnd), k < i → bs[k]? = some x → bindM p x = false) ∧ At NoM w' b 0 [.int .i64 (p.base), .int .i64 (p.var), .string p.name] ∧ Sl M w' v bs ∧ Low M w' ∧ Below w.heap.size w w' ∧ w.heap.size ≤ w'.heap.size) (fun i => bs.length - i) (0) (subL_cons rfl (subL_cons rfl (subL_cons rfl (subL_cons rfl (subL_nil))))) ?_ ?_
  · exact ⟨Nat.zero_le _, fun k x h => by omega, h1, hs, hlow, hE, hB⟩
  rintro i w1 ⟨hi, hnb, h1, hs, hlow, hE, hB⟩
  refine c_seq ?_
  refine c_reg ?_
  refine l_cons (o_p tbOk rfl rfl rfl ?_)
  refine l_nil ?_
  refine x_seq ?_
  refine c_seq ?_
  refine c_ifP _ rfl (fun c1 => ?_) (fun c1 => ?_)
  · have hil : i < bs.length := by omega
    refine c_skip ?_
    refine x_seq ?_
    refine c_seq ?_
    refine c_blk ?_
    refine c_seq ?_
    refine c_reg ?_
    refine l_cons (o_p tbOk rfl rfl rfl ?_)
    refine l_cons (o_p tbOk rfl rfl rfl ?_)
    refine l_nil ?_
    refine x_seq ?_
    refine c_seq ?_
    refine c_reg ?_
    refine l_cons (o_p tbOk rfl rfl rfl ?_)
    refine l_cons (o_p tbOk rfl rfl rfl ?_)
    refine l_cons (o_p tbOk rfl rfl rfl ?_)
    refine l_cons (o_ixS tbOk hs (List.getElem?_eq_getElem hil) rfl rfl rfl rfl rfl rfl rfl rfl rfl ?_)
    intro ebx eox eux hrx hatx
    obtain ⟨bnx, kvx, rfl, hyx⟩ := bnd_open hrx
    replace hatx : At _ w1 ebx eox [.int .i64 bs[i].n, .int .u8 bs[i].to.op, .string bs[i].to.name, .int .i64 bs[i].to.n, kvx] := hatx
    refine l_cons (o_lds tbOk (fun j v hv => hatx.cell j v hv) rfl rfl rfl rfl rfl rfl ?_)
    refine l_cons (o_dyn rfl fo67 rfl rfl rfl (inst1_spec p bs[i] kvx b M _ h1 hlow (Rep.one hyx kvx (by simp [Value.cells]))) ?_)
    rintro _ w2 ⟨rfl, ew2⟩
    replace hE := hE.trans (Below.mono ew2 hB)
    replace h1 := h1.ext ew2
    replace hs := hs.ext ew2
    replace hrx := Rep.ext hrx ew2
    replace hyx := Rep.ext hyx ew2
    replace hatx := hatx.ext ew2
    replace hlow := hlow.ext ew2
    replace hB := Nat.le_trans hB ew2.size
    refine l_nil ?_
    refine x_seq ?_
    refine c_if _ rfl (fun c2 => ?_) (fun c2 => ?_)
    · refine c_seq ?_
      refine c_reg ?_
      refine l_cons (o_p tbOk rfl rfl rfl ?_)
      refine l_cons (o_p tbOk rfl rfl rfl ?_)
      refine l_nil ?_
      refine x_seq ?_
      refine c_ret ?_
      refine x_blkR ?_
      refine x_seqR ?_
      refine x_seqR ?_
      refine x_blkR ?_
      refine x_seqR ?_
      refine x_ret1 rfl rfl ?_
      exact ⟨⟨_, rfl, .inl ⟨i, hil, rfl, c2, hnb⟩⟩, hE⟩
    refine c_skip ?_
    refine x_blk ?_
    refine x_seq ?_
    refine c_reg ?_
    refine l_cons (o_ar rfl rfl rfl (IntWalk.i64_in _ (by omega)) rfl rfl ?_)
    refine l_cons (o_p tbOk rfl rfl rfl ?_)
    refine l_nil ?_
    exact x_round (i + 1) (subL_cons rfl (subL_cons rfl (subL_cons rfl (subL_cons (get_num rfl (by omega)) (subL_nil))))) ⟨by omega, bindM_step hil hnb c2, h1, hs, hlow, hE, hB⟩ (by omega)
  refine c_exit ?_
  refine x_seqE ?_
  refine x_seqE ?_
  refine x_blkE ?_
  refine x_seq ?_
  refine c_seq ?_
  refine c_reg ?_
  refine l_cons (o_p tbOk rfl rfl rfl ?_)
  refine l_nil ?_
  refine x_seq ?_
  refine c_ret ?_
  refine x_ret1 rfl rfl ?_
  obtain rfl : i = bs.length := by omega
  exact ⟨⟨_, rfl, .inr ⟨rfl, hnb⟩⟩, hE⟩

/-- Clone: the same, in new memory. -/
theorem clone_spec (l : List Pl) (B : Nat) (M : Nat → Prop) (w : World) (v : Value) (hs : Sl M w v l) (hlow : Low M w) (hB : B ≤ w.heap.size) (hsm : l.length ≤ 1000000) :
    Calls Try.prog 65 #[v] w (Ret fun r w' => ∃ M', OwnSl 23 B M' w' r l ∧ Stp B M M' w w') := by
  have hT : Stp B M M w w := Stp.refl hlow
  obtain ⟨a, c, rfl, _⟩ := id hs
  refine c_enter (n := 8) Try.func65 rfl rfl rfl ?_
  refine c_seq ?_
  refine c_reg ?_
  refine l_cons (o_p tbOk rfl rfl rfl ?_)
  refine l_nil ?_
  refine x_seq ?_
  refine c_seq ?_
  refine c_seq ?_
  refine c_reg ?_
  refine l_cons (o_p tbOk rfl rfl rfl ?_)
  refine l_cons (o_snil tbOk rfl rfl rfl rfl rfl rfl ?_)
  refine l_nil ?_
  refine x_seq ?_
  refine c_if _ rfl (fun hn => ?_) (fun hn => ?_)
  · refine c_seq ?_
    refine c_reg ?_
    refine l_cons (o_p tbOk rfl rfl rfl ?_)
    refine l_nil ?_
    refine x_seq ?_
    refine c_ret ?_
    refine x_seqR ?_
    refine x_ret1 rfl rfl ?_
    obtain rfl := sl_isNone hs hn
    exact ⟨_, own_nil, hT⟩
  refine c_skip ?_
  refine x_seq ?_
  refine c_seq ?_
  refine c_reg ?_
  refine l_cons (o_bs tbOk rfl rfl rfl rfl rfl rfl rfl (fun v h => by cases h) rfl rfl rfl ?_)
  intro bw1 w1 qbw1 ew1 hbw1
  have sw1 := Stp.add ew1 hlow hB (Nat.le_of_eq qbw1.symm) hbw1.lt
  have le_bw1 := hB
  replace hT := hT.then sw1
  replace hs := hs.stp sw1
  replace hlow := sw1.low
  replace hB := Nat.le_trans hB sw1.upd.1
  have ho := own_litS sw1 hbw1 (show Rs _ _ [] ([] : List Pl) from trivial) qbw1 le_bw1 (by simp [maxLen])
  refine l_cons (o_p tbOk rfl rfl rfl ?_)
  refine l_cons (o_app tbOk ho hs hlow hB rfl rfl rfl rfl rfl rfl rfl (by simp; omega) (by show (_ + _) * 32 ≤ _; simp; omega) rfl rfl ?_)
  intro vw2 w2 Mw2 hw2 sw2 frw2 blw2
  replace hT := hT.then sw2
  replace hs := hs.stp sw2
  replace hlow := sw2.low
  replace hB := Nat.le_trans hB sw2.upd.1
  replace ho := hw2
  clear hw2
  refine l_cons (o_p tbOk rfl rfl rfl ?_)
  refine l_nil ?_
  refine x_seq ?_
  refine c_ret ?_
  refine x_ret1 rfl rfl ?_
  rw [List.nil_append] at ho
  exact ⟨_, ho, hT⟩

/-- Instance: places, rows put for their variables. -/
theorem instance_spec (l : List Pl) (bs : List Bnd) (M : Nat → Prop) (w : World) (v u : Value) (hs : Sl M w v l) (hb : Sl M w u bs) (hlow0 : Low M w) (hsm : l.length ≤ 1000000) (hz : ∀ b ∈ bs, psz b.to ≤ 2000000) :
    Calls Try.prog 25 #[v, u] w (Ret fun r w' => ((∃ x k, r = .tuple #[x, .int .u8 0] ∧ Ins bs l k ∧ Sl M w' x k) ∨ (r = .tuple #[.slice none 0 0, .int .u8 1] ∧ InsE bs l)) ∧ Ext w w') := by
  have hlow := hlow0
  have hB : w.heap.size ≤ w.heap.size := Nat.le_refl _
  have hE : Below w.heap.size w w := Below.refl _ _
  have hsub : ∀ b, M b → M b := fun _ h => h
  refine c_enter (n := 52) Try.func25 rfl rfl rfl ?_
  refine c_seq ?_
  refine c_reg ?_
  refine l_cons (o_p tbOk rfl rfl rfl ?_)
  refine l_cons (o_p tbOk rfl rfl rfl ?_)
  refine l_nil ?_
  refine x_seq ?_
  refine c_seq ?_
  refine c_reg ?_
  refine l_cons (o_p tbOk rfl rfl rfl ?_)
  refine l_cons (o_call fo65 rfl rfl rfl (clone_spec l w.heap.size _ _ _ hs hlow hB hsm) ?_)
  rintro wv w1 ⟨M0, ho, sw1⟩
  replace hE := hE.trans sw1.below
  replace hs := hs.stp sw1
  replace hb := hb.stp sw1
  replace hsub := fun b h => sw1.sub b (hsub b h)
  replace hlow := sw1.low
  replace hB := Nat.le_trans hB sw1.upd.1
  refine l_cons (o_p tbOk rfl rfl rfl ?_)
  refine l_nil ?_
  refine x_seq ?_
  refine c_seq ?_
  refine c_seq ?_
  refine c_reg ?_
  refine l_cons (o_p tbOk rfl rfl rfl ?_)
  refine l_cons (o_lenO tbOk ho rfl rfl rfl rfl rfl ?_)
  refine l_cons (o_p tbOk rfl rfl rfl ?_)
  refine l_nil ?_
  refine x_seq ?_
  refine c_blk ?_
  refine c_loop3 (X := Nat) (Y := List Pl) (Z := Nat → Prop) (fun i acc M1 => [(1, u), (6, wv), (14, wv), (15, .int .i64 (l.length : Int)), (16, .int .i64 (i : Nat))]) (fun i acc M1 w' => i ≤ l.length ∧ Ins bs (l.take i) acc ∧ OwnSl 23 w.heap.size M1 w' wv (acc ++ l.drop i) ∧ Sl M1 w' u bs ∧ Low M1 w' ∧ (∀ b, M b → M1 b) ∧ Below w.heap.size w w' ∧ w.heap.size ≤ w'.heap.size) (fun i acc M1 => l.length - i) (0) ([]) (M0) (subL_cons rfl (subL_cons rfl (subL_cons rfl (subL_cons rfl (subL_cons rfl (subL_nil)))))) ?_ ?_
  · exact ⟨Nat.zero_le _, Ins.nil bs, ho, hb, hlow, hsub, hE, hB⟩
  rintro i acc M1 w2 ⟨hi, hins, ho, hb, hlow, hsub, hE, hB⟩
  have hal : acc.length = i := by
    have := hins.len
    rw [List.length_take] at this
    omega
  refine c_seq ?_
  refine c_reg ?_
  refine l_cons (o_p tbOk rfl rfl rfl ?_)
  refine l_nil ?_
  refine x_seq ?_
  refine c_seq ?_
  refine c_ifP _ rfl (fun hc => ?_) (fun hc => ?_)
  · have hil : i < l.length := by omega
    have hdl : (acc ++ l.drop i).length = l.length := by rw [List.length_append, List.length_drop]; omega
    refine c_skip ?_
    refine x_seq ?_
    refine c_seq ?_
    refine c_blk ?_
    refine c_seq ?_
    refine c_reg ?_
    refine l_cons (o_p tbOk rfl rfl rfl ?_)
    refine l_cons (o_ixO tbOk ho (get_step hil hal) rfl rfl rfl rfl rfl rfl rfl rfl rfl ?_)
    intro ib iu hob hrs hats
    obtain ⟨rfl, okp⟩ := hrs
    replace okp : PlOk l[i] := okp
    replace hats : At NoM w2 ib _ [.int .i64 (l[i].base), .int .i64 (l[i].var), .string l[i].name] := ⟨(ho.lt _ hob).2, fun h => h, hats.cell⟩
    refine l_cons (o_lds tbOk (fun j v hv => hats.cell j v hv) rfl rfl rfl rfl rfl rfl ?_)
    refine l_cons (o_new tbOk rfl rfl rfl ?_)
    intro b8 w3 qb8 ew3 hb8
    have nb8 := nM_of hlow qb8
    refine l_cons (o_p tbOk rfl rfl rfl ?_)
    refine l_cons (o_st tbOk hb8 rfl rfl rfl rfl (by intro u hu; simp [Value.cells] at hu; rcases hu with rfl | rfl | rfl <;> rfl) rfl rfl ?_)
    intro w4 h8 uw4 bew4
    have ew4 : Ext w2 w4 := ew3.trans (bew4 _ (Nat.le_of_eq qb8.symm))
    replace ho := ho.ext hlow hB ew4
    replace hE := hE.trans (Below.mono ew4 hB)
    replace hb := hb.ext ew4
    replace hlow := hlow.ext ew4
    replace hB := Nat.le_trans hB ew4.size
    replace h8 : Box w4 b8 23 [.int .i64 (l[i].base), .int .i64 (l[i].var), .string l[i].name] := h8
    replace h8 := h8.at nb8
    refine l_nil ?_
    refine x_seq ?_
    refine c_seq ?_
    refine c_reg ?_
    refine l_cons (o_p tbOk rfl rfl rfl ?_)
    refine l_cons (o_p tbOk rfl rfl rfl ?_)
    have k8 : At NoM w4 b8 0 [.int .i64 (l[i].base), .int .i64 (l[i].var), .string l[i].name] := ⟨h8.lt, fun h => h, h8.cell⟩
    refine l_cons (o_call fo66 rfl rfl rfl (indexB_spec l[i] bs b8 _ _ _ k8 hb hlow) ?_)
    rintro _ w5 ⟨⟨z, rfl, hzz⟩, ew5⟩
    replace ho := ho.ext hlow hB ew5
    replace hE := hE.trans (Below.mono ew5 hB)
    replace hb := hb.ext ew5
    replace h8 := h8.ext ew5
    replace hlow := hlow.ext ew5
    replace hB := Nat.le_trans hB ew5.size
    refine l_cons (o_p tbOk rfl rfl rfl ?_)
    refine l_nil ?_
    refine x_seq ?_
    refine c_seq ?_
    refine c_seq ?_
    refine c_reg ?_
    refine l_cons (o_p tbOk rfl rfl rfl ?_)
    refine l_cons (o_p tbOk rfl rfl rfl ?_)
    refine l_nil ?_
    refine x_seq ?_
    refine c_ifP _ rfl (fun hcz => ?_) (fun hcz => ?_)
    · have hnb : (∀ (k : Nat) (x : Bnd), k < bs.length → bs[k]? = some x → bindM l[i] x = false) := by
        rcases hzz with ⟨j, hj, rfl, _⟩ | ⟨_, h⟩
        · omega
        · exact h
      refine c_exit ?_
      refine x_seqE ?_
      refine x_blkE ?_
      refine x_seq ?_
      refine c_reg ?_
      refine l_cons (o_ar rfl rfl rfl (IntWalk.i64_in _ (by omega)) rfl rfl ?_)
      refine l_cons (o_p tbOk rfl rfl rfl ?_)
      refine l_nil ?_
      exact x_round3 (i + 1) (acc ++ [l[i]]) (M1) (subL_cons rfl (subL_cons rfl (subL_cons rfl (subL_cons rfl (subL_cons (get_num rfl (by omega)) (subL_nil)))))) ⟨by omega, hins.snoc hil (instF_none hnb), by rw [← keep_step hil]; exact ho, hb, hlow, hsub, hE, hB⟩ (by omega)
    obtain ⟨k, hik, rfl, hm, hnb⟩ : ∃ k, ∃ hk : k < bs.length, z = (k : Nat) ∧ bindM l[i] bs[k] = true ∧ (∀ (j : Nat) (x : Bnd), j < k → bs[j]? = some x → bindM l[i] x = false) := by
      rcases hzz with h | ⟨h, _⟩
      · exact h
      · omega
    have hzk := hz _ (List.getElem_mem hik)
    refine c_skip ?_
    refine x_seq ?_
    refine c_seq ?_
    refine a_beg Ext rfl ?_
    intro w6 ew6
    replace ho := ho.ext hlow hB ew6
    replace hE := hE.trans (Below.mono ew6 hB)
    replace hb := hb.ext ew6
    replace h8 := h8.ext ew6
    replace hlow := hlow.ext ew6
    replace hB := Nat.le_trans hB ew6.size
    have hS : Ext w6 w6 := ext_refl _
    have D_hb := hb
    have D_h8 := h8
    refine a_p 0 tbOk rfl rfl rfl rfl (by kernel_rfl) (fun _ _ _ h => h) hS ?_
    refine a_p 1 tbOk rfl rfl rfl rfl (by kernel_rfl) (fun _ _ _ h => h) hS ?_
    refine a_ixS 2 tbOk D_hb (List.getElem?_eq_getElem hik) rfl rfl rfl rfl rfl rfl rfl rfl rfl rfl (by kernel_rfl) (fun _ _ _ _ h => h) hS ?_
    intro ebx eox eux hrx hatx
    obtain ⟨bnx, kvx, rfl, hyx⟩ := bnd_open hrx
    replace hatx : At _ w6 ebx eox [.int .i64 bs[k].n, .int .u8 bs[k].to.op, .string bs[k].to.name, .int .i64 bs[k].to.n, kvx] := hatx
    refine a_p 3 tbOk rfl rfl rfl rfl (by kernel_rfl) (fun _ _ _ h => h) hS ?_
    refine a_lds 4 tbOk (fun _ hs j v hv => ((hatx.ext hs)).drop 1 (sub := [.int .u8 bs[k].to.op, .string bs[k].to.name, .int .i64 bs[k].to.n, kvx]) rfl j v hv) rfl rfl rfl rfl rfl rfl rfl (by kernel_rfl) (fun _ _ _ h => h) hS ?_
    refine a_p 5 tbOk rfl rfl rfl rfl (by kernel_rfl) (fun _ _ _ h => h) hS ?_
    refine a_ld 6 tbOk (fun _ hs => (D_h8.ext hs).cell 2 _ rfl) rfl rfl rfl rfl rfl rfl (by kernel_rfl) (fun _ _ _ h => h) hS ?_
    refine a_all [7, 11] (by kernel_rfl) rfl (all_cons (i := 7) rfl ?_ (all_cons (i := 11) rfl ?_ all_nil))
    · refine o_call fo17 rfl rfl rfl (at_spec bs[k].to l[i].name _ _ _ hyx okp.2.2 hlow hzk) ?_
      rintro _ w7 ⟨rfl, ew7⟩
      replace hS := hS.then ew7
      replace ho := ho.ext hlow hB ew7
      replace hE := hE.trans (Below.mono ew7 hB)
      replace hb := hb.ext ew7
      replace h8 := h8.ext ew7
      replace hrx := Rep.ext hrx ew7
      replace hyx := Rep.ext hyx ew7
      replace hatx := hatx.ext ew7
      replace hlow := hlow.ext ew7
      replace hB := Nat.le_trans hB ew7.size
      refine ⟨hS, ?_⟩
      refine a_p 8 tbOk rfl rfl rfl rfl (by kernel_rfl) (fun _ _ _ h => h) hS ?_
      refine a_p 9 tbOk rfl rfl rfl rfl (by kernel_rfl) (fun _ _ _ h => h) hS ?_
      refine a_p 10 tbOk rfl rfl rfl rfl (by kernel_rfl) (fun _ _ _ h => h) hS ?_
      refine a_one 11 rfl (by kernel_rfl) (o_new tbOk rfl rfl rfl ?_)
      intro b10 w8 qb10 ew8 hb10
      have gS_b10 := Nat.le_trans hS.size (Nat.le_of_eq qb10.symm)
      replace hS := hS.then ew8
      have d_ho_h10 : ∀ x, (wv : Value).ownBlock = some x → x ≠ b10 := fun x hx => by have := (ho.lt x hx).2; omega
      have sw8 := Stp.add ew8 hlow hB (Nat.le_of_eq qb10.symm) hb10.lt
      have h10 : MB w.heap.size (Rw.Add M1 b10) w8 b10 23 [.int .i64 0, .int .i64 0, .string ⟨#[]⟩] := MB.mk' hb10 qb10 hB
      replace ho := ho.stp sw8 (fun x hx => ew8.block x (ho.lt x hx).2)
      replace hE := hE.trans sw8.below
      replace hb := hb.stp sw8
      replace h8 := h8.stp sw8
      replace hrx := Rep.stp hrx sw8
      replace hyx := Rep.stp hyx sw8
      replace hatx := hatx.stp sw8
      replace hsub := fun b h => sw8.sub b (hsub b h)
      replace hlow := sw8.low
      replace hB := Nat.le_trans hB sw8.upd.1
      refine ⟨hS, ?_⟩
      refine a_one 12 rfl (by kernel_rfl) (o_st tbOk h10.box rfl rfl rfl rfl (by intro u hu; simp [Value.cells] at hu; rcases hu with rfl | rfl | rfl <;> rfl) rfl rfl ?_)
      intro w9 hw9 qw9 bew9
      have uw9 : UpdB _ _ _ := ⟨qw9, bew9⟩
      have sw9 := uw9.stp h10.inM hlow h10.ge
      have frw9 := qw9.2
      replace hS := Below.trans hS (bew9 _ gS_b10)
      replace ho := ho.stp sw9 (fun x hx => frw9 x (ho.lt x hx).2 (d_ho_h10 x hx))
      replace hE := hE.trans sw9.below
      replace hb := hb.stp sw9
      replace h8 := h8.stp sw9
      replace hrx := Rep.stp hrx sw9
      replace hyx := Rep.stp hyx sw9
      replace hatx := hatx.stp sw9
      replace hsub := fun b h => sw9.sub b (hsub b h)
      replace hlow := sw9.low
      replace hB := Nat.le_trans hB sw9.upd.1
      refine ⟨hS, ?_⟩
      replace h10 : MB w.heap.size _ w9 b10 _ [.int .i64 ((atF bs[k].to l[i].name).1.base), .int .i64 ((atF bs[k].to l[i].name).1.var), .string (atF bs[k].to l[i].name).1.name] := ⟨hw9, h10.inM, h10.ge⟩
      refine a_p 13 tbOk rfl rfl rfl rfl (by kernel_rfl) (fun _ _ _ h => h) hS ?_
      refine a_end (by kernel_rfl) ?_
      refine x_seq ?_
      refine c_seq ?_
      refine c_seq ?_
      refine c_reg ?_
      refine l_cons (o_p tbOk rfl rfl rfl ?_)
      refine l_cons (o_p tbOk rfl rfl rfl ?_)
      refine l_nil ?_
      refine x_seq ?_
      refine c_ifN _ rfl (fun hat => ?_) (fun hat => ?_)
      · have hg : (rowB bs[k].to && isWordB l[i].name) = false := by
          rcases hbb : (rowB bs[k].to && isWordB l[i].name) with _ | _
          · rfl
          · rw [atF_good hbb] at hat; exact absurd rfl hat
        refine c_seq ?_
        refine c_reg ?_
        refine l_cons (o_p tbOk rfl rfl rfl ?_)
        refine l_cons (o_p tbOk rfl rfl rfl ?_)
        refine l_cons (o_p tbOk rfl rfl rfl ?_)
        refine l_nil ?_
        refine x_seq ?_
        refine c_ret ?_
        refine x_seqR ?_
        refine x_blkR ?_
        refine x_seqR ?_
        refine x_seqR ?_
        refine x_blkR ?_
        refine x_seqR ?_
        refine x_ret2 rfl rfl rfl ?_
        exact ⟨.inr ⟨by rw [atF_bad hg]; rfl, i, hil, instF_bad hik hm hnb hg⟩, hE⟩
      have hg : (rowB bs[k].to && isWordB l[i].name) = true := by
        rcases hbb : (rowB bs[k].to && isWordB l[i].name) with _ | _
        · rw [atF_bad hbb] at hat; exact absurd hat (by decide)
        · rfl
      refine c_skip ?_
      refine x_seq ?_
      refine c_seq ?_
      refine c_reg ?_
      refine l_cons (o_p tbOk rfl rfl rfl ?_)
      refine l_cons (o_ld tbOk (h10.cell 0 _ rfl) rfl rfl rfl rfl rfl ?_)
      refine l_cons (o_p tbOk rfl rfl rfl ?_)
      refine l_cons (o_ld tbOk (h8.cell 0 _ rfl) rfl rfl rfl rfl rfl ?_)
      refine l_cons (o_ar (z := wadd (atF bs[k].to l[i].name).1.base l[i].base) rfl rfl rfl rfl rfl rfl ?_)
      refine l_cons (o_p tbOk rfl rfl rfl ?_)
      refine l_cons (o_st tbOk h10.box rfl rfl rfl rfl (by simp [Value.cells, Value.oneCell']) rfl rfl ?_)
      intro w10 hw10 qw10 bew10
      have uw10 : UpdB _ _ _ := ⟨qw10, bew10⟩
      have sw10 := uw10.stp h10.inM hlow h10.ge
      have frw10 := qw10.2
      replace ho := ho.stp sw10 (fun x hx => frw10 x (ho.lt x hx).2 (d_ho_h10 x hx))
      replace hE := hE.trans sw10.below
      replace hb := hb.stp sw10
      replace h8 := h8.stp sw10
      replace hrx := Rep.stp hrx sw10
      replace hyx := Rep.stp hyx sw10
      replace hatx := hatx.stp sw10
      replace hsub := fun b h => sw10.sub b (hsub b h)
      replace hlow := sw10.low
      replace hB := Nat.le_trans hB sw10.upd.1
      replace h10 : MB w.heap.size _ w10 b10 _ [.int .i64 (wadd (atF bs[k].to l[i].name).1.base l[i].base), .int .i64 ((atF bs[k].to l[i].name).1.var), .string (atF bs[k].to l[i].name).1.name] := ⟨hw10, h10.inM, h10.ge⟩
      refine l_nil ?_
      refine x_seq ?_
      refine c_reg ?_
      refine l_cons (o_p tbOk rfl rfl rfl ?_)
      refine l_cons (o_p tbOk rfl rfl rfl ?_)
      refine l_cons (o_lds tbOk (fun j v hv => h10.cell j v hv) rfl rfl rfl rfl rfl rfl ?_)
      refine l_cons (o_ixO tbOk ho (get_step hil hal) rfl rfl rfl rfl rfl rfl rfl rfl rfl ?_)
      intro ib2 iu2 hob2 hrs2 hats2
      have hqq := instF_good hik hm hnb hg
      have hqr : Rep.R (Rw.Add M1 b10) w10 (.agg #[.int .i64 (wadd (atF bs[k].to l[i].name).1.base l[i].base), .int .i64 ((atF bs[k].to l[i].name).1.var), .string (atF bs[k].to l[i].name).1.name]) (⟨wadd (atP (flatF bs[k].to).1 (flatF bs[k].to).2 l[i].name).base l[i].base, (atP (flatF bs[k].to).1 (flatF bs[k].to).2 l[i].name).var, (atP (flatF bs[k].to).1 (flatF bs[k].to).2 l[i].name).name⟩ : Pl) := by
        have e2 := atF_good hg
        have h64 := flat_n64 (spine_n64 _ _ hyx)
        have okq := atF_ok (name := l[i].name) h64 hzk okp.2.2
        refine ⟨by rw [e2], wrap_I64 _, ?_⟩
        rw [e2] at okq
        exact okq.2
      refine l_cons (o_stO tbOk ho hob2 (by rw [hdl]; omega) hqr hlow rfl rfl rfl rfl rfl rfl ?_)
      intro w11 hw11 sw11 frw11
      replace h10 := h10.stp sw11 (frw11 b10 h10.lt (fun e => d_ho_h10 _ hob2 e.symm))
      replace hE := hE.trans sw11.below
      replace hb := hb.stp sw11
      replace h8 := h8.stp sw11
      replace hrx := Rep.stp hrx sw11
      replace hyx := Rep.stp hyx sw11
      replace hatx := hatx.stp sw11
      replace hsub := fun b h => sw11.sub b (hsub b h)
      replace hlow := sw11.low
      replace hB := Nat.le_trans hB sw11.upd.1
      replace ho := hw11
      clear hw11
      refine l_nil ?_
      refine x_blk ?_
      refine x_seq ?_
      refine c_reg ?_
      refine l_cons (o_ar rfl rfl rfl (IntWalk.i64_in _ (by omega)) rfl rfl ?_)
      refine l_cons (o_p tbOk rfl rfl rfl ?_)
      refine l_nil ?_
      exact x_round3 (i + 1) (acc ++ [(⟨wadd (atP (flatF bs[k].to).1 (flatF bs[k].to).2 l[i].name).base l[i].base, (atP (flatF bs[k].to).1 (flatF bs[k].to).2 l[i].name).var, (atP (flatF bs[k].to).1 (flatF bs[k].to).2 l[i].name).name⟩ : Pl)]) ((Rw.Add M1 b10)) (subL_cons rfl (subL_cons rfl (subL_cons rfl (subL_cons rfl (subL_cons (get_num rfl (by omega)) (subL_nil)))))) ⟨by omega, hins.snoc hil hqq, by rw [← set_step hil hal]; exact ho, hb, hlow, hsub, hE, hB⟩ (by omega)
    refine o_new tbOk rfl rfl rfl ?_
    intro b10 w12 qb10 ew12 hb10
    have gS_b10 := Nat.le_trans hS.size (Nat.le_of_eq qb10.symm)
    replace hS := hS.then ew12
    have d_ho_h10 : ∀ x, (wv : Value).ownBlock = some x → x ≠ b10 := fun x hx => by have := (ho.lt x hx).2; omega
    have sw12 := Stp.add ew12 hlow hB (Nat.le_of_eq qb10.symm) hb10.lt
    have h10 : MB w.heap.size (Rw.Add M1 b10) w12 b10 23 [.int .i64 0, .int .i64 0, .string ⟨#[]⟩] := MB.mk' hb10 qb10 hB
    replace ho := ho.stp sw12 (fun x hx => ew12.block x (ho.lt x hx).2)
    replace hE := hE.trans sw12.below
    replace hb := hb.stp sw12
    replace h8 := h8.stp sw12
    replace hrx := Rep.stp hrx sw12
    replace hyx := Rep.stp hyx sw12
    replace hatx := hatx.stp sw12
    replace hsub := fun b h => sw12.sub b (hsub b h)
    replace hlow := sw12.low
    replace hB := Nat.le_trans hB sw12.upd.1
    refine ⟨hS, ?_⟩
    refine a_one 7 rfl (by kernel_rfl) (o_call fo17 rfl rfl rfl (at_spec bs[k].to l[i].name _ _ _ hyx okp.2.2 hlow hzk) ?_)
    rintro _ w13 ⟨rfl, ew13⟩
    replace hS := hS.then ew13
    replace ho := ho.ext hlow hB ew13
    replace h10 := h10.ext hlow hB ew13
    replace hE := hE.trans (Below.mono ew13 hB)
    replace hb := hb.ext ew13
    replace h8 := h8.ext ew13
    replace hrx := Rep.ext hrx ew13
    replace hyx := Rep.ext hyx ew13
    replace hatx := hatx.ext ew13
    replace hlow := hlow.ext ew13
    replace hB := Nat.le_trans hB ew13.size
    refine ⟨hS, ?_⟩
    refine a_p 8 tbOk rfl rfl rfl rfl (by kernel_rfl) (fun _ _ _ h => h) hS ?_
    refine a_p 9 tbOk rfl rfl rfl rfl (by kernel_rfl) (fun _ _ _ h => h) hS ?_
    refine a_p 10 tbOk rfl rfl rfl rfl (by kernel_rfl) (fun _ _ _ h => h) hS ?_
    refine a_one 12 rfl (by kernel_rfl) (o_st tbOk h10.box rfl rfl rfl rfl (by intro u hu; simp [Value.cells] at hu; rcases hu with rfl | rfl | rfl <;> rfl) rfl rfl ?_)
    intro w14 hw14 qw14 bew14
    have uw14 : UpdB _ _ _ := ⟨qw14, bew14⟩
    have sw14 := uw14.stp h10.inM hlow h10.ge
    have frw14 := qw14.2
    replace hS := Below.trans hS (bew14 _ gS_b10)
    replace ho := ho.stp sw14 (fun x hx => frw14 x (ho.lt x hx).2 (d_ho_h10 x hx))
    replace hE := hE.trans sw14.below
    replace hb := hb.stp sw14
    replace h8 := h8.stp sw14
    replace hrx := Rep.stp hrx sw14
    replace hyx := Rep.stp hyx sw14
    replace hatx := hatx.stp sw14
    replace hsub := fun b h => sw14.sub b (hsub b h)
    replace hlow := sw14.low
    replace hB := Nat.le_trans hB sw14.upd.1
    refine ⟨hS, ?_⟩
    replace h10 : MB w.heap.size _ w14 b10 _ [.int .i64 ((atF bs[k].to l[i].name).1.base), .int .i64 ((atF bs[k].to l[i].name).1.var), .string (atF bs[k].to l[i].name).1.name] := ⟨hw14, h10.inM, h10.ge⟩
    refine a_p 13 tbOk rfl rfl rfl rfl (by kernel_rfl) (fun _ _ _ h => h) hS ?_
    refine a_end (by kernel_rfl) ?_
    refine x_seq ?_
    refine c_seq ?_
    refine c_seq ?_
    refine c_reg ?_
    refine l_cons (o_p tbOk rfl rfl rfl ?_)
    refine l_cons (o_p tbOk rfl rfl rfl ?_)
    refine l_nil ?_
    refine x_seq ?_
    refine c_ifN _ rfl (fun hat => ?_) (fun hat => ?_)
    · have hg : (rowB bs[k].to && isWordB l[i].name) = false := by
        rcases hbb : (rowB bs[k].to && isWordB l[i].name) with _ | _
        · rfl
        · rw [atF_good hbb] at hat; exact absurd rfl hat
      refine c_seq ?_
      refine c_reg ?_
      refine l_cons (o_p tbOk rfl rfl rfl ?_)
      refine l_cons (o_p tbOk rfl rfl rfl ?_)
      refine l_cons (o_p tbOk rfl rfl rfl ?_)
      refine l_nil ?_
      refine x_seq ?_
      refine c_ret ?_
      refine x_seqR ?_
      refine x_blkR ?_
      refine x_seqR ?_
      refine x_seqR ?_
      refine x_blkR ?_
      refine x_seqR ?_
      refine x_ret2 rfl rfl rfl ?_
      exact ⟨.inr ⟨by rw [atF_bad hg]; rfl, i, hil, instF_bad hik hm hnb hg⟩, hE⟩
    have hg : (rowB bs[k].to && isWordB l[i].name) = true := by
      rcases hbb : (rowB bs[k].to && isWordB l[i].name) with _ | _
      · rw [atF_bad hbb] at hat; exact absurd hat (by decide)
      · rfl
    refine c_skip ?_
    refine x_seq ?_
    refine c_seq ?_
    refine c_reg ?_
    refine l_cons (o_p tbOk rfl rfl rfl ?_)
    refine l_cons (o_ld tbOk (h10.cell 0 _ rfl) rfl rfl rfl rfl rfl ?_)
    refine l_cons (o_p tbOk rfl rfl rfl ?_)
    refine l_cons (o_ld tbOk (h8.cell 0 _ rfl) rfl rfl rfl rfl rfl ?_)
    refine l_cons (o_ar (z := wadd (atF bs[k].to l[i].name).1.base l[i].base) rfl rfl rfl rfl rfl rfl ?_)
    refine l_cons (o_p tbOk rfl rfl rfl ?_)
    refine l_cons (o_st tbOk h10.box rfl rfl rfl rfl (by simp [Value.cells, Value.oneCell']) rfl rfl ?_)
    intro w15 hw15 qw15 bew15
    have uw15 : UpdB _ _ _ := ⟨qw15, bew15⟩
    have sw15 := uw15.stp h10.inM hlow h10.ge
    have frw15 := qw15.2
    replace ho := ho.stp sw15 (fun x hx => frw15 x (ho.lt x hx).2 (d_ho_h10 x hx))
    replace hE := hE.trans sw15.below
    replace hb := hb.stp sw15
    replace h8 := h8.stp sw15
    replace hrx := Rep.stp hrx sw15
    replace hyx := Rep.stp hyx sw15
    replace hatx := hatx.stp sw15
    replace hsub := fun b h => sw15.sub b (hsub b h)
    replace hlow := sw15.low
    replace hB := Nat.le_trans hB sw15.upd.1
    replace h10 : MB w.heap.size _ w15 b10 _ [.int .i64 (wadd (atF bs[k].to l[i].name).1.base l[i].base), .int .i64 ((atF bs[k].to l[i].name).1.var), .string (atF bs[k].to l[i].name).1.name] := ⟨hw15, h10.inM, h10.ge⟩
    refine l_nil ?_
    refine x_seq ?_
    refine c_reg ?_
    refine l_cons (o_p tbOk rfl rfl rfl ?_)
    refine l_cons (o_p tbOk rfl rfl rfl ?_)
    refine l_cons (o_lds tbOk (fun j v hv => h10.cell j v hv) rfl rfl rfl rfl rfl rfl ?_)
    refine l_cons (o_ixO tbOk ho (get_step hil hal) rfl rfl rfl rfl rfl rfl rfl rfl rfl ?_)
    intro ib2 iu2 hob2 hrs2 hats2
    have hqq := instF_good hik hm hnb hg
    have hqr : Rep.R (Rw.Add M1 b10) w15 (.agg #[.int .i64 (wadd (atF bs[k].to l[i].name).1.base l[i].base), .int .i64 ((atF bs[k].to l[i].name).1.var), .string (atF bs[k].to l[i].name).1.name]) (⟨wadd (atP (flatF bs[k].to).1 (flatF bs[k].to).2 l[i].name).base l[i].base, (atP (flatF bs[k].to).1 (flatF bs[k].to).2 l[i].name).var, (atP (flatF bs[k].to).1 (flatF bs[k].to).2 l[i].name).name⟩ : Pl) := by
      have e2 := atF_good hg
      have h64 := flat_n64 (spine_n64 _ _ hyx)
      have okq := atF_ok (name := l[i].name) h64 hzk okp.2.2
      refine ⟨by rw [e2], wrap_I64 _, ?_⟩
      rw [e2] at okq
      exact okq.2
    refine l_cons (o_stO tbOk ho hob2 (by rw [hdl]; omega) hqr hlow rfl rfl rfl rfl rfl rfl ?_)
    intro w16 hw16 sw16 frw16
    replace h10 := h10.stp sw16 (frw16 b10 h10.lt (fun e => d_ho_h10 _ hob2 e.symm))
    replace hE := hE.trans sw16.below
    replace hb := hb.stp sw16
    replace h8 := h8.stp sw16
    replace hrx := Rep.stp hrx sw16
    replace hyx := Rep.stp hyx sw16
    replace hatx := hatx.stp sw16
    replace hsub := fun b h => sw16.sub b (hsub b h)
    replace hlow := sw16.low
    replace hB := Nat.le_trans hB sw16.upd.1
    replace ho := hw16
    clear hw16
    refine l_nil ?_
    refine x_blk ?_
    refine x_seq ?_
    refine c_reg ?_
    refine l_cons (o_ar rfl rfl rfl (IntWalk.i64_in _ (by omega)) rfl rfl ?_)
    refine l_cons (o_p tbOk rfl rfl rfl ?_)
    refine l_nil ?_
    exact x_round3 (i + 1) (acc ++ [(⟨wadd (atP (flatF bs[k].to).1 (flatF bs[k].to).2 l[i].name).base l[i].base, (atP (flatF bs[k].to).1 (flatF bs[k].to).2 l[i].name).var, (atP (flatF bs[k].to).1 (flatF bs[k].to).2 l[i].name).name⟩ : Pl)]) ((Rw.Add M1 b10)) (subL_cons rfl (subL_cons rfl (subL_cons rfl (subL_cons rfl (subL_cons (get_num rfl (by omega)) (subL_nil)))))) ⟨by omega, hins.snoc hil hqq, by rw [← set_step hil hal]; exact ho, hb, hlow, hsub, hE, hB⟩ (by omega)
  refine c_exit ?_
  refine x_seqE ?_
  refine x_seqE ?_
  refine x_blkE ?_
  refine x_seq ?_
  refine c_seq ?_
  refine c_reg ?_
  refine l_cons (o_p tbOk rfl rfl rfl ?_)
  refine l_cons (o_p tbOk rfl rfl rfl ?_)
  refine l_cons (o_p tbOk rfl rfl rfl ?_)
  refine l_nil ?_
  refine x_seq ?_
  refine c_ret ?_
  refine x_ret2 rfl rfl rfl ?_
  obtain rfl : i = l.length := by omega
  rw [List.take_of_length_le (Nat.le_refl _)] at hins
  rw [List.drop_length, List.append_nil] at ho
  exact ⟨.inl ⟨_, acc, rfl, hins, ho.sl (by omega) hlow0 hsub⟩, hE⟩

end Go.Proofs.Ytohfnpmehgpphaa
