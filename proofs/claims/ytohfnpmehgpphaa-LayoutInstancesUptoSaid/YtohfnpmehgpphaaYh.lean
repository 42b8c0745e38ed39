/- Walks: the law LayoutInstances. Printed by wip/walks/layout6.py. -/
import Derived.Test.YtohfnpmehgpphaaYg
namespace Go.Proofs.Ytohfnpmehgpphaa
open Go Rw Go.RowKit
set_option maxRecDepth 100000

/-- LayoutInstances: true. -/
theorem layoutInstances_spec (l : List Pl) (bs : List Bnd) (M : Nat → Prop) (w : World) (v u : Value) (hs : Sl M w v l) (hb : Sl M w u bs) (hz : ∀ b ∈ bs, psz b.to ≤ 2000000) (hlow0 : Low M w) :
    Calls Try.prog 5 #[v, u] w (Ret fun r w' => r = .bool true ∧ Ext w w') := by
  have hlow := hlow0
  have hB : w.heap.size ≤ w.heap.size := Nat.le_refl _
  have hE : Below w.heap.size w w := Below.refl _ _
  have hsub : ∀ b, M b → M b := fun _ h => h
  have hL := hs.lt
  have hL2 := hb.lt
  refine c_enter (n := 145) Try.func5 rfl rfl rfl ?_
  refine c_seq ?_
  refine c_reg ?_
  refine l_cons (o_p tbOk rfl rfl rfl ?_)
  refine l_nil ?_
  refine x_seq ?_
  refine c_seq ?_
  refine c_seq ?_
  refine c_reg ?_
  refine l_cons (o_call fo12 rfl rfl rfl (alive_spec M _ hlow) ?_)
  rintro _ w1 ⟨rfl, ew1⟩
  replace hE := hE.trans (Below.mono ew1 hB)
  replace hs := hs.ext ew1
  replace hb := hb.ext ew1
  replace hlow := hlow.ext ew1
  replace hB := Nat.le_trans hB ew1.size
  refine l_cons (o_p tbOk rfl rfl rfl ?_)
  refine l_nil ?_
  refine x_seq ?_
  refine c_ifB _ rfl (fun c1 => ?_) (fun c1 => ?_)
  · exact absurd c1 (by simp)
  · refine c_skip ?_
    refine x_seq ?_
    refine c_seq ?_
    refine c_seq ?_
    refine c_reg ?_
    refine l_cons (o_p tbOk rfl rfl rfl ?_)
    refine l_cons (o_len tbOk hs rfl rfl rfl rfl rfl ?_)
    refine l_cons (o_p tbOk rfl rfl rfl ?_)
    refine l_cons (o_p tbOk rfl rfl rfl ?_)
    refine l_splitP 20 _ rfl (fun c2 => ?_) (fun c2 => ?_)
    · refine l_cons (o_skip rfl rfl ?_)
      refine l_cons (o_skip rfl rfl ?_)
      refine l_cons (o_skip rfl rfl ?_)
      refine l_cons (o_p tbOk rfl rfl rfl ?_)
      refine l_nil ?_
      refine x_seq ?_
      refine c_ifT rfl ?_
      refine c_seq ?_
      refine c_reg ?_
      refine l_cons (o_p tbOk rfl rfl rfl ?_)
      refine l_nil ?_
      refine x_seq ?_
      refine c_ret ?_
      refine x_seqR ?_
      refine x_ret1 rfl rfl ?_
      exact ⟨by simp, hE⟩
    · refine l_cons (o_p tbOk rfl rfl rfl ?_)
      refine l_cons (o_len tbOk hb rfl rfl rfl rfl rfl ?_)
      refine l_cons (o_p tbOk rfl rfl rfl ?_)
      refine l_cons (o_p tbOk rfl rfl rfl ?_)
      refine l_nil ?_
      refine x_seq ?_
      refine c_ifP _ rfl (fun c3 => ?_) (fun c3 => ?_)
      · refine c_seq ?_
        refine c_reg ?_
        refine l_cons (o_p tbOk rfl rfl rfl ?_)
        refine l_nil ?_
        refine x_seq ?_
        refine c_ret ?_
        refine x_seqR ?_
        refine x_ret1 rfl rfl ?_
        exact ⟨by simp, hE⟩
      · refine c_skip ?_
        refine x_seq ?_
        refine c_seq ?_
        refine c_seq ?_
        refine c_reg ?_
        refine l_cons (o_p tbOk rfl rfl rfl ?_)
        refine l_nil ?_
        refine x_seq ?_
        refine c_blk ?_
        have hl30 : l.length ≤ 30 := by omega
        refine c_loop (X := Nat) (fun i => [(0, v), (1, u), (5, .int .i64 (i : Nat))]) (fun i w' => i ≤ bs.length ∧ Sl M w' v l ∧ Sl M w' u bs ∧ Low M w' ∧ (∀ b, M b → M b) ∧ Below w.heap.size w w' ∧ w.heap.size ≤ w'.heap.size) (fun i => bs.length - i) (0) (subL_cons rfl (subL_cons rfl (subL_cons rfl (subL_nil)))) ?_ ?_
        · exact ⟨Nat.zero_le _, hs, hb, hlow, hsub, hE, hB⟩
        rintro i w2 ⟨hi, hs, hb, hlow, hsub, hE, hB⟩
        refine c_seq ?_
        refine c_seq ?_
        refine c_reg ?_
        refine l_cons (o_p tbOk rfl rfl rfl ?_)
        refine l_cons (o_p tbOk rfl rfl rfl ?_)
        refine l_cons (o_len tbOk hb rfl rfl rfl rfl rfl ?_)
        refine l_cons (o_p tbOk rfl rfl rfl ?_)
        refine l_nil ?_
        refine x_seq ?_
        refine c_ifP _ rfl (fun c4 => ?_) (fun c4 => ?_)
        · have hib : i < bs.length := by omega
          refine c_skip ?_
          refine x_seq ?_
          refine c_seq ?_
          refine c_blk ?_
          refine c_seq ?_
          refine c_reg ?_
          refine l_cons (o_p tbOk rfl rfl rfl ?_)
          refine l_cons (o_p tbOk rfl rfl rfl ?_)
          refine l_cons (o_ixS tbOk hb (List.getElem?_eq_getElem hib) rfl rfl rfl rfl rfl rfl rfl rfl rfl ?_)
          intro ebz eoz euz hrz hatz
          obtain ⟨bnz, kvz, rfl, hyz⟩ := bnd_open hrz
          replace hatz : At _ w2 ebz eoz [.int .i64 bs[i].n, .int .u8 bs[i].to.op, .string bs[i].to.name, .int .i64 bs[i].to.n, kvz] := hatz
          refine l_cons (o_p tbOk rfl rfl rfl ?_)
          refine l_cons (o_lds tbOk (fun j v hv => (hatz).drop 1 (sub := [.int .u8 bs[i].to.op, .string bs[i].to.name, .int .i64 bs[i].to.n, kvz]) rfl j v hv) rfl rfl rfl rfl rfl rfl ?_)
          refine l_cons (o_call fo15 rfl rfl rfl (many18_spec bs[i].to _ _ _ hyz hlow (hz _ (List.getElem_mem hib))) ?_)
          rintro _ w3 ⟨rfl, ew3⟩
          replace hE := hE.trans (Below.mono ew3 hB)
          replace hs := hs.ext ew3
          replace hb := hb.ext ew3
          replace hrz := Rep.ext hrz ew3
          replace hyz := Rep.ext hyz ew3
          replace hatz := hatz.ext ew3
          replace hlow := hlow.ext ew3
          replace hB := Nat.le_trans hB ew3.size
          refine l_nil ?_
          refine x_seq ?_
          refine c_if _ rfl (fun c5 => ?_) (fun c5 => ?_)
          · refine c_seq ?_
            refine c_reg ?_
            refine l_cons (o_p tbOk rfl rfl rfl ?_)
            refine l_nil ?_
            refine x_seq ?_
            refine c_ret ?_
            refine x_blkR ?_
            refine x_seqR ?_
            refine x_seqR ?_
            refine x_blkR ?_
            refine x_seqR ?_
            refine x_ret1 rfl rfl ?_
            exact ⟨by simp, hE⟩
          · refine c_skip ?_
            refine x_blk ?_
            refine x_seq ?_
            refine c_reg ?_
            refine l_cons (o_p tbOk rfl rfl rfl ?_)
            refine l_cons (o_ar rfl rfl rfl (IntWalk.i64_in _ (by omega)) rfl rfl ?_)
            refine l_cons (o_p tbOk rfl rfl rfl ?_)
            refine l_nil ?_
            exact x_round (i + 1) (subL_cons rfl (subL_cons rfl (subL_cons (get_num rfl (by omega)) (subL_nil)))) ⟨by omega, hs, hb, hlow, hsub, hE, hB⟩ (by omega)
        · clear c4 hi
          refine c_exit ?_
          refine x_seqE ?_
          refine x_seqE ?_
          refine x_blkE ?_
          refine x_seq ?_
          refine c_seq ?_
          refine c_reg ?_
          refine l_cons (o_p tbOk rfl rfl rfl ?_)
          refine l_cons (o_p tbOk rfl rfl rfl ?_)
          refine l_cons (o_call fo25 rfl rfl rfl (instance_spec l bs _ _ _ _ hs hb hlow (by omega) hz) ?_)
          rintro r w4 ⟨hr, ew4⟩
          obtain ⟨x, k, c, rfl, hx, hres⟩ : ∃ x k, ∃ c : Int, r = .tuple #[x, .int .u8 c] ∧ Sl M w4 x k ∧ ((c = 0 ∧ Ins bs l k) ∨ (c = 1 ∧ k = [] ∧ InsE bs l)) := by
            rcases hr with ⟨x, k, rfl, h1, h2⟩ | ⟨rfl, h1⟩
            · exact ⟨x, k, 0, rfl, h2, .inl ⟨rfl, h1⟩⟩
            · exact ⟨_, [], 1, rfl, sl_nil, .inr ⟨rfl, rfl, h1⟩⟩
          have hc01 : c = 0 ∨ c = 1 := by rcases hres with ⟨h, _⟩ | ⟨h, _⟩ <;> omega
          replace hE := hE.trans (Below.mono ew4 hB)
          replace hs := hs.ext ew4
          replace hb := hb.ext ew4
          replace hlow := hlow.ext ew4
          replace hB := Nat.le_trans hB ew4.size
          refine l_cons (o_p tbOk rfl rfl rfl ?_)
          refine l_cons (o_p tbOk rfl rfl rfl ?_)
          refine l_cons (o_p tbOk rfl rfl rfl ?_)
          refine l_cons (o_p tbOk rfl rfl rfl ?_)
          refine l_cons (o_p tbOk rfl rfl rfl ?_)
          refine l_nil ?_
          refine x_seq ?_
          refine c_seq ?_
          refine c_reg ?_
          refine l_cons (o_p tbOk rfl rfl rfl ?_)
          refine l_nil ?_
          refine x_seq ?_
          refine c_seq ?_
          refine c_reg ?_
          refine l_cons (o_p tbOk rfl rfl rfl ?_)
          refine l_nil ?_
          refine x_seq ?_
          refine c_seq ?_
          refine c_seq ?_
          refine c_reg ?_
          refine l_cons (o_p tbOk rfl rfl rfl ?_)
          refine l_nil ?_
          refine x_seq ?_
          refine c_blk ?_
          refine c_loop5 (X := Nat) (Y := Int) (Z := Value) (U := List Pl) (V := Nat → Prop) (fun i code wv want M1 => [(0, v), (1, u), (6, x), (7, .int .u8 c), (8, wv), (9, .int .i64 code), (10, .int .i64 (i : Nat))]) (fun i code wv want M1 w' => i ≤ l.length ∧ want.length = i ∧ ((code = 0 ∧ Ins bs (l.take i) want) ∨ (code = 1 ∧ InsE bs l)) ∧ OwnSl 35 w.heap.size M1 w' wv want ∧ Sl M1 w' v l ∧ Sl M1 w' u bs ∧ Sl M1 w' x k ∧ Low M1 w' ∧ (∀ b, M b → M1 b) ∧ Below w.heap.size w w' ∧ w.heap.size ≤ w'.heap.size) (fun i code wv want M1 => l.length - i) (0) (0) (.slice none 0 0) ([]) (M) (subL_cons rfl (subL_cons rfl (subL_cons rfl (subL_cons rfl (subL_cons rfl (subL_cons rfl (subL_cons rfl (subL_nil)))))))) ?_ ?_
          · exact ⟨Nat.zero_le _, rfl, .inl ⟨rfl, Ins.nil bs⟩, own_nil, hs, hb, hx, hlow, hsub, hE, hB⟩
          rintro i code wv want M1 w5 ⟨hi, hwl, hst, ho, hs, hb, hx, hlow, hsub, hE, hB⟩
          refine c_seq ?_
          refine c_seq ?_
          refine c_reg ?_
          refine l_cons (o_p tbOk rfl rfl rfl ?_)
          refine l_cons (o_p tbOk rfl rfl rfl ?_)
          refine l_cons (o_len tbOk hs rfl rfl rfl rfl rfl ?_)
          refine l_cons (o_p tbOk rfl rfl rfl ?_)
          refine l_cons (o_p tbOk rfl rfl rfl ?_)
          refine l_splitP 47 _ rfl (fun hc => ?_) (fun hc => ?_)
          · have hil : i < l.length := by omega
            refine l_cons (o_p tbOk rfl rfl rfl ?_)
            refine l_cons (o_p tbOk rfl rfl rfl ?_)
            refine l_cons (o_p tbOk rfl rfl rfl ?_)
            refine l_nil ?_
            refine x_seq ?_
            refine c_ifP _ rfl (fun hcode => ?_) (fun hcode => ?_)
            · refine c_skip ?_
              refine x_seq ?_
              refine c_seq ?_
              refine c_blk ?_
              refine c_seq ?_
              refine c_reg ?_
              refine l_cons (o_p tbOk rfl rfl rfl ?_)
              refine l_cons (o_p tbOk rfl rfl rfl ?_)
              refine l_cons (o_ixS tbOk hs (List.getElem?_eq_getElem hil) rfl rfl rfl rfl rfl rfl rfl rfl rfl ?_)
              intro ebx eox eux hrx hatx
              obtain ⟨rfl, okx⟩ := hrx
              replace okx : PlOk l[i] := okx
              replace hatx : At _ w5 ebx eox [.int .i64 (l[i].base), .int .i64 (l[i].var), .string l[i].name] := hatx
              refine l_cons (o_lds tbOk (fun j v hv => hatx.cell j v hv) rfl rfl rfl rfl rfl rfl ?_)
              refine l_cons (o_new tbOk rfl rfl rfl ?_)
              intro b11 w6 qb11 ew6 hb11
              have d_ho_h11 : ∀ x, (wv : Value).ownBlock = some x → x ≠ b11 := fun x hx => by have := (ho.lt x hx).2; omega
              have sw6 := Stp.add ew6 hlow hB (Nat.le_of_eq qb11.symm) hb11.lt
              have h11 : MB w.heap.size (Rw.Add M1 b11) w6 b11 35 [.int .i64 0, .int .i64 0, .string ⟨#[]⟩] := MB.mk' hb11 qb11 hB
              replace ho := ho.stp sw6 (fun x hx => ew6.block x (ho.lt x hx).2)
              replace hE := hE.trans sw6.below
              replace hs := hs.stp sw6
              replace hb := hb.stp sw6
              replace hx := hx.stp sw6
              replace hatx := hatx.stp sw6
              replace hsub := fun b h => sw6.sub b (hsub b h)
              replace hlow := sw6.low
              replace hB := Nat.le_trans hB sw6.upd.1
              refine l_cons (o_st tbOk h11.box rfl rfl rfl rfl (by intro u hu; simp [Value.cells] at hu; rcases hu with rfl | rfl | rfl <;> rfl) rfl rfl ?_)
              intro w7 hw7 qw7 bew7
              have uw7 : UpdB _ _ _ := ⟨qw7, bew7⟩
              have sw7 := uw7.stp h11.inM hlow h11.ge
              have frw7 := qw7.2
              replace ho := ho.stp sw7 (fun x hx => frw7 x (ho.lt x hx).2 (d_ho_h11 x hx))
              replace hE := hE.trans sw7.below
              replace hs := hs.stp sw7
              replace hb := hb.stp sw7
              replace hx := hx.stp sw7
              replace hatx := hatx.stp sw7
              replace hsub := fun b h => sw7.sub b (hsub b h)
              replace hlow := sw7.low
              replace hB := Nat.le_trans hB sw7.upd.1
              replace h11 : MB w.heap.size _ w7 b11 _ [.int .i64 (l[i].base), .int .i64 (l[i].var), .string l[i].name] := ⟨hw7, h11.inM, h11.ge⟩
              refine l_nil ?_
              refine x_seq ?_
              refine c_seq ?_
              refine c_seq ?_
              refine c_reg ?_
              refine l_cons (o_p tbOk rfl rfl rfl ?_)
              refine l_cons (o_ld tbOk (h11.cell 0 _ rfl) rfl rfl rfl rfl rfl ?_)
              refine l_cons (o_p tbOk rfl rfl rfl ?_)
              refine l_cons (o_p tbOk rfl rfl rfl ?_)
              refine l_splitP 60 _ rfl (fun c8 => ?_) (fun c8 => ?_)
              · refine l_cons (o_skip rfl rfl ?_)
                refine l_cons (o_skip rfl rfl ?_)
                refine l_cons (o_skip rfl rfl ?_)
                refine l_cons (o_p tbOk rfl rfl rfl ?_)
                refine l_nil ?_
                refine x_seq ?_
                refine c_ifT rfl ?_
                refine c_seq ?_
                refine c_reg ?_
                refine l_cons (o_p tbOk rfl rfl rfl ?_)
                refine l_nil ?_
                refine x_seq ?_
                refine c_ret ?_
                refine x_seqR ?_
                refine x_blkR ?_
                refine x_seqR ?_
                refine x_seqR ?_
                refine x_blkR ?_
                refine x_seqR ?_
                refine x_ret1 rfl rfl ?_
                exact ⟨by simp, hE⟩
              · refine l_cons (o_p tbOk rfl rfl rfl ?_)
                refine l_cons (o_ld tbOk (h11.cell 0 _ rfl) rfl rfl rfl rfl rfl ?_)
                refine l_cons (o_p tbOk rfl rfl rfl ?_)
                refine l_cons (o_p tbOk rfl rfl rfl ?_)
                refine l_nil ?_
                refine x_seq ?_
                refine c_ifP _ rfl (fun c9 => ?_) (fun c9 => ?_)
                · refine c_seq ?_
                  refine c_reg ?_
                  refine l_cons (o_p tbOk rfl rfl rfl ?_)
                  refine l_nil ?_
                  refine x_seq ?_
                  refine c_ret ?_
                  refine x_seqR ?_
                  refine x_blkR ?_
                  refine x_seqR ?_
                  refine x_seqR ?_
                  refine x_blkR ?_
                  refine x_seqR ?_
                  refine x_ret1 rfl rfl ?_
                  exact ⟨by simp, hE⟩
                · refine c_skip ?_
                  refine x_seq ?_
                  refine c_seq ?_
                  refine c_seq ?_
                  refine c_reg ?_
                  refine l_cons (o_p tbOk rfl rfl rfl ?_)
                  refine l_nil ?_
                  refine x_seq ?_
                  refine c_blk ?_
                  subst hcode
                  have hins : Ins bs (l.take i) want := by
                    rcases hst with ⟨_, h⟩ | ⟨h, _⟩
                    · exact h
                    · exact absurd h (by decide)
                  have hnear : Near l[i].base := ⟨by omega, by omega⟩
                  refine c_loop (X := Nat) (fun k2 => [(0, v), (1, u), (6, x), (7, .int .u8 c), (8, wv), (9, .int .i64 0), (10, .int .i64 (i : Nat)), (11, .pointer (some ⟨b11, 0, none⟩)), (12, .int .i64 (k2 : Nat))]) (fun k2 w' => k2 ≤ bs.length ∧ (∀ (j : Nat) (x : Bnd), j < k2 → bs[j]? = some x → bindM l[i] x = false) ∧ MB w.heap.size (Rw.Add M1 b11) w' b11 35 [.int .i64 (l[i].base), .int .i64 (l[i].var), .string l[i].name] ∧ OwnSl 35 w.heap.size (Rw.Add M1 b11) w' wv want ∧ Sl (Rw.Add M1 b11) w' v l ∧ Sl (Rw.Add M1 b11) w' u bs ∧ Sl (Rw.Add M1 b11) w' x k ∧ Low (Rw.Add M1 b11) w' ∧ (∀ b, M b → (Rw.Add M1 b11) b) ∧ Below w.heap.size w w' ∧ w.heap.size ≤ w'.heap.size) (fun k2 => bs.length - k2) (0) (subL_cons rfl (subL_cons rfl (subL_cons rfl (subL_cons rfl (subL_cons rfl (subL_cons rfl (subL_cons rfl (subL_cons rfl (subL_cons rfl (subL_nil)))))))))) ?_ ?_
                  · exact ⟨Nat.zero_le _, fun j x h => by omega, h11, ho, hs, hb, hx, hlow, hsub, hE, hB⟩
                  rintro k2 w8 ⟨hk2, hnb, h11, ho, hs, hb, hx, hlow, hsub, hE, hB⟩
                  refine c_seq ?_
                  refine c_seq ?_
                  refine c_reg ?_
                  refine l_cons (o_p tbOk rfl rfl rfl ?_)
                  refine l_cons (o_p tbOk rfl rfl rfl ?_)
                  refine l_cons (o_len tbOk hb rfl rfl rfl rfl rfl ?_)
                  refine l_cons (o_p tbOk rfl rfl rfl ?_)
                  refine l_nil ?_
                  refine x_seq ?_
                  refine c_ifP _ rfl (fun c10 => ?_) (fun c10 => ?_)
                  · have hkl : k2 < bs.length := by omega
                    refine c_skip ?_
                    refine x_seq ?_
                    refine c_seq ?_
                    refine c_blk ?_
                    refine c_seq ?_
                    refine c_seq ?_
                    refine a_beg Ext rfl ?_
                    intro w9 ew9
                    replace h11 := h11.ext hlow hB ew9
                    replace ho := ho.ext hlow hB ew9
                    replace hE := hE.trans (Below.mono ew9 hB)
                    replace hs := hs.ext ew9
                    replace hb := hb.ext ew9
                    replace hx := hx.ext ew9
                    replace hlow := hlow.ext ew9
                    replace hB := Nat.le_trans hB ew9.size
                    have hS : Ext w9 w9 := ext_refl _
                    have D_h11 := h11.box
                    have D_hs := hs
                    have D_hb := hb
                    have D_hx := hx
                    refine a_p 0 tbOk rfl rfl rfl rfl (by kernel_rfl) (fun _ _ _ h => h) hS ?_
                    refine a_ld 1 tbOk (fun _ hs => (D_h11.ext hs).cell 1 _ rfl) rfl rfl rfl rfl rfl rfl (by kernel_rfl) (fun _ _ _ h => h) hS ?_
                    refine a_p 2 tbOk rfl rfl rfl rfl (by kernel_rfl) (fun _ _ _ h => h) hS ?_
                    refine a_p 3 tbOk rfl rfl rfl rfl (by kernel_rfl) (fun _ _ _ h => h) hS ?_
                    refine a_splitP 74 _ rfl (fun c11 => ?_) (fun c11 => ?_)
                    · refine a_skip 4 rfl rfl rfl (by kernel_rfl) (fun _ _ _ h => h) hS ?_
                      refine a_skip 5 rfl rfl rfl (by kernel_rfl) (fun _ _ _ h => h) hS ?_
                      refine a_skip 6 rfl rfl rfl (by kernel_rfl) (fun _ _ _ h => h) hS ?_
                      refine a_skip 7 rfl rfl rfl (by kernel_rfl) (fun _ _ _ h => h) hS ?_
                      refine a_skip 8 rfl rfl rfl (by kernel_rfl) (fun _ _ _ h => h) hS ?_
                      refine a_skip 9 rfl rfl rfl (by kernel_rfl) (fun _ _ _ h => h) hS ?_
                      refine a_skip 10 rfl rfl rfl (by kernel_rfl) (fun _ _ _ h => h) hS ?_
                      refine a_skip 11 rfl rfl rfl (by kernel_rfl) (fun _ _ _ h => h) hS ?_
                      refine a_p 12 tbOk rfl rfl rfl rfl (by kernel_rfl) (fun _ _ _ h => h) hS ?_
                      refine a_end (by kernel_rfl) ?_
                      refine x_seq ?_
                      refine c_ifT rfl ?_
                      refine c_exit ?_
                      refine x_seqE ?_
                      refine x_blkE ?_
                      refine x_seq ?_
                      refine c_reg ?_
                      refine l_cons (o_p tbOk rfl rfl rfl ?_)
                      refine l_cons (o_ar rfl rfl rfl (IntWalk.i64_in _ (by omega)) rfl rfl ?_)
                      refine l_cons (o_p tbOk rfl rfl rfl ?_)
                      refine l_nil ?_
                      exact x_round (k2 + 1) (subL_cons rfl (subL_cons rfl (subL_cons rfl (subL_cons rfl (subL_cons rfl (subL_cons rfl (subL_cons rfl (subL_cons rfl (subL_cons (get_num rfl (by omega)) (subL_nil)))))))))) ⟨by omega, bindM_step hkl hnb (by simp [bindM, *]), h11, ho, hs, hb, hx, hlow, hsub, hE, hB⟩ (by omega)
                    · refine a_p 4 tbOk rfl rfl rfl rfl (by kernel_rfl) (fun _ _ _ h => h) hS ?_
                      refine a_p 5 tbOk rfl rfl rfl rfl (by kernel_rfl) (fun _ _ _ h => h) hS ?_
                      refine a_ixS 6 tbOk D_hb (List.getElem?_eq_getElem hkl) rfl rfl rfl rfl rfl rfl rfl rfl rfl rfl (by kernel_rfl) (fun _ _ _ _ h => h) hS ?_
                      intro eby1 eoy1 euy1 hry1 haty1
                      obtain ⟨bny1, kvy1, rfl, hyy1⟩ := bnd_open hry1
                      replace haty1 : At _ w9 eby1 eoy1 [.int .i64 bs[k2].n, .int .u8 bs[k2].to.op, .string bs[k2].to.name, .int .i64 bs[k2].to.n, kvy1] := haty1
                      refine a_p 7 tbOk rfl rfl rfl rfl (by kernel_rfl) (fun _ _ _ h => h) hS ?_
                      refine a_ld 8 tbOk (fun _ hs => (haty1.ext hs).cell 0 _ rfl) rfl rfl rfl rfl rfl rfl (by kernel_rfl) (fun _ _ _ h => h) hS ?_
                      refine a_p 9 tbOk rfl rfl rfl rfl (by kernel_rfl) (fun _ _ _ h => h) hS ?_
                      refine a_ld 10 tbOk (fun _ hs => (D_h11.ext hs).cell 1 _ rfl) rfl rfl rfl rfl rfl rfl (by kernel_rfl) (fun _ _ _ h => h) hS ?_
                      refine a_p 11 tbOk rfl rfl rfl rfl (by kernel_rfl) (fun _ _ _ h => h) hS ?_
                      refine a_p 12 tbOk rfl rfl rfl rfl (by kernel_rfl) (fun _ _ _ h => h) hS ?_
                      refine a_end (by kernel_rfl) ?_
                      refine x_seq ?_
                      refine c_ifN _ rfl (fun c12 => ?_) (fun c12 => ?_)
                      · refine c_exit ?_
                        refine x_seqE ?_
                        refine x_blkE ?_
                        refine x_seq ?_
                        refine c_reg ?_
                        refine l_cons (o_p tbOk rfl rfl rfl ?_)
                        refine l_cons (o_ar rfl rfl rfl (IntWalk.i64_in _ (by omega)) rfl rfl ?_)
                        refine l_cons (o_p tbOk rfl rfl rfl ?_)
                        refine l_nil ?_
                        exact x_round (k2 + 1) (subL_cons rfl (subL_cons rfl (subL_cons rfl (subL_cons rfl (subL_cons rfl (subL_cons rfl (subL_cons rfl (subL_cons rfl (subL_cons (get_num rfl (by omega)) (subL_nil)))))))))) ⟨by omega, bindM_step hkl hnb (by simp [bindM, *]), h11, ho, hs, hb, hx, hlow, hsub, hE, hB⟩ (by omega)
                      · have hm : bindM l[i] bs[k2] = true := by simp [bindM, *]
                        have hzk := hz _ (List.getElem_mem hkl)
                        refine c_skip ?_
                        refine x_seq ?_
                        refine c_seq ?_
                        refine c_seq ?_
                        refine c_reg ?_
                        refine l_cons (o_p tbOk rfl rfl rfl ?_)
                        refine l_cons (o_ld tbOk (h11.cell 2 _ rfl) rfl rfl rfl rfl rfl ?_)
                        refine l_cons (o_call fo23 rfl rfl rfl (risWord_spec _ _ l[i].name okx.2.2 hlow) ?_)
                        rintro _ w10 ⟨rfl, ew10⟩
                        replace h11 := h11.ext hlow hB ew10
                        replace ho := ho.ext hlow hB ew10
                        replace hE := hE.trans (Below.mono ew10 hB)
                        replace hs := hs.ext ew10
                        replace hb := hb.ext ew10
                        replace hx := hx.ext ew10
                        replace hry1 := Rep.ext hry1 ew10
                        replace hyy1 := Rep.ext hyy1 ew10
                        replace haty1 := haty1.ext ew10
                        replace hlow := hlow.ext ew10
                        replace hB := Nat.le_trans hB ew10.size
                        refine l_cons (o_p tbOk rfl rfl rfl ?_)
                        refine l_cons (o_p tbOk rfl rfl rfl ?_)
                        refine l_splitB 88 _ rfl (fun cwd => ?_) (fun cwd => ?_)
                        · have hg : (rowB bs[k2].to && isWordB l[i].name) = false := by rw [cwd]; simp
                          refine l_cons (o_skip rfl rfl ?_)
                          refine l_cons (o_skip rfl rfl ?_)
                          refine l_cons (o_skip rfl rfl ?_)
                          refine l_cons (o_skip rfl rfl ?_)
                          refine l_cons (o_skip rfl rfl ?_)
                          refine l_cons (o_skip rfl rfl ?_)
                          refine l_cons (o_skip rfl rfl ?_)
                          refine l_cons (o_p tbOk rfl rfl rfl ?_)
                          refine l_nil ?_
                          refine x_seq ?_
                          refine c_ifT rfl ?_
                          refine c_seq ?_
                          refine c_reg ?_
                          refine l_cons (o_p tbOk rfl rfl rfl ?_)
                          refine l_nil ?_
                          refine x_seq ?_
                          refine c_exit ?_
                          refine x_seqE ?_
                          refine x_blkO rfl ?_
                          refine x_seqE ?_
                          refine x_seqE ?_
                          refine x_blkE ?_
                          refine x_seq ?_
                          refine c_reg ?_
                          refine l_cons (o_p tbOk rfl rfl rfl ?_)
                          refine l_cons (o_lds tbOk (fun j v hv => h11.cell j v hv) rfl rfl rfl rfl rfl rfl ?_)
                          refine l_cons (o_bs tbOk rfl rfl rfl rfl rfl rfl rfl (sz1 rfl) rfl rfl rfl ?_)
                          intro bw11 w11 qbw11 ew11 hbw11
                          have nbw11 := nM_of hlow qbw11
                          replace h11 := h11.ext hlow hB ew11
                          replace ho := ho.ext hlow hB ew11
                          replace hE := hE.trans (Below.mono ew11 hB)
                          replace hs := hs.ext ew11
                          replace hb := hb.ext ew11
                          replace hx := hx.ext ew11
                          replace hry1 := Rep.ext hry1 ew11
                          replace hyy1 := Rep.ext hyy1 ew11
                          replace haty1 := haty1.ext ew11
                          replace hlow := hlow.ext ew11
                          replace hB := Nat.le_trans hB ew11.size
                          refine l_cons (o_app1 tbOk ho hbw11 nbw11 (show Rep.R _ _ _ (l[i] : Pl) from ⟨rfl, okx⟩) hlow hB rfl rfl rfl rfl rfl rfl rfl (by omega) (by show (_ + _) * 32 ≤ _; omega) rfl rfl ?_)
                          intro vw12 w12 Mw12 hw12 sw12 frw12 blw12
                          have zd_ho_h11 := d_ho_h11
                          replace d_ho_h11 : ∀ x, (vw12 : Value).ownBlock = some x → x ≠ b11 := fun x hx => (blw12 x hx).elim (d_ho_h11 x) (fun h e => by have := h11.lt; omega)
                          replace h11 := h11.stp sw12 (frw12 b11 h11.lt (fun e => zd_ho_h11 _ e.symm rfl))
                          replace hE := hE.trans sw12.below
                          replace hs := hs.stp sw12
                          replace hb := hb.stp sw12
                          replace hx := hx.stp sw12
                          replace hry1 := Rep.stp hry1 sw12
                          replace hyy1 := Rep.stp hyy1 sw12
                          replace haty1 := haty1.stp sw12
                          replace hsub := fun b h => sw12.sub b (hsub b h)
                          replace hlow := sw12.low
                          replace hB := Nat.le_trans hB sw12.upd.1
                          replace ho := hw12
                          clear hw12
                          refine l_cons (o_p tbOk rfl rfl rfl ?_)
                          refine l_nil ?_
                          refine x_blk ?_
                          refine x_seq ?_
                          refine c_reg ?_
                          refine l_cons (o_p tbOk rfl rfl rfl ?_)
                          refine l_cons (o_ar rfl rfl rfl (IntWalk.i64_in _ (by omega)) rfl rfl ?_)
                          refine l_cons (o_p tbOk rfl rfl rfl ?_)
                          refine l_nil ?_
                          exact x_round5 (i + 1) (1) (vw12) (want ++ [l[i]]) (Mw12) (subL_cons rfl (subL_cons rfl (subL_cons rfl (subL_cons rfl (subL_cons rfl (subL_cons rfl (subL_cons (get_num rfl (by omega)) (subL_nil)))))))) ⟨by omega, by simp; omega, .inr ⟨rfl, i, hil, instF_bad hkl hm hnb hg⟩, ho, hs, hb, hx, hlow, hsub, hE, hB⟩ (by omega)
                        · refine l_cons (o_p tbOk rfl rfl rfl ?_)
                          refine l_cons (o_p tbOk rfl rfl rfl ?_)
                          refine l_cons (o_ixS tbOk hb (List.getElem?_eq_getElem hkl) rfl rfl rfl rfl rfl rfl rfl rfl rfl ?_)
                          intro eby2 eoy2 euy2 hry2 haty2
                          obtain ⟨bny2, kvy2, rfl, hyy2⟩ := bnd_open hry2
                          replace haty2 : At _ w10 eby2 eoy2 [.int .i64 bs[k2].n, .int .u8 bs[k2].to.op, .string bs[k2].to.name, .int .i64 bs[k2].to.n, kvy2] := haty2
                          refine l_cons (o_p tbOk rfl rfl rfl ?_)
                          refine l_cons (o_lds tbOk (fun j v hv => (haty2).drop 1 (sub := [.int .u8 bs[k2].to.op, .string bs[k2].to.name, .int .i64 bs[k2].to.n, kvy2]) rfl j v hv) rfl rfl rfl rfl rfl rfl ?_)
                          refine l_cons (o_call fo20 rfl rfl rfl (refRow_spec bs[k2].to _ _ _ hyy2 hlow hzk) ?_)
                          rintro _ w13 ⟨rfl, ew13⟩
                          replace h11 := h11.ext hlow hB ew13
                          replace ho := ho.ext hlow hB ew13
                          replace hE := hE.trans (Below.mono ew13 hB)
                          replace hs := hs.ext ew13
                          replace hb := hb.ext ew13
                          replace hx := hx.ext ew13
                          replace hry1 := Rep.ext hry1 ew13
                          replace hyy1 := Rep.ext hyy1 ew13
                          replace haty1 := haty1.ext ew13
                          replace hry2 := Rep.ext hry2 ew13
                          replace hyy2 := Rep.ext hyy2 ew13
                          replace haty2 := haty2.ext ew13
                          replace hlow := hlow.ext ew13
                          replace hB := Nat.le_trans hB ew13.size
                          refine l_cons (o_p tbOk rfl rfl rfl ?_)
                          refine l_cons (o_p tbOk rfl rfl rfl ?_)
                          refine l_nil ?_
                          refine x_seq ?_
                          refine c_ifB _ rfl (fun crow => ?_) (fun crow => ?_)
                          · have hg : (rowB bs[k2].to && isWordB l[i].name) = false := by rw [crow]; simp
                            refine c_seq ?_
                            refine c_reg ?_
                            refine l_cons (o_p tbOk rfl rfl rfl ?_)
                            refine l_nil ?_
                            refine x_seq ?_
                            refine c_exit ?_
                            refine x_seqE ?_
                            refine x_blkO rfl ?_
                            refine x_seqE ?_
                            refine x_seqE ?_
                            refine x_blkE ?_
                            refine x_seq ?_
                            refine c_reg ?_
                            refine l_cons (o_p tbOk rfl rfl rfl ?_)
                            refine l_cons (o_lds tbOk (fun j v hv => h11.cell j v hv) rfl rfl rfl rfl rfl rfl ?_)
                            refine l_cons (o_bs tbOk rfl rfl rfl rfl rfl rfl rfl (sz1 rfl) rfl rfl rfl ?_)
                            intro bw14 w14 qbw14 ew14 hbw14
                            have nbw14 := nM_of hlow qbw14
                            replace h11 := h11.ext hlow hB ew14
                            replace ho := ho.ext hlow hB ew14
                            replace hE := hE.trans (Below.mono ew14 hB)
                            replace hs := hs.ext ew14
                            replace hb := hb.ext ew14
                            replace hx := hx.ext ew14
                            replace hry1 := Rep.ext hry1 ew14
                            replace hyy1 := Rep.ext hyy1 ew14
                            replace haty1 := haty1.ext ew14
                            replace hry2 := Rep.ext hry2 ew14
                            replace hyy2 := Rep.ext hyy2 ew14
                            replace haty2 := haty2.ext ew14
                            replace hlow := hlow.ext ew14
                            replace hB := Nat.le_trans hB ew14.size
                            refine l_cons (o_app1 tbOk ho hbw14 nbw14 (show Rep.R _ _ _ (l[i] : Pl) from ⟨rfl, okx⟩) hlow hB rfl rfl rfl rfl rfl rfl rfl (by omega) (by show (_ + _) * 32 ≤ _; omega) rfl rfl ?_)
                            intro vw15 w15 Mw15 hw15 sw15 frw15 blw15
                            have zd_ho_h11 := d_ho_h11
                            replace d_ho_h11 : ∀ x, (vw15 : Value).ownBlock = some x → x ≠ b11 := fun x hx => (blw15 x hx).elim (d_ho_h11 x) (fun h e => by have := h11.lt; omega)
                            replace h11 := h11.stp sw15 (frw15 b11 h11.lt (fun e => zd_ho_h11 _ e.symm rfl))
                            replace hE := hE.trans sw15.below
                            replace hs := hs.stp sw15
                            replace hb := hb.stp sw15
                            replace hx := hx.stp sw15
                            replace hry1 := Rep.stp hry1 sw15
                            replace hyy1 := Rep.stp hyy1 sw15
                            replace haty1 := haty1.stp sw15
                            replace hry2 := Rep.stp hry2 sw15
                            replace hyy2 := Rep.stp hyy2 sw15
                            replace haty2 := haty2.stp sw15
                            replace hsub := fun b h => sw15.sub b (hsub b h)
                            replace hlow := sw15.low
                            replace hB := Nat.le_trans hB sw15.upd.1
                            replace ho := hw15
                            clear hw15
                            refine l_cons (o_p tbOk rfl rfl rfl ?_)
                            refine l_nil ?_
                            refine x_blk ?_
                            refine x_seq ?_
                            refine c_reg ?_
                            refine l_cons (o_p tbOk rfl rfl rfl ?_)
                            refine l_cons (o_ar rfl rfl rfl (IntWalk.i64_in _ (by omega)) rfl rfl ?_)
                            refine l_cons (o_p tbOk rfl rfl rfl ?_)
                            refine l_nil ?_
                            exact x_round5 (i + 1) (1) (vw15) (want ++ [l[i]]) (Mw15) (subL_cons rfl (subL_cons rfl (subL_cons rfl (subL_cons rfl (subL_cons rfl (subL_cons rfl (subL_cons (get_num rfl (by omega)) (subL_nil)))))))) ⟨by omega, by simp; omega, .inr ⟨rfl, i, hil, instF_bad hkl hm hnb hg⟩, ho, hs, hb, hx, hlow, hsub, hE, hB⟩ (by omega)
                          · have hg : (rowB bs[k2].to && isWordB l[i].name) = true := by rw [crow, cwd]; rfl
                            have hab := atP_base (name := l[i].name) hzk
                            have hn2 := hnear
                            unfold Near at hn2
                            refine c_skip ?_
                            refine x_seq ?_
                            refine c_seq ?_
                            refine a_beg Ext rfl ?_
                            intro w16 ew16
                            replace h11 := h11.ext hlow hB ew16
                            replace ho := ho.ext hlow hB ew16
                            replace hE := hE.trans (Below.mono ew16 hB)
                            replace hs := hs.ext ew16
                            replace hb := hb.ext ew16
                            replace hx := hx.ext ew16
                            replace hry1 := Rep.ext hry1 ew16
                            replace hyy1 := Rep.ext hyy1 ew16
                            replace haty1 := haty1.ext ew16
                            replace hry2 := Rep.ext hry2 ew16
                            replace hyy2 := Rep.ext hyy2 ew16
                            replace haty2 := haty2.ext ew16
                            replace hlow := hlow.ext ew16
                            replace hB := Nat.le_trans hB ew16.size
                            have hS : Ext w16 w16 := ext_refl _
                            have D_h11 := h11.box
                            have D_hs := hs
                            have D_hb := hb
                            have D_hx := hx
                            have D_haty1 := haty1
                            have D_haty2 := haty2
                            refine a_p 0 tbOk rfl rfl rfl rfl (by kernel_rfl) (fun _ _ _ h => h) hS ?_
                            refine a_p 1 tbOk rfl rfl rfl rfl (by kernel_rfl) (fun _ _ _ h => h) hS ?_
                            refine a_ixS 2 tbOk D_hb (List.getElem?_eq_getElem hkl) rfl rfl rfl rfl rfl rfl rfl rfl rfl rfl (by kernel_rfl) (fun _ _ _ _ h => h) hS ?_
                            intro eby3 eoy3 euy3 hry3 haty3
                            obtain ⟨bny3, kvy3, rfl, hyy3⟩ := bnd_open hry3
                            replace haty3 : At _ w16 eby3 eoy3 [.int .i64 bs[k2].n, .int .u8 bs[k2].to.op, .string bs[k2].to.name, .int .i64 bs[k2].to.n, kvy3] := haty3
                            refine a_p 3 tbOk rfl rfl rfl rfl (by kernel_rfl) (fun _ _ _ h => h) hS ?_
                            refine a_lds 4 tbOk (fun _ hs j v hv => ((haty3.ext hs)).drop 1 (sub := [.int .u8 bs[k2].to.op, .string bs[k2].to.name, .int .i64 bs[k2].to.n, kvy3]) rfl j v hv) rfl rfl rfl rfl rfl rfl rfl (by kernel_rfl) (fun _ _ _ h => h) hS ?_
                            refine a_p 5 tbOk rfl rfl rfl rfl (by kernel_rfl) (fun _ _ _ h => h) hS ?_
                            refine a_ld 6 tbOk (fun _ hs => (D_h11.ext hs).cell 2 _ rfl) rfl rfl rfl rfl rfl rfl (by kernel_rfl) (fun _ _ _ h => h) hS ?_
                            refine a_all [7, 8] (by kernel_rfl) rfl (all_cons (i := 7) rfl ?_ (all_cons (i := 8) rfl ?_ all_nil))
                            · have okq : PlOk (atP (flatF bs[k2].to).1 (flatF bs[k2].to).2 l[i].name) := atP_ok (flat_n64 (spine_n64 _ _ hyy3)) hzk okx.2.2
                              refine o_call fo24 rfl rfl rfl (refAt_spec bs[k2].to l[i].name _ _ _ crow hyy3 okx.2.2 hlow hzk) ?_
                              rintro _ w17 ⟨rfl, ew17⟩
                              replace hS := hS.then ew17
                              replace h11 := h11.ext hlow hB ew17
                              replace ho := ho.ext hlow hB ew17
                              replace hE := hE.trans (Below.mono ew17 hB)
                              replace hs := hs.ext ew17
                              replace hb := hb.ext ew17
                              replace hx := hx.ext ew17
                              replace hry1 := Rep.ext hry1 ew17
                              replace hyy1 := Rep.ext hyy1 ew17
                              replace haty1 := haty1.ext ew17
                              replace hry2 := Rep.ext hry2 ew17
                              replace hyy2 := Rep.ext hyy2 ew17
                              replace haty2 := haty2.ext ew17
                              replace hry3 := Rep.ext hry3 ew17
                              replace hyy3 := Rep.ext hyy3 ew17
                              replace haty3 := haty3.ext ew17
                              replace hlow := hlow.ext ew17
                              replace hB := Nat.le_trans hB ew17.size
                              refine ⟨hS, ?_⟩
                              refine a_one 8 rfl (by kernel_rfl) (o_new tbOk rfl rfl rfl ?_)
                              intro b13 w18 qb13 ew18 hb13
                              have gS_b13 := Nat.le_trans hS.size (Nat.le_of_eq qb13.symm)
                              replace hS := hS.then ew18
                              have d_ho_h13 : ∀ x, (wv : Value).ownBlock = some x → x ≠ b13 := fun x hx => by have := (ho.lt x hx).2; omega
                              have ne_h11_h13 : b11 ≠ b13 := by have := h11.lt; omega
                              have sw18 := Stp.add ew18 hlow hB (Nat.le_of_eq qb13.symm) hb13.lt
                              have h13 : MB w.heap.size (Rw.Add (Rw.Add M1 b11) b13) w18 b13 35 [.int .i64 0, .int .i64 0, .string ⟨#[]⟩] := MB.mk' hb13 qb13 hB
                              replace h11 := h11.stp sw18 (ew18.block b11 h11.lt)
                              replace ho := ho.stp sw18 (fun x hx => ew18.block x (ho.lt x hx).2)
                              replace hE := hE.trans sw18.below
                              replace hs := hs.stp sw18
                              replace hb := hb.stp sw18
                              replace hx := hx.stp sw18
                              replace hry1 := Rep.stp hry1 sw18
                              replace hyy1 := Rep.stp hyy1 sw18
                              replace haty1 := haty1.stp sw18
                              replace hry2 := Rep.stp hry2 sw18
                              replace hyy2 := Rep.stp hyy2 sw18
                              replace haty2 := haty2.stp sw18
                              replace hry3 := Rep.stp hry3 sw18
                              replace hyy3 := Rep.stp hyy3 sw18
                              replace haty3 := haty3.stp sw18
                              replace hsub := fun b h => sw18.sub b (hsub b h)
                              replace hlow := sw18.low
                              replace hB := Nat.le_trans hB sw18.upd.1
                              refine ⟨hS, ?_⟩
                              refine a_barS Ext 9 rfl (by kernel_rfl) (by kernel_rfl) (o_st tbOk h13.box rfl rfl rfl rfl (by intro u hu; simp [Value.cells] at hu; rcases hu with rfl | rfl | rfl <;> rfl) rfl rfl ?_)
                              intro w19 hw19 qw19 bew19
                              have uw19 : UpdB _ _ _ := ⟨qw19, bew19⟩
                              have sw19 := uw19.stp h13.inM hlow h13.ge
                              have frw19 := qw19.2
                              replace h11 := h11.stp sw19 (frw19 b11 h11.lt ne_h11_h13)
                              replace ho := ho.stp sw19 (fun x hx => frw19 x (ho.lt x hx).2 (d_ho_h13 x hx))
                              replace hE := hE.trans sw19.below
                              replace hs := hs.stp sw19
                              replace hb := hb.stp sw19
                              replace hx := hx.stp sw19
                              replace hry1 := Rep.stp hry1 sw19
                              replace hyy1 := Rep.stp hyy1 sw19
                              replace haty1 := haty1.stp sw19
                              replace hry2 := Rep.stp hry2 sw19
                              replace hyy2 := Rep.stp hyy2 sw19
                              replace haty2 := haty2.stp sw19
                              replace hry3 := Rep.stp hry3 sw19
                              replace hyy3 := Rep.stp hyy3 sw19
                              replace haty3 := haty3.stp sw19
                              replace hsub := fun b h => sw19.sub b (hsub b h)
                              replace hlow := sw19.low
                              replace hB := Nat.le_trans hB sw19.upd.1
                              replace hS : Ext w19 w19 := ext_refl _
                              replace h13 : MB w.heap.size _ w19 b13 _ [.int .i64 ((atP (flatF bs[k2].to).1 (flatF bs[k2].to).2 l[i].name).base), .int .i64 ((atP (flatF bs[k2].to).1 (flatF bs[k2].to).2 l[i].name).var), .string (atP (flatF bs[k2].to).1 (flatF bs[k2].to).2 l[i].name).name] := ⟨hw19, h13.inM, h13.ge⟩
                              have D_h11 := h11.box
                              have D_hs := hs
                              have D_hb := hb
                              have D_hx := hx
                              have D_haty1 := haty1
                              have D_haty2 := haty2
                              have D_haty3 := haty3
                              have D_h13 := h13.box
                              refine a_end (by kernel_rfl) ?_
                              refine x_seq ?_
                              refine c_seq ?_
                              refine c_reg ?_
                              refine l_cons (o_p tbOk rfl rfl rfl ?_)
                              refine l_cons (o_ld tbOk (h13.cell 0 _ rfl) rfl rfl rfl rfl rfl ?_)
                              refine l_cons (o_p tbOk rfl rfl rfl ?_)
                              refine l_cons (o_ld tbOk (h11.cell 0 _ rfl) rfl rfl rfl rfl rfl ?_)
                              refine l_cons (o_ar rfl rfl rfl (IntWalk.i64_in _ (by omega)) rfl rfl ?_)
                              refine l_cons (o_p tbOk rfl rfl rfl ?_)
                              refine l_cons (o_st tbOk h13.box rfl rfl rfl rfl (by simp [Value.cells, Value.oneCell']) rfl rfl ?_)
                              intro w20 hw20 qw20 bew20
                              have uw20 : UpdB _ _ _ := ⟨qw20, bew20⟩
                              have sw20 := uw20.stp h13.inM hlow h13.ge
                              have frw20 := qw20.2
                              replace h11 := h11.stp sw20 (frw20 b11 h11.lt ne_h11_h13)
                              replace ho := ho.stp sw20 (fun x hx => frw20 x (ho.lt x hx).2 (d_ho_h13 x hx))
                              replace hE := hE.trans sw20.below
                              replace hs := hs.stp sw20
                              replace hb := hb.stp sw20
                              replace hx := hx.stp sw20
                              replace hry1 := Rep.stp hry1 sw20
                              replace hyy1 := Rep.stp hyy1 sw20
                              replace haty1 := haty1.stp sw20
                              replace hry2 := Rep.stp hry2 sw20
                              replace hyy2 := Rep.stp hyy2 sw20
                              replace haty2 := haty2.stp sw20
                              replace hry3 := Rep.stp hry3 sw20
                              replace hyy3 := Rep.stp hyy3 sw20
                              replace haty3 := haty3.stp sw20
                              replace hsub := fun b h => sw20.sub b (hsub b h)
                              replace hlow := sw20.low
                              replace hB := Nat.le_trans hB sw20.upd.1
                              replace h13 : MB w.heap.size _ w20 b13 _ [.int .i64 ((atP (flatF bs[k2].to).1 (flatF bs[k2].to).2 l[i].name).base + l[i].base), .int .i64 ((atP (flatF bs[k2].to).1 (flatF bs[k2].to).2 l[i].name).var), .string (atP (flatF bs[k2].to).1 (flatF bs[k2].to).2 l[i].name).name] := ⟨hw20, h13.inM, h13.ge⟩
                              refine l_nil ?_
                              refine x_seq ?_
                              refine c_seq ?_
                              refine c_reg ?_
                              refine l_cons (o_lds tbOk (fun j v hv => h13.cell j v hv) rfl rfl rfl rfl rfl rfl ?_)
                              refine l_cons (o_st tbOk h11.box rfl rfl rfl rfl (by intro u hu; simp [Value.cells] at hu; rcases hu with rfl | rfl | rfl <;> rfl) rfl rfl ?_)
                              intro w21 hw21 qw21 bew21
                              have uw21 : UpdB _ _ _ := ⟨qw21, bew21⟩
                              have sw21 := uw21.stp h11.inM hlow h11.ge
                              have frw21 := qw21.2
                              replace ho := ho.stp sw21 (fun x hx => frw21 x (ho.lt x hx).2 (d_ho_h11 x hx))
                              replace h13 := h13.stp sw21 (frw21 b13 h13.lt ne_h11_h13.symm)
                              replace hE := hE.trans sw21.below
                              replace hs := hs.stp sw21
                              replace hb := hb.stp sw21
                              replace hx := hx.stp sw21
                              replace hry1 := Rep.stp hry1 sw21
                              replace hyy1 := Rep.stp hyy1 sw21
                              replace haty1 := haty1.stp sw21
                              replace hry2 := Rep.stp hry2 sw21
                              replace hyy2 := Rep.stp hyy2 sw21
                              replace haty2 := haty2.stp sw21
                              replace hry3 := Rep.stp hry3 sw21
                              replace hyy3 := Rep.stp hyy3 sw21
                              replace haty3 := haty3.stp sw21
                              replace hsub := fun b h => sw21.sub b (hsub b h)
                              replace hlow := sw21.low
                              replace hB := Nat.le_trans hB sw21.upd.1
                              replace h11 : MB w.heap.size _ w21 b11 _ [.int .i64 ((atP (flatF bs[k2].to).1 (flatF bs[k2].to).2 l[i].name).base + l[i].base), .int .i64 ((atP (flatF bs[k2].to).1 (flatF bs[k2].to).2 l[i].name).var), .string (atP (flatF bs[k2].to).1 (flatF bs[k2].to).2 l[i].name).name] := ⟨hw21, h11.inM, h11.ge⟩
                              have hq : instF bs l[i] = some (⟨(atP (flatF bs[k2].to).1 (flatF bs[k2].to).2 l[i].name).base + l[i].base, (atP (flatF bs[k2].to).1 (flatF bs[k2].to).2 l[i].name).var, (atP (flatF bs[k2].to).1 (flatF bs[k2].to).2 l[i].name).name⟩ : Pl) := by rw [instF_good hkl hm hnb hg, wadd_near hab hnear]
                              refine l_nil ?_
                              refine x_seq ?_
                              refine c_exit ?_
                              refine x_blkO rfl ?_
                              refine x_seqE ?_
                              refine x_seqE ?_
                              refine x_blkE ?_
                              refine x_seq ?_
                              refine c_reg ?_
                              refine l_cons (o_p tbOk rfl rfl rfl ?_)
                              refine l_cons (o_lds tbOk (fun j v hv => h11.cell j v hv) rfl rfl rfl rfl rfl rfl ?_)
                              refine l_cons (o_bs tbOk rfl rfl rfl rfl rfl rfl rfl (sz1 rfl) rfl rfl rfl ?_)
                              intro bw22 w22 qbw22 ew22 hbw22
                              have nbw22 := nM_of hlow qbw22
                              replace h11 := h11.ext hlow hB ew22
                              replace ho := ho.ext hlow hB ew22
                              replace h13 := h13.ext hlow hB ew22
                              replace hE := hE.trans (Below.mono ew22 hB)
                              replace hs := hs.ext ew22
                              replace hb := hb.ext ew22
                              replace hx := hx.ext ew22
                              replace hry1 := Rep.ext hry1 ew22
                              replace hyy1 := Rep.ext hyy1 ew22
                              replace haty1 := haty1.ext ew22
                              replace hry2 := Rep.ext hry2 ew22
                              replace hyy2 := Rep.ext hyy2 ew22
                              replace haty2 := haty2.ext ew22
                              replace hry3 := Rep.ext hry3 ew22
                              replace hyy3 := Rep.ext hyy3 ew22
                              replace haty3 := haty3.ext ew22
                              replace hlow := hlow.ext ew22
                              replace hB := Nat.le_trans hB ew22.size
                              refine l_cons (o_app1 tbOk ho hbw22 nbw22 (show Rep.R _ _ _ (⟨(atP (flatF bs[k2].to).1 (flatF bs[k2].to).2 l[i].name).base + l[i].base, (atP (flatF bs[k2].to).1 (flatF bs[k2].to).2 l[i].name).var, (atP (flatF bs[k2].to).1 (flatF bs[k2].to).2 l[i].name).name⟩ : Pl) from ⟨rfl, ⟨by show _ ≤ (atP (flatF bs[k2].to).1 (flatF bs[k2].to).2 l[i].name).base + l[i].base; omega, by show (atP (flatF bs[k2].to).1 (flatF bs[k2].to).2 l[i].name).base + l[i].base ≤ _; omega⟩, okq.2⟩) hlow hB rfl rfl rfl rfl rfl rfl rfl (by omega) (by show (_ + _) * 32 ≤ _; omega) rfl rfl ?_)
                              intro vw23 w23 Mw23 hw23 sw23 frw23 blw23
                              have zd_ho_h11 := d_ho_h11
                              replace d_ho_h11 : ∀ x, (vw23 : Value).ownBlock = some x → x ≠ b11 := fun x hx => (blw23 x hx).elim (d_ho_h11 x) (fun h e => by have := h11.lt; omega)
                              have zd_ho_h13 := d_ho_h13
                              replace d_ho_h13 : ∀ x, (vw23 : Value).ownBlock = some x → x ≠ b13 := fun x hx => (blw23 x hx).elim (d_ho_h13 x) (fun h e => by have := h13.lt; omega)
                              replace h11 := h11.stp sw23 (frw23 b11 h11.lt (fun e => zd_ho_h11 _ e.symm rfl))
                              replace h13 := h13.stp sw23 (frw23 b13 h13.lt (fun e => zd_ho_h13 _ e.symm rfl))
                              replace hE := hE.trans sw23.below
                              replace hs := hs.stp sw23
                              replace hb := hb.stp sw23
                              replace hx := hx.stp sw23
                              replace hry1 := Rep.stp hry1 sw23
                              replace hyy1 := Rep.stp hyy1 sw23
                              replace haty1 := haty1.stp sw23
                              replace hry2 := Rep.stp hry2 sw23
                              replace hyy2 := Rep.stp hyy2 sw23
                              replace haty2 := haty2.stp sw23
                              replace hry3 := Rep.stp hry3 sw23
                              replace hyy3 := Rep.stp hyy3 sw23
                              replace haty3 := haty3.stp sw23
                              replace hsub := fun b h => sw23.sub b (hsub b h)
                              replace hlow := sw23.low
                              replace hB := Nat.le_trans hB sw23.upd.1
                              replace ho := hw23
                              clear hw23
                              refine l_cons (o_p tbOk rfl rfl rfl ?_)
                              refine l_nil ?_
                              refine x_blk ?_
                              refine x_seq ?_
                              refine c_reg ?_
                              refine l_cons (o_p tbOk rfl rfl rfl ?_)
                              refine l_cons (o_ar rfl rfl rfl (IntWalk.i64_in _ (by omega)) rfl rfl ?_)
                              refine l_cons (o_p tbOk rfl rfl rfl ?_)
                              refine l_nil ?_
                              exact x_round5 (i + 1) (0) (vw23) (want ++ [(⟨(atP (flatF bs[k2].to).1 (flatF bs[k2].to).2 l[i].name).base + l[i].base, (atP (flatF bs[k2].to).1 (flatF bs[k2].to).2 l[i].name).var, (atP (flatF bs[k2].to).1 (flatF bs[k2].to).2 l[i].name).name⟩ : Pl)]) (Mw23) (subL_cons rfl (subL_cons rfl (subL_cons rfl (subL_cons rfl (subL_cons rfl (subL_cons rfl (subL_cons (get_num rfl (by omega)) (subL_nil)))))))) ⟨by omega, by simp; omega, .inl ⟨rfl, hins.snoc hil hq⟩, ho, hs, hb, hx, hlow, hsub, hE, hB⟩ (by omega)
                            · refine o_new tbOk rfl rfl rfl ?_
                              intro b13 w24 qb13 ew24 hb13
                              have gS_b13 := Nat.le_trans hS.size (Nat.le_of_eq qb13.symm)
                              replace hS := hS.then ew24
                              have d_ho_h13 : ∀ x, (wv : Value).ownBlock = some x → x ≠ b13 := fun x hx => by have := (ho.lt x hx).2; omega
                              have ne_h11_h13 : b11 ≠ b13 := by have := h11.lt; omega
                              have sw24 := Stp.add ew24 hlow hB (Nat.le_of_eq qb13.symm) hb13.lt
                              have h13 : MB w.heap.size (Rw.Add (Rw.Add M1 b11) b13) w24 b13 35 [.int .i64 0, .int .i64 0, .string ⟨#[]⟩] := MB.mk' hb13 qb13 hB
                              replace h11 := h11.stp sw24 (ew24.block b11 h11.lt)
                              replace ho := ho.stp sw24 (fun x hx => ew24.block x (ho.lt x hx).2)
                              replace hE := hE.trans sw24.below
                              replace hs := hs.stp sw24
                              replace hb := hb.stp sw24
                              replace hx := hx.stp sw24
                              replace hry1 := Rep.stp hry1 sw24
                              replace hyy1 := Rep.stp hyy1 sw24
                              replace haty1 := haty1.stp sw24
                              replace hry2 := Rep.stp hry2 sw24
                              replace hyy2 := Rep.stp hyy2 sw24
                              replace haty2 := haty2.stp sw24
                              replace hry3 := Rep.stp hry3 sw24
                              replace hyy3 := Rep.stp hyy3 sw24
                              replace haty3 := haty3.stp sw24
                              replace hsub := fun b h => sw24.sub b (hsub b h)
                              replace hlow := sw24.low
                              replace hB := Nat.le_trans hB sw24.upd.1
                              refine ⟨hS, ?_⟩
                              have okq : PlOk (atP (flatF bs[k2].to).1 (flatF bs[k2].to).2 l[i].name) := atP_ok (flat_n64 (spine_n64 _ _ hyy3)) hzk okx.2.2
                              refine a_one 7 rfl (by kernel_rfl) (o_call fo24 rfl rfl rfl (refAt_spec bs[k2].to l[i].name _ _ _ crow hyy3 okx.2.2 hlow hzk) ?_)
                              rintro _ w25 ⟨rfl, ew25⟩
                              replace hS := hS.then ew25
                              replace h11 := h11.ext hlow hB ew25
                              replace ho := ho.ext hlow hB ew25
                              replace h13 := h13.ext hlow hB ew25
                              replace hE := hE.trans (Below.mono ew25 hB)
                              replace hs := hs.ext ew25
                              replace hb := hb.ext ew25
                              replace hx := hx.ext ew25
                              replace hry1 := Rep.ext hry1 ew25
                              replace hyy1 := Rep.ext hyy1 ew25
                              replace haty1 := haty1.ext ew25
                              replace hry2 := Rep.ext hry2 ew25
                              replace hyy2 := Rep.ext hyy2 ew25
                              replace haty2 := haty2.ext ew25
                              replace hry3 := Rep.ext hry3 ew25
                              replace hyy3 := Rep.ext hyy3 ew25
                              replace haty3 := haty3.ext ew25
                              replace hlow := hlow.ext ew25
                              replace hB := Nat.le_trans hB ew25.size
                              refine ⟨hS, ?_⟩
                              refine a_barS Ext 9 rfl (by kernel_rfl) (by kernel_rfl) (o_st tbOk h13.box rfl rfl rfl rfl (by intro u hu; simp [Value.cells] at hu; rcases hu with rfl | rfl | rfl <;> rfl) rfl rfl ?_)
                              intro w26 hw26 qw26 bew26
                              have uw26 : UpdB _ _ _ := ⟨qw26, bew26⟩
                              have sw26 := uw26.stp h13.inM hlow h13.ge
                              have frw26 := qw26.2
                              replace h11 := h11.stp sw26 (frw26 b11 h11.lt ne_h11_h13)
                              replace ho := ho.stp sw26 (fun x hx => frw26 x (ho.lt x hx).2 (d_ho_h13 x hx))
                              replace hE := hE.trans sw26.below
                              replace hs := hs.stp sw26
                              replace hb := hb.stp sw26
                              replace hx := hx.stp sw26
                              replace hry1 := Rep.stp hry1 sw26
                              replace hyy1 := Rep.stp hyy1 sw26
                              replace haty1 := haty1.stp sw26
                              replace hry2 := Rep.stp hry2 sw26
                              replace hyy2 := Rep.stp hyy2 sw26
                              replace haty2 := haty2.stp sw26
                              replace hry3 := Rep.stp hry3 sw26
                              replace hyy3 := Rep.stp hyy3 sw26
                              replace haty3 := haty3.stp sw26
                              replace hsub := fun b h => sw26.sub b (hsub b h)
                              replace hlow := sw26.low
                              replace hB := Nat.le_trans hB sw26.upd.1
                              replace hS : Ext w26 w26 := ext_refl _
                              replace h13 : MB w.heap.size _ w26 b13 _ [.int .i64 ((atP (flatF bs[k2].to).1 (flatF bs[k2].to).2 l[i].name).base), .int .i64 ((atP (flatF bs[k2].to).1 (flatF bs[k2].to).2 l[i].name).var), .string (atP (flatF bs[k2].to).1 (flatF bs[k2].to).2 l[i].name).name] := ⟨hw26, h13.inM, h13.ge⟩
                              have D_h11 := h11.box
                              have D_hs := hs
                              have D_hb := hb
                              have D_hx := hx
                              have D_haty1 := haty1
                              have D_haty2 := haty2
                              have D_haty3 := haty3
                              have D_h13 := h13.box
                              refine a_end (by kernel_rfl) ?_
                              refine x_seq ?_
                              refine c_seq ?_
                              refine c_reg ?_
                              refine l_cons (o_p tbOk rfl rfl rfl ?_)
                              refine l_cons (o_ld tbOk (h13.cell 0 _ rfl) rfl rfl rfl rfl rfl ?_)
                              refine l_cons (o_p tbOk rfl rfl rfl ?_)
                              refine l_cons (o_ld tbOk (h11.cell 0 _ rfl) rfl rfl rfl rfl rfl ?_)
                              refine l_cons (o_ar rfl rfl rfl (IntWalk.i64_in _ (by omega)) rfl rfl ?_)
                              refine l_cons (o_p tbOk rfl rfl rfl ?_)
                              refine l_cons (o_st tbOk h13.box rfl rfl rfl rfl (by simp [Value.cells, Value.oneCell']) rfl rfl ?_)
                              intro w27 hw27 qw27 bew27
                              have uw27 : UpdB _ _ _ := ⟨qw27, bew27⟩
                              have sw27 := uw27.stp h13.inM hlow h13.ge
                              have frw27 := qw27.2
                              replace h11 := h11.stp sw27 (frw27 b11 h11.lt ne_h11_h13)
                              replace ho := ho.stp sw27 (fun x hx => frw27 x (ho.lt x hx).2 (d_ho_h13 x hx))
                              replace hE := hE.trans sw27.below
                              replace hs := hs.stp sw27
                              replace hb := hb.stp sw27
                              replace hx := hx.stp sw27
                              replace hry1 := Rep.stp hry1 sw27
                              replace hyy1 := Rep.stp hyy1 sw27
                              replace haty1 := haty1.stp sw27
                              replace hry2 := Rep.stp hry2 sw27
                              replace hyy2 := Rep.stp hyy2 sw27
                              replace haty2 := haty2.stp sw27
                              replace hry3 := Rep.stp hry3 sw27
                              replace hyy3 := Rep.stp hyy3 sw27
                              replace haty3 := haty3.stp sw27
                              replace hsub := fun b h => sw27.sub b (hsub b h)
                              replace hlow := sw27.low
                              replace hB := Nat.le_trans hB sw27.upd.1
                              replace h13 : MB w.heap.size _ w27 b13 _ [.int .i64 ((atP (flatF bs[k2].to).1 (flatF bs[k2].to).2 l[i].name).base + l[i].base), .int .i64 ((atP (flatF bs[k2].to).1 (flatF bs[k2].to).2 l[i].name).var), .string (atP (flatF bs[k2].to).1 (flatF bs[k2].to).2 l[i].name).name] := ⟨hw27, h13.inM, h13.ge⟩
                              refine l_nil ?_
                              refine x_seq ?_
                              refine c_seq ?_
                              refine c_reg ?_
                              refine l_cons (o_lds tbOk (fun j v hv => h13.cell j v hv) rfl rfl rfl rfl rfl rfl ?_)
                              refine l_cons (o_st tbOk h11.box rfl rfl rfl rfl (by intro u hu; simp [Value.cells] at hu; rcases hu with rfl | rfl | rfl <;> rfl) rfl rfl ?_)
                              intro w28 hw28 qw28 bew28
                              have uw28 : UpdB _ _ _ := ⟨qw28, bew28⟩
                              have sw28 := uw28.stp h11.inM hlow h11.ge
                              have frw28 := qw28.2
                              replace ho := ho.stp sw28 (fun x hx => frw28 x (ho.lt x hx).2 (d_ho_h11 x hx))
                              replace h13 := h13.stp sw28 (frw28 b13 h13.lt ne_h11_h13.symm)
                              replace hE := hE.trans sw28.below
                              replace hs := hs.stp sw28
                              replace hb := hb.stp sw28
                              replace hx := hx.stp sw28
                              replace hry1 := Rep.stp hry1 sw28
                              replace hyy1 := Rep.stp hyy1 sw28
                              replace haty1 := haty1.stp sw28
                              replace hry2 := Rep.stp hry2 sw28
                              replace hyy2 := Rep.stp hyy2 sw28
                              replace haty2 := haty2.stp sw28
                              replace hry3 := Rep.stp hry3 sw28
                              replace hyy3 := Rep.stp hyy3 sw28
                              replace haty3 := haty3.stp sw28
                              replace hsub := fun b h => sw28.sub b (hsub b h)
                              replace hlow := sw28.low
                              replace hB := Nat.le_trans hB sw28.upd.1
                              replace h11 : MB w.heap.size _ w28 b11 _ [.int .i64 ((atP (flatF bs[k2].to).1 (flatF bs[k2].to).2 l[i].name).base + l[i].base), .int .i64 ((atP (flatF bs[k2].to).1 (flatF bs[k2].to).2 l[i].name).var), .string (atP (flatF bs[k2].to).1 (flatF bs[k2].to).2 l[i].name).name] := ⟨hw28, h11.inM, h11.ge⟩
                              have hq : instF bs l[i] = some (⟨(atP (flatF bs[k2].to).1 (flatF bs[k2].to).2 l[i].name).base + l[i].base, (atP (flatF bs[k2].to).1 (flatF bs[k2].to).2 l[i].name).var, (atP (flatF bs[k2].to).1 (flatF bs[k2].to).2 l[i].name).name⟩ : Pl) := by rw [instF_good hkl hm hnb hg, wadd_near hab hnear]
                              refine l_nil ?_
                              refine x_seq ?_
                              refine c_exit ?_
                              refine x_blkO rfl ?_
                              refine x_seqE ?_
                              refine x_seqE ?_
                              refine x_blkE ?_
                              refine x_seq ?_
                              refine c_reg ?_
                              refine l_cons (o_p tbOk rfl rfl rfl ?_)
                              refine l_cons (o_lds tbOk (fun j v hv => h11.cell j v hv) rfl rfl rfl rfl rfl rfl ?_)
                              refine l_cons (o_bs tbOk rfl rfl rfl rfl rfl rfl rfl (sz1 rfl) rfl rfl rfl ?_)
                              intro bw29 w29 qbw29 ew29 hbw29
                              have nbw29 := nM_of hlow qbw29
                              replace h11 := h11.ext hlow hB ew29
                              replace ho := ho.ext hlow hB ew29
                              replace h13 := h13.ext hlow hB ew29
                              replace hE := hE.trans (Below.mono ew29 hB)
                              replace hs := hs.ext ew29
                              replace hb := hb.ext ew29
                              replace hx := hx.ext ew29
                              replace hry1 := Rep.ext hry1 ew29
                              replace hyy1 := Rep.ext hyy1 ew29
                              replace haty1 := haty1.ext ew29
                              replace hry2 := Rep.ext hry2 ew29
                              replace hyy2 := Rep.ext hyy2 ew29
                              replace haty2 := haty2.ext ew29
                              replace hry3 := Rep.ext hry3 ew29
                              replace hyy3 := Rep.ext hyy3 ew29
                              replace haty3 := haty3.ext ew29
                              replace hlow := hlow.ext ew29
                              replace hB := Nat.le_trans hB ew29.size
                              refine l_cons (o_app1 tbOk ho hbw29 nbw29 (show Rep.R _ _ _ (⟨(atP (flatF bs[k2].to).1 (flatF bs[k2].to).2 l[i].name).base + l[i].base, (atP (flatF bs[k2].to).1 (flatF bs[k2].to).2 l[i].name).var, (atP (flatF bs[k2].to).1 (flatF bs[k2].to).2 l[i].name).name⟩ : Pl) from ⟨rfl, ⟨by show _ ≤ (atP (flatF bs[k2].to).1 (flatF bs[k2].to).2 l[i].name).base + l[i].base; omega, by show (atP (flatF bs[k2].to).1 (flatF bs[k2].to).2 l[i].name).base + l[i].base ≤ _; omega⟩, okq.2⟩) hlow hB rfl rfl rfl rfl rfl rfl rfl (by omega) (by show (_ + _) * 32 ≤ _; omega) rfl rfl ?_)
                              intro vw30 w30 Mw30 hw30 sw30 frw30 blw30
                              have zd_ho_h11 := d_ho_h11
                              replace d_ho_h11 : ∀ x, (vw30 : Value).ownBlock = some x → x ≠ b11 := fun x hx => (blw30 x hx).elim (d_ho_h11 x) (fun h e => by have := h11.lt; omega)
                              have zd_ho_h13 := d_ho_h13
                              replace d_ho_h13 : ∀ x, (vw30 : Value).ownBlock = some x → x ≠ b13 := fun x hx => (blw30 x hx).elim (d_ho_h13 x) (fun h e => by have := h13.lt; omega)
                              replace h11 := h11.stp sw30 (frw30 b11 h11.lt (fun e => zd_ho_h11 _ e.symm rfl))
                              replace h13 := h13.stp sw30 (frw30 b13 h13.lt (fun e => zd_ho_h13 _ e.symm rfl))
                              replace hE := hE.trans sw30.below
                              replace hs := hs.stp sw30
                              replace hb := hb.stp sw30
                              replace hx := hx.stp sw30
                              replace hry1 := Rep.stp hry1 sw30
                              replace hyy1 := Rep.stp hyy1 sw30
                              replace haty1 := haty1.stp sw30
                              replace hry2 := Rep.stp hry2 sw30
                              replace hyy2 := Rep.stp hyy2 sw30
                              replace haty2 := haty2.stp sw30
                              replace hry3 := Rep.stp hry3 sw30
                              replace hyy3 := Rep.stp hyy3 sw30
                              replace haty3 := haty3.stp sw30
                              replace hsub := fun b h => sw30.sub b (hsub b h)
                              replace hlow := sw30.low
                              replace hB := Nat.le_trans hB sw30.upd.1
                              replace ho := hw30
                              clear hw30
                              refine l_cons (o_p tbOk rfl rfl rfl ?_)
                              refine l_nil ?_
                              refine x_blk ?_
                              refine x_seq ?_
                              refine c_reg ?_
                              refine l_cons (o_p tbOk rfl rfl rfl ?_)
                              refine l_cons (o_ar rfl rfl rfl (IntWalk.i64_in _ (by omega)) rfl rfl ?_)
                              refine l_cons (o_p tbOk rfl rfl rfl ?_)
                              refine l_nil ?_
                              exact x_round5 (i + 1) (0) (vw30) (want ++ [(⟨(atP (flatF bs[k2].to).1 (flatF bs[k2].to).2 l[i].name).base + l[i].base, (atP (flatF bs[k2].to).1 (flatF bs[k2].to).2 l[i].name).var, (atP (flatF bs[k2].to).1 (flatF bs[k2].to).2 l[i].name).name⟩ : Pl)]) (Mw30) (subL_cons rfl (subL_cons rfl (subL_cons rfl (subL_cons rfl (subL_cons rfl (subL_cons rfl (subL_cons (get_num rfl (by omega)) (subL_nil)))))))) ⟨by omega, by simp; omega, .inl ⟨rfl, hins.snoc hil hq⟩, ho, hs, hb, hx, hlow, hsub, hE, hB⟩ (by omega)
                  · obtain rfl : k2 = bs.length := by omega
                    refine c_exit ?_
                    refine x_seqE ?_
                    refine x_seqE ?_
                    refine x_blkE ?_
                    refine x_seq ?_
                    refine c_reg ?_
                    refine l_cons (o_p tbOk rfl rfl rfl ?_)
                    refine l_cons (o_lds tbOk (fun j v hv => h11.cell j v hv) rfl rfl rfl rfl rfl rfl ?_)
                    refine l_cons (o_bs tbOk rfl rfl rfl rfl rfl rfl rfl (sz1 rfl) rfl rfl rfl ?_)
                    intro bw31 w31 qbw31 ew31 hbw31
                    have nbw31 := nM_of hlow qbw31
                    replace h11 := h11.ext hlow hB ew31
                    replace ho := ho.ext hlow hB ew31
                    replace hE := hE.trans (Below.mono ew31 hB)
                    replace hs := hs.ext ew31
                    replace hb := hb.ext ew31
                    replace hx := hx.ext ew31
                    replace hlow := hlow.ext ew31
                    replace hB := Nat.le_trans hB ew31.size
                    refine l_cons (o_app1 tbOk ho hbw31 nbw31 (show Rep.R _ _ _ (l[i] : Pl) from ⟨rfl, okx⟩) hlow hB rfl rfl rfl rfl rfl rfl rfl (by omega) (by show (_ + _) * 32 ≤ _; omega) rfl rfl ?_)
                    intro vw32 w32 Mw32 hw32 sw32 frw32 blw32
                    have zd_ho_h11 := d_ho_h11
                    replace d_ho_h11 : ∀ x, (vw32 : Value).ownBlock = some x → x ≠ b11 := fun x hx => (blw32 x hx).elim (d_ho_h11 x) (fun h e => by have := h11.lt; omega)
                    replace h11 := h11.stp sw32 (frw32 b11 h11.lt (fun e => zd_ho_h11 _ e.symm rfl))
                    replace hE := hE.trans sw32.below
                    replace hs := hs.stp sw32
                    replace hb := hb.stp sw32
                    replace hx := hx.stp sw32
                    replace hsub := fun b h => sw32.sub b (hsub b h)
                    replace hlow := sw32.low
                    replace hB := Nat.le_trans hB sw32.upd.1
                    replace ho := hw32
                    clear hw32
                    refine l_cons (o_p tbOk rfl rfl rfl ?_)
                    refine l_nil ?_
                    refine x_blk ?_
                    refine x_seq ?_
                    refine c_reg ?_
                    refine l_cons (o_p tbOk rfl rfl rfl ?_)
                    refine l_cons (o_ar rfl rfl rfl (IntWalk.i64_in _ (by omega)) rfl rfl ?_)
                    refine l_cons (o_p tbOk rfl rfl rfl ?_)
                    refine l_nil ?_
                    exact x_round5 (i + 1) (0) (vw32) (want ++ [l[i]]) (Mw32) (subL_cons rfl (subL_cons rfl (subL_cons rfl (subL_cons rfl (subL_cons rfl (subL_cons rfl (subL_cons (get_num rfl (by omega)) (subL_nil)))))))) ⟨by omega, by simp; omega, .inl ⟨rfl, hins.snoc hil (instF_none hnb)⟩, ho, hs, hb, hx, hlow, hsub, hE, hB⟩ (by omega)
            · have hmt := inst_meet hres hst (.inr hcode)
              refine c_exit ?_
              refine x_seqE ?_
              refine x_seqE ?_
              refine x_blkE ?_
              refine x_seq ?_
              refine c_seq ?_
              refine c_seq ?_
              refine c_reg ?_
              refine l_cons (o_p tbOk rfl rfl rfl ?_)
              refine l_cons (o_conv (y := c) tbOk rfl rfl rfl rfl rfl (IntWalk.i64_in _ (by omega)) rfl rfl ?_)
              refine l_cons (o_p tbOk rfl rfl rfl ?_)
              refine l_cons (o_p tbOk rfl rfl rfl ?_)
              refine l_nil ?_
              refine x_seq ?_
              refine c_ifN _ rfl (fun c15 => ?_) (fun c15 => ?_)
              · exact absurd hmt.1 c15
              · refine c_skip ?_
                refine x_seq ?_
                refine c_seq ?_
                refine c_seq ?_
                refine c_reg ?_
                refine l_cons (o_p tbOk rfl rfl rfl ?_)
                refine l_cons (o_p tbOk rfl rfl rfl ?_)
                refine l_nil ?_
                refine x_seq ?_
                refine c_ifN _ rfl (fun c16 => ?_) (fun c16 => ?_)
                · obtain rfl := hmt.2.1 c16
                  refine c_seq ?_
                  refine c_reg ?_
                  refine l_cons (o_p tbOk rfl rfl rfl ?_)
                  refine l_cons (o_len tbOk hx rfl rfl rfl rfl rfl ?_)
                  refine l_cons (o_p tbOk rfl rfl rfl ?_)
                  refine l_cons (o_p tbOk rfl rfl rfl ?_)
                  refine l_nil ?_
                  refine x_seq ?_
                  refine c_ret ?_
                  refine x_seqR ?_
                  refine x_ret1 rfl rfl ?_
                  exact ⟨by simp, hE⟩
                · rw [hmt.2.2 c16] at hx
                  refine c_skip ?_
                  refine x_seq ?_
                  refine c_seq ?_
                  refine c_seq ?_
                  refine c_reg ?_
                  refine l_cons (o_p tbOk rfl rfl rfl ?_)
                  refine l_cons (o_len tbOk hx rfl rfl rfl rfl rfl ?_)
                  refine l_cons (o_p tbOk rfl rfl rfl ?_)
                  refine l_cons (o_lenO tbOk ho rfl rfl rfl rfl rfl ?_)
                  refine l_cons (o_p tbOk rfl rfl rfl ?_)
                  refine l_nil ?_
                  refine x_seq ?_
                  refine c_ifN _ rfl (fun c17 => ?_) (fun c17 => ?_)
                  · exact absurd rfl c17
                  · refine c_skip ?_
                    refine x_seq ?_
                    refine c_seq ?_
                    refine c_seq ?_
                    refine c_reg ?_
                    refine l_cons (o_p tbOk rfl rfl rfl ?_)
                    refine l_nil ?_
                    refine x_seq ?_
                    refine c_blk ?_
                    have hw := ho.froze (by omega)
                    replace hs := hs.wk (fun b _ h => less_sub (v := wv) b h)
                    replace hb := hb.wk (fun b _ h => less_sub (v := wv) b h)
                    replace hx := hx.wk (fun b _ h => less_sub (v := wv) b h)
                    replace hlow : Low (Less M1 wv) w5 := fun b h => hlow b h.1
                    replace hsub : ∀ b, _ → Less M1 wv b := fun b h => ⟨hsub b h, fun e => by have := (ho.lt b e).1; have := hlow0 b h; omega⟩
                    refine c_loop (X := Nat) (fun j => [(6, x), (8, wv), (14, .int .i64 (j : Nat))]) (fun j w' => j ≤ want.length ∧ Sl (Less M1 wv) w' x want ∧ Sl (Less M1 wv) w' wv want ∧ Low (Less M1 wv) w' ∧ Below w.heap.size w w' ∧ w.heap.size ≤ w'.heap.size) (fun j => want.length - j) (0) (subL_cons rfl (subL_cons rfl (subL_cons rfl (subL_nil)))) ?_ ?_
                    · exact ⟨Nat.zero_le _, hx, hw, hlow, hE, hB⟩
                    rintro j w33 ⟨hj, hx, hw, hlow, hE, hB⟩
                    refine c_seq ?_
                    refine c_seq ?_
                    refine c_reg ?_
                    refine l_cons (o_p tbOk rfl rfl rfl ?_)
                    refine l_cons (o_p tbOk rfl rfl rfl ?_)
                    refine l_cons (o_len tbOk hx rfl rfl rfl rfl rfl ?_)
                    refine l_cons (o_p tbOk rfl rfl rfl ?_)
                    refine l_nil ?_
                    refine x_seq ?_
                    refine c_ifP _ rfl (fun c18 => ?_) (fun c18 => ?_)
                    · have hjl : j < want.length := by omega
                      refine c_skip ?_
                      refine x_seq ?_
                      refine c_seq ?_
                      refine c_blk ?_
                      refine c_seq ?_
                      refine a_beg Ext rfl ?_
                      intro w34 ew34
                      replace hE := hE.trans (Below.mono ew34 hB)
                      replace hx := hx.ext ew34
                      replace hw := hw.ext ew34
                      replace hlow := hlow.ext ew34
                      replace hB := Nat.le_trans hB ew34.size
                      have hS : Ext w34 w34 := ext_refl _
                      have D_hx := hx
                      have D_hw := hw
                      refine a_p 0 tbOk rfl rfl rfl rfl (by kernel_rfl) (fun _ _ _ h => h) hS ?_
                      refine a_p 1 tbOk rfl rfl rfl rfl (by kernel_rfl) (fun _ _ _ h => h) hS ?_
                      refine a_ixS 2 tbOk D_hx (List.getElem?_eq_getElem hjl) rfl rfl rfl rfl rfl rfl rfl rfl rfl rfl (by kernel_rfl) (fun _ _ _ _ h => h) hS ?_
                      intro ebv0 eov0 euv0 hrv0 hatv0
                      obtain ⟨rfl, okv0⟩ := hrv0
                      replace okv0 : PlOk want[j] := okv0
                      replace hatv0 : At _ w34 ebv0 eov0 [.int .i64 (want[j].base), .int .i64 (want[j].var), .string want[j].name] := hatv0
                      refine a_lds 3 tbOk (fun _ hs j v hv => (hatv0.ext hs).cell j v hv) rfl rfl rfl rfl rfl rfl rfl (by kernel_rfl) (fun _ _ _ h => h) hS ?_
                      refine a_p 4 tbOk rfl rfl rfl rfl (by kernel_rfl) (fun _ _ _ h => h) hS ?_
                      refine a_p 5 tbOk rfl rfl rfl rfl (by kernel_rfl) (fun _ _ _ h => h) hS ?_
                      refine a_ixS 6 tbOk D_hw (List.getElem?_eq_getElem hjl) rfl rfl rfl rfl rfl rfl rfl rfl rfl rfl (by kernel_rfl) (fun _ _ _ _ h => h) hS ?_
                      intro ebv1 eov1 euv1 hrv1 hatv1
                      obtain ⟨rfl, okv1⟩ := hrv1
                      replace okv1 : PlOk want[j] := okv1
                      replace hatv1 : At _ w34 ebv1 eov1 [.int .i64 (want[j].base), .int .i64 (want[j].var), .string want[j].name] := hatv1
                      refine a_lds 7 tbOk (fun _ hs j v hv => (hatv1.ext hs).cell j v hv) rfl rfl rfl rfl rfl rfl rfl (by kernel_rfl) (fun _ _ _ h => h) hS ?_
                      refine a_bar 8 rfl (by kernel_rfl) (by kernel_rfl) (o_nes (p := (⟨want[j].base, want[j].var, want[j].name⟩ : Pl) = ⟨want[j].base, want[j].var, want[j].name⟩) rfl rfl key35 guard35 (formed35 _ _ _) (formed35 _ _ _) (lits35 okv0.1 okv0.2.1 okv0.2.2) (lits35 okv1.1 okv1.2.1 okv1.2.2) pl_eq_iff rfl rfl ?_)
                      refine a_end (by kernel_rfl) ?_
                      refine x_seq ?_
                      refine c_ifN _ rfl (fun c19 => ?_) (fun c19 => ?_)
                      · exact absurd rfl c19
                      · refine c_skip ?_
                        refine x_blk ?_
                        refine x_seq ?_
                        refine c_reg ?_
                        refine l_cons (o_p tbOk rfl rfl rfl ?_)
                        refine l_cons (o_ar rfl rfl rfl (IntWalk.i64_in _ (by omega)) rfl rfl ?_)
                        refine l_cons (o_p tbOk rfl rfl rfl ?_)
                        refine l_nil ?_
                        exact x_round (j + 1) (subL_cons rfl (subL_cons rfl (subL_cons (get_num rfl (by omega)) (subL_nil)))) ⟨by omega, hx, hw, hlow, hE, hB⟩ (by omega)
                    · refine c_exit ?_
                      refine x_seqE ?_
                      refine x_seqE ?_
                      refine x_blkE ?_
                      refine x_seq ?_
                      refine c_seq ?_
                      refine c_reg ?_
                      refine l_cons (o_p tbOk rfl rfl rfl ?_)
                      refine l_nil ?_
                      refine x_seq ?_
                      refine c_ret ?_
                      refine x_ret1 rfl rfl ?_
                      exact ⟨by simp, hE⟩
          · have hmt := inst_meet hres hst (.inl (by omega))
            refine l_cons (o_skip rfl rfl ?_)
            refine l_cons (o_skip rfl rfl ?_)
            refine l_cons (o_p tbOk rfl rfl rfl ?_)
            refine l_nil ?_
            refine x_seq ?_
            refine c_ifF rfl ?_
            refine c_exit ?_
            refine x_seqE ?_
            refine x_seqE ?_
            refine x_blkE ?_
            refine x_seq ?_
            refine c_seq ?_
            refine c_seq ?_
            refine c_reg ?_
            refine l_cons (o_p tbOk rfl rfl rfl ?_)
            refine l_cons (o_conv (y := c) tbOk rfl rfl rfl rfl rfl (IntWalk.i64_in _ (by omega)) rfl rfl ?_)
            refine l_cons (o_p tbOk rfl rfl rfl ?_)
            refine l_cons (o_p tbOk rfl rfl rfl ?_)
            refine l_nil ?_
            refine x_seq ?_
            refine c_ifN _ rfl (fun c20 => ?_) (fun c20 => ?_)
            · exact absurd hmt.1 c20
            · refine c_skip ?_
              refine x_seq ?_
              refine c_seq ?_
              refine c_seq ?_
              refine c_reg ?_
              refine l_cons (o_p tbOk rfl rfl rfl ?_)
              refine l_cons (o_p tbOk rfl rfl rfl ?_)
              refine l_nil ?_
              refine x_seq ?_
              refine c_ifN _ rfl (fun c21 => ?_) (fun c21 => ?_)
              · obtain rfl := hmt.2.1 c21
                refine c_seq ?_
                refine c_reg ?_
                refine l_cons (o_p tbOk rfl rfl rfl ?_)
                refine l_cons (o_len tbOk hx rfl rfl rfl rfl rfl ?_)
                refine l_cons (o_p tbOk rfl rfl rfl ?_)
                refine l_cons (o_p tbOk rfl rfl rfl ?_)
                refine l_nil ?_
                refine x_seq ?_
                refine c_ret ?_
                refine x_seqR ?_
                refine x_ret1 rfl rfl ?_
                exact ⟨by simp, hE⟩
              · rw [hmt.2.2 c21] at hx
                refine c_skip ?_
                refine x_seq ?_
                refine c_seq ?_
                refine c_seq ?_
                refine c_reg ?_
                refine l_cons (o_p tbOk rfl rfl rfl ?_)
                refine l_cons (o_len tbOk hx rfl rfl rfl rfl rfl ?_)
                refine l_cons (o_p tbOk rfl rfl rfl ?_)
                refine l_cons (o_lenO tbOk ho rfl rfl rfl rfl rfl ?_)
                refine l_cons (o_p tbOk rfl rfl rfl ?_)
                refine l_nil ?_
                refine x_seq ?_
                refine c_ifN _ rfl (fun c22 => ?_) (fun c22 => ?_)
                · exact absurd rfl c22
                · refine c_skip ?_
                  refine x_seq ?_
                  refine c_seq ?_
                  refine c_seq ?_
                  refine c_reg ?_
                  refine l_cons (o_p tbOk rfl rfl rfl ?_)
                  refine l_nil ?_
                  refine x_seq ?_
                  refine c_blk ?_
                  have hw := ho.froze (by omega)
                  replace hs := hs.wk (fun b _ h => less_sub (v := wv) b h)
                  replace hb := hb.wk (fun b _ h => less_sub (v := wv) b h)
                  replace hx := hx.wk (fun b _ h => less_sub (v := wv) b h)
                  replace hlow : Low (Less M1 wv) w5 := fun b h => hlow b h.1
                  replace hsub : ∀ b, _ → Less M1 wv b := fun b h => ⟨hsub b h, fun e => by have := (ho.lt b e).1; have := hlow0 b h; omega⟩
                  refine c_loop (X := Nat) (fun j => [(6, x), (8, wv), (14, .int .i64 (j : Nat))]) (fun j w' => j ≤ want.length ∧ Sl (Less M1 wv) w' x want ∧ Sl (Less M1 wv) w' wv want ∧ Low (Less M1 wv) w' ∧ Below w.heap.size w w' ∧ w.heap.size ≤ w'.heap.size) (fun j => want.length - j) (0) (subL_cons rfl (subL_cons rfl (subL_cons rfl (subL_nil)))) ?_ ?_
                  · exact ⟨Nat.zero_le _, hx, hw, hlow, hE, hB⟩
                  rintro j w35 ⟨hj, hx, hw, hlow, hE, hB⟩
                  refine c_seq ?_
                  refine c_seq ?_
                  refine c_reg ?_
                  refine l_cons (o_p tbOk rfl rfl rfl ?_)
                  refine l_cons (o_p tbOk rfl rfl rfl ?_)
                  refine l_cons (o_len tbOk hx rfl rfl rfl rfl rfl ?_)
                  refine l_cons (o_p tbOk rfl rfl rfl ?_)
                  refine l_nil ?_
                  refine x_seq ?_
                  refine c_ifP _ rfl (fun c23 => ?_) (fun c23 => ?_)
                  · have hjl : j < want.length := by omega
                    refine c_skip ?_
                    refine x_seq ?_
                    refine c_seq ?_
                    refine c_blk ?_
                    refine c_seq ?_
                    refine a_beg Ext rfl ?_
                    intro w36 ew36
                    replace hE := hE.trans (Below.mono ew36 hB)
                    replace hx := hx.ext ew36
                    replace hw := hw.ext ew36
                    replace hlow := hlow.ext ew36
                    replace hB := Nat.le_trans hB ew36.size
                    have hS : Ext w36 w36 := ext_refl _
                    have D_hx := hx
                    have D_hw := hw
                    refine a_p 0 tbOk rfl rfl rfl rfl (by kernel_rfl) (fun _ _ _ h => h) hS ?_
                    refine a_p 1 tbOk rfl rfl rfl rfl (by kernel_rfl) (fun _ _ _ h => h) hS ?_
                    refine a_ixS 2 tbOk D_hx (List.getElem?_eq_getElem hjl) rfl rfl rfl rfl rfl rfl rfl rfl rfl rfl (by kernel_rfl) (fun _ _ _ _ h => h) hS ?_
                    intro ebv0 eov0 euv0 hrv0 hatv0
                    obtain ⟨rfl, okv0⟩ := hrv0
                    replace okv0 : PlOk want[j] := okv0
                    replace hatv0 : At _ w36 ebv0 eov0 [.int .i64 (want[j].base), .int .i64 (want[j].var), .string want[j].name] := hatv0
                    refine a_lds 3 tbOk (fun _ hs j v hv => (hatv0.ext hs).cell j v hv) rfl rfl rfl rfl rfl rfl rfl (by kernel_rfl) (fun _ _ _ h => h) hS ?_
                    refine a_p 4 tbOk rfl rfl rfl rfl (by kernel_rfl) (fun _ _ _ h => h) hS ?_
                    refine a_p 5 tbOk rfl rfl rfl rfl (by kernel_rfl) (fun _ _ _ h => h) hS ?_
                    refine a_ixS 6 tbOk D_hw (List.getElem?_eq_getElem hjl) rfl rfl rfl rfl rfl rfl rfl rfl rfl rfl (by kernel_rfl) (fun _ _ _ _ h => h) hS ?_
                    intro ebv1 eov1 euv1 hrv1 hatv1
                    obtain ⟨rfl, okv1⟩ := hrv1
                    replace okv1 : PlOk want[j] := okv1
                    replace hatv1 : At _ w36 ebv1 eov1 [.int .i64 (want[j].base), .int .i64 (want[j].var), .string want[j].name] := hatv1
                    refine a_lds 7 tbOk (fun _ hs j v hv => (hatv1.ext hs).cell j v hv) rfl rfl rfl rfl rfl rfl rfl (by kernel_rfl) (fun _ _ _ h => h) hS ?_
                    refine a_bar 8 rfl (by kernel_rfl) (by kernel_rfl) (o_nes (p := (⟨want[j].base, want[j].var, want[j].name⟩ : Pl) = ⟨want[j].base, want[j].var, want[j].name⟩) rfl rfl key35 guard35 (formed35 _ _ _) (formed35 _ _ _) (lits35 okv0.1 okv0.2.1 okv0.2.2) (lits35 okv1.1 okv1.2.1 okv1.2.2) pl_eq_iff rfl rfl ?_)
                    refine a_end (by kernel_rfl) ?_
                    refine x_seq ?_
                    refine c_ifN _ rfl (fun c24 => ?_) (fun c24 => ?_)
                    · exact absurd rfl c24
                    · refine c_skip ?_
                      refine x_blk ?_
                      refine x_seq ?_
                      refine c_reg ?_
                      refine l_cons (o_p tbOk rfl rfl rfl ?_)
                      refine l_cons (o_ar rfl rfl rfl (IntWalk.i64_in _ (by omega)) rfl rfl ?_)
                      refine l_cons (o_p tbOk rfl rfl rfl ?_)
                      refine l_nil ?_
                      exact x_round (j + 1) (subL_cons rfl (subL_cons rfl (subL_cons (get_num rfl (by omega)) (subL_nil)))) ⟨by omega, hx, hw, hlow, hE, hB⟩ (by omega)
                  · refine c_exit ?_
                    refine x_seqE ?_
                    refine x_seqE ?_
                    refine x_blkE ?_
                    refine x_seq ?_
                    refine c_seq ?_
                    refine c_reg ?_
                    refine l_cons (o_p tbOk rfl rfl rfl ?_)
                    refine l_nil ?_
                    refine x_seq ?_
                    refine c_ret ?_
                    refine x_ret1 rfl rfl ?_
                    exact ⟨by simp, hE⟩

end Go.Proofs.Ytohfnpmehgpphaa
