/- Walks: the document's Right and Row; copies. Printed by wip/walks/kinds4.py. -/
import Derived.Test.YtohfnpmehgpphaaWc
import Derived.Test.YtohfnpmehgpphaaOwnT
namespace Go.Proofs.Ytohfnpmehgpphaa
open Go Rw Go.RowKit
set_option maxRecDepth 4000

/-- once: is no number that of both sorts of variables? -/
theorem once_spec (t : Ty) (M : Nat → Prop) (w : World) (v : Value) (ht : Rep.R M w v t) (hlow : Low M w) (hsz : psz t ≤ 2000000) :
    Calls Try.prog 61 #[v] w (Ret fun r w' => r = .bool (onceB t) ∧ Ext w w') := by
  have hE : Below w.heap.size w w := Below.refl _ _
  have hB : w.heap.size ≤ w.heap.size := Nat.le_refl _
  obtain ⟨kv, rfl, op, nm, n64, hk⟩ := ty_open ht
  refine c_enter (n := 47) Try.func61 rfl rfl rfl ?_
  refine q0 ?_
  refine l_cons (o_box rfl rfl rfl ?_)
  intro b1 w1 hb_b1 ew1 h1
  replace h1 : Box _ b1 40 [.int .u8 t.op, .string t.name, .int .i64 t.n, kv] := h1
  replace h1 := h1.at (nM_of hlow hb_b1)
  replace hE := hE.trans (Below.mono ew1 hB)
  replace ht := Rep.ext ht ew1
  replace hk := hk.ext ew1
  replace hlow := hlow.ext ew1
  replace hB := Nat.le_trans hB ew1.size
  refine l_p 1 tbOk rfl (q1 (q0 ?_))
  refine l_cons (o_lds tbOk (fun j v hv => h1.cell j v hv) rfl rfl rfl rfl rfl rfl ?_)
  refine l_cons (o_call fo40 rfl rfl rfl (parts_spec t M _ _ ht hlow hsz) ?_)
  rintro vhp w2 ⟨hp, ew2⟩
  replace hE := hE.trans (Below.mono ew2 hB)
  replace ht := Rep.ext ht ew2
  replace hk := hk.ext ew2
  replace h1 := h1.ext ew2
  replace hlow := hlow.ext ew2
  replace hB := Nat.le_trans hB ew2.size
  have hpl : (partsL t).length = psz t := rfl
  refine l_p 1 tbOk rfl (q1 (c_seq (q0 (l_p 1 tbOk rfl (q1 (c_blk ?_))))))
  refine c_loop (X := Nat) (fun i => [(3, vhp), (4, .int .i64 (i : Nat))]) (fun i w' => i ≤ (partsL t).length ∧ (∀ (a b : Nat) (x y : Ty), a < i → (partsL t)[a]? = some x → (partsL t)[b]? = some y → ¬ (x.op = 7 ∧ y.op = 10 ∧ x.n = y.n)) ∧ Sl M w' vhp (partsL t) ∧ Low M w' ∧ Below w.heap.size w w' ∧ w.heap.size ≤ w'.heap.size) (fun i => (partsL t).length - i) (0) (s2 rfl rfl) ?_ ?_
  · exact ⟨Nat.zero_le _, fun a b x y ha => absurd ha (Nat.not_lt_zero _), hp, hlow, hE, hB⟩
  rintro i w3 ⟨hi, hout, hp, hlow, hE, hB⟩
  refine c_seq (q0 (l_p 2 tbOk rfl ?_))
  refine l_cons (o_len tbOk hp rfl rfl rfl rfl rfl ?_)
  refine l_p 1 tbOk rfl (q1 ?_)
  refine c_ifP _ rfl (fun c1 => ?_) (fun c1 => ?_)
  · refine c_skip (x_seq (c_seq (c_blk (q0 (l_p 1 tbOk rfl (q1 (c_blk ?_)))))))
    have hil : i < (partsL t).length := by omega
    refine c_loop (X := Nat) (fun k => [(3, vhp), (4, .int .i64 (i : Nat)), (5, .int .i64 (k : Nat))]) (fun k w' => k ≤ (partsL t).length ∧ (∀ (b : Nat) (y : Ty), b < k → (partsL t)[b]? = some y → ¬ ((partsL t)[i].op = 7 ∧ y.op = 10 ∧ (partsL t)[i].n = y.n)) ∧ Sl M w' vhp (partsL t) ∧ Low M w' ∧ Below w.heap.size w w' ∧ w.heap.size ≤ w'.heap.size) (fun k => (partsL t).length - k) (0) (s3 rfl rfl rfl) ?_ ?_
    · exact ⟨Nat.zero_le _, fun b y hb => absurd hb (Nat.not_lt_zero _), hp, hlow, hE, hB⟩
    rintro k w4 ⟨hk, hin, hp, hlow, hE, hB⟩
    refine c_seq (q0 (l_p 2 tbOk rfl ?_))
    refine l_cons (o_len tbOk hp rfl rfl rfl rfl rfl ?_)
    refine l_p 1 tbOk rfl (q1 ?_)
    refine c_ifP _ rfl (fun c2 => ?_) (fun c2 => ?_)
    · refine c_skip (x_seq (c_seq (c_blk (c_seq ?_))))
      refine a_beg Ext rfl ?_
      intro w5 ew5
      replace hE := hE.trans (Below.mono ew5 hB)
      replace hp := hp.ext ew5
      replace hlow := hlow.ext ew5
      replace hB := Nat.le_trans hB ew5.size
      have hS : Ext w5 w5 := ext_refl _
      have D_hp := hp
      refine a_p 0 tbOk rfl rfl rfl rfl (by kernel_rfl) (fun _ _ _ h => h) hS ?_
      refine a_p 1 tbOk rfl rfl rfl rfl (by kernel_rfl) (fun _ _ _ h => h) hS ?_
      have hklx3 : k < (partsL t).length := by omega
      refine a_ixS 2 tbOk D_hp (List.getElem?_eq_getElem hil) rfl rfl rfl rfl rfl rfl rfl rfl rfl rfl (by kernel_rfl) (fun _ _ _ _ h => h) hS ?_
      intro ebx3 eox3 eux3 hyx3 hatx3
      obtain ⟨kvx3, rfl, opx3, nmx3, n64x3, hkx3⟩ := ty_open hyx3
      replace hatx3 : At M w5 ebx3 eox3 [.int .u8 (partsL t)[i].op, .string (partsL t)[i].name, .int .i64 (partsL t)[i].n, kvx3] := hatx3
      refine a_p 3 tbOk rfl rfl rfl rfl (by kernel_rfl) (fun _ _ _ h => h) hS ?_
      refine a_ld 4 tbOk (fun _ hs => (hatx3.ext hs).cell 0 _ rfl) rfl rfl rfl rfl rfl rfl (by kernel_rfl) (fun _ _ _ h => h) hS ?_
      refine a_p 5 tbOk rfl rfl rfl rfl (by kernel_rfl) (fun _ _ _ h => h) hS ?_
      refine a_p 6 tbOk rfl rfl rfl rfl (by kernel_rfl) (fun _ _ _ h => h) hS ?_
      refine a_splitP 26 _ rfl (fun c4 => ?_) (fun c4 => ?_)
      · refine a_p 7 tbOk rfl rfl rfl rfl (by kernel_rfl) (fun _ _ _ h => h) hS ?_
        refine a_p 8 tbOk rfl rfl rfl rfl (by kernel_rfl) (fun _ _ _ h => h) hS ?_
        have hklx5 : k < (partsL t).length := by omega
        refine a_ixS 9 tbOk D_hp (List.getElem?_eq_getElem hklx5) rfl rfl rfl rfl rfl rfl rfl rfl rfl rfl (by kernel_rfl) (fun _ _ _ _ h => h) hS ?_
        intro ebx5 eox5 eux5 hyx5 hatx5
        obtain ⟨kvx5, rfl, opx5, nmx5, n64x5, hkx5⟩ := ty_open hyx5
        replace hatx5 : At M w5 ebx5 eox5 [.int .u8 (partsL t)[k].op, .string (partsL t)[k].name, .int .i64 (partsL t)[k].n, kvx5] := hatx5
        refine a_p 10 tbOk rfl rfl rfl rfl (by kernel_rfl) (fun _ _ _ h => h) hS ?_
        refine a_ld 11 tbOk (fun _ hs => (hatx5.ext hs).cell 0 _ rfl) rfl rfl rfl rfl rfl rfl (by kernel_rfl) (fun _ _ _ h => h) hS ?_
        refine a_p 12 tbOk rfl rfl rfl rfl (by kernel_rfl) (fun _ _ _ h => h) hS ?_
        refine a_p 13 tbOk rfl rfl rfl rfl (by kernel_rfl) (fun _ _ _ h => h) hS ?_
        refine a_p 14 tbOk rfl rfl rfl rfl (by kernel_rfl) (fun _ _ _ h => h) hS ?_
        refine a_splitP 34 _ rfl (fun c6 => ?_) (fun c6 => ?_)
        · refine a_p 15 tbOk rfl rfl rfl rfl (by kernel_rfl) (fun _ _ _ h => h) hS ?_
          refine a_p 16 tbOk rfl rfl rfl rfl (by kernel_rfl) (fun _ _ _ h => h) hS ?_
          have hklx7 : k < (partsL t).length := by omega
          refine a_ixS 17 tbOk D_hp (List.getElem?_eq_getElem hil) rfl rfl rfl rfl rfl rfl rfl rfl rfl rfl (by kernel_rfl) (fun _ _ _ _ h => h) hS ?_
          intro ebx7 eox7 eux7 hyx7 hatx7
          obtain ⟨kvx7, rfl, opx7, nmx7, n64x7, hkx7⟩ := ty_open hyx7
          replace hatx7 : At M w5 ebx7 eox7 [.int .u8 (partsL t)[i].op, .string (partsL t)[i].name, .int .i64 (partsL t)[i].n, kvx7] := hatx7
          refine a_p 18 tbOk rfl rfl rfl rfl (by kernel_rfl) (fun _ _ _ h => h) hS ?_
          refine a_ld 19 tbOk (fun _ hs => (hatx7.ext hs).cell 2 _ rfl) rfl rfl rfl rfl rfl rfl (by kernel_rfl) (fun _ _ _ h => h) hS ?_
          refine a_p 20 tbOk rfl rfl rfl rfl (by kernel_rfl) (fun _ _ _ h => h) hS ?_
          refine a_p 21 tbOk rfl rfl rfl rfl (by kernel_rfl) (fun _ _ _ h => h) hS ?_
          have hklx8 : k < (partsL t).length := by omega
          refine a_ixS 22 tbOk D_hp (List.getElem?_eq_getElem hklx8) rfl rfl rfl rfl rfl rfl rfl rfl rfl rfl (by kernel_rfl) (fun _ _ _ _ h => h) hS ?_
          intro ebx8 eox8 eux8 hyx8 hatx8
          obtain ⟨kvx8, rfl, opx8, nmx8, n64x8, hkx8⟩ := ty_open hyx8
          replace hatx8 : At M w5 ebx8 eox8 [.int .u8 (partsL t)[k].op, .string (partsL t)[k].name, .int .i64 (partsL t)[k].n, kvx8] := hatx8
          refine a_p 23 tbOk rfl rfl rfl rfl (by kernel_rfl) (fun _ _ _ h => h) hS ?_
          refine a_ld 24 tbOk (fun _ hs => (hatx8.ext hs).cell 2 _ rfl) rfl rfl rfl rfl rfl rfl (by kernel_rfl) (fun _ _ _ h => h) hS ?_
          refine a_p 25 tbOk rfl rfl rfl rfl (by kernel_rfl) (fun _ _ _ h => h) hS ?_
          refine a_p 26 tbOk rfl rfl rfl rfl (by kernel_rfl) (fun _ _ _ h => h) hS ?_
          refine a_end (by kernel_rfl) ?_
          refine x_seq ?_
          refine c_ifP _ rfl (fun c9 => ?_) (fun c9 => ?_)
          · refine q0 (l_p 1 tbOk rfl (q1 (c_ret (x_blkR (x_seqR (x_seqR (x_blkR (x_blkR (x_seqR (x_seqR (x_blkR (x_seqR (x_ret1 rfl rfl ?_)))))))))))))
            have hkl : k < (partsL t).length := by omega
            exact ⟨by rw [once_no hil hkl (by assumption) (by assumption) (by assumption)], hE⟩
          refine c_skip (x_blk (x_seq (c_reg (l_p 1 tbOk rfl ?_))))
          refine l_cons (o_ar rfl rfl rfl (IntWalk.i64_in _ (by omega)) rfl rfl ?_)
          refine l_p 1 tbOk rfl (l_nil ?_)
          have hkl : k < (partsL t).length := by omega
          exact x_round (k + 1) (s3 rfl rfl rfl) ⟨by omega, conf_step hin hkl (fun h => by obtain ⟨h1, h2, h3⟩ := h; first | exact absurd h1 (by assumption) | exact absurd h2 (by assumption) | exact absurd h3 (by assumption)), hp, hlow, hE, hB⟩ (by omega)
        refine a_skip 15 rfl rfl rfl (by kernel_rfl) (fun _ _ _ h => h) hS ?_
        refine a_skip 16 rfl rfl rfl (by kernel_rfl) (fun _ _ _ h => h) hS ?_
        refine a_skip 17 rfl rfl rfl (by kernel_rfl) (fun _ _ _ h => h) hS ?_
        refine a_skip 18 rfl rfl rfl (by kernel_rfl) (fun _ _ _ h => h) hS ?_
        refine a_skip 19 rfl rfl rfl (by kernel_rfl) (fun _ _ _ h => h) hS ?_
        refine a_skip 20 rfl rfl rfl (by kernel_rfl) (fun _ _ _ h => h) hS ?_
        refine a_skip 21 rfl rfl rfl (by kernel_rfl) (fun _ _ _ h => h) hS ?_
        refine a_skip 22 rfl rfl rfl (by kernel_rfl) (fun _ _ _ h => h) hS ?_
        refine a_skip 23 rfl rfl rfl (by kernel_rfl) (fun _ _ _ h => h) hS ?_
        refine a_skip 24 rfl rfl rfl (by kernel_rfl) (fun _ _ _ h => h) hS ?_
        refine a_skip 25 rfl rfl rfl (by kernel_rfl) (fun _ _ _ h => h) hS ?_
        refine a_p 26 tbOk rfl rfl rfl rfl (by kernel_rfl) (fun _ _ _ h => h) hS ?_
        refine a_end (by kernel_rfl) ?_
        refine x_seq (c_ifF rfl (c_skip (x_blk (x_seq (c_reg (l_p 1 tbOk rfl ?_))))))
        refine l_cons (o_ar rfl rfl rfl (IntWalk.i64_in _ (by omega)) rfl rfl ?_)
        refine l_p 1 tbOk rfl (l_nil ?_)
        have hkl : k < (partsL t).length := by omega
        exact x_round (k + 1) (s3 rfl rfl rfl) ⟨by omega, conf_step hin hkl (fun h => by obtain ⟨h1, h2, h3⟩ := h; first | exact absurd h1 (by assumption) | exact absurd h2 (by assumption) | exact absurd h3 (by assumption)), hp, hlow, hE, hB⟩ (by omega)
      refine a_skip 7 rfl rfl rfl (by kernel_rfl) (fun _ _ _ h => h) hS ?_
      refine a_skip 8 rfl rfl rfl (by kernel_rfl) (fun _ _ _ h => h) hS ?_
      refine a_skip 9 rfl rfl rfl (by kernel_rfl) (fun _ _ _ h => h) hS ?_
      refine a_skip 10 rfl rfl rfl (by kernel_rfl) (fun _ _ _ h => h) hS ?_
      refine a_skip 11 rfl rfl rfl (by kernel_rfl) (fun _ _ _ h => h) hS ?_
      refine a_skip 12 rfl rfl rfl (by kernel_rfl) (fun _ _ _ h => h) hS ?_
      refine a_p 13 tbOk rfl rfl rfl rfl (by kernel_rfl) (fun _ _ _ h => h) hS ?_
      refine a_p 14 tbOk rfl rfl rfl rfl (by kernel_rfl) (fun _ _ _ h => h) hS ?_
      refine a_skip 15 rfl rfl rfl (by kernel_rfl) (fun _ _ _ h => h) hS ?_
      refine a_skip 16 rfl rfl rfl (by kernel_rfl) (fun _ _ _ h => h) hS ?_
      refine a_skip 17 rfl rfl rfl (by kernel_rfl) (fun _ _ _ h => h) hS ?_
      refine a_skip 18 rfl rfl rfl (by kernel_rfl) (fun _ _ _ h => h) hS ?_
      refine a_skip 19 rfl rfl rfl (by kernel_rfl) (fun _ _ _ h => h) hS ?_
      refine a_skip 20 rfl rfl rfl (by kernel_rfl) (fun _ _ _ h => h) hS ?_
      refine a_skip 21 rfl rfl rfl (by kernel_rfl) (fun _ _ _ h => h) hS ?_
      refine a_skip 22 rfl rfl rfl (by kernel_rfl) (fun _ _ _ h => h) hS ?_
      refine a_skip 23 rfl rfl rfl (by kernel_rfl) (fun _ _ _ h => h) hS ?_
      refine a_skip 24 rfl rfl rfl (by kernel_rfl) (fun _ _ _ h => h) hS ?_
      refine a_skip 25 rfl rfl rfl (by kernel_rfl) (fun _ _ _ h => h) hS ?_
      refine a_p 26 tbOk rfl rfl rfl rfl (by kernel_rfl) (fun _ _ _ h => h) hS ?_
      refine a_end (by kernel_rfl) ?_
      refine x_seq (c_ifF rfl (c_skip (x_blk (x_seq (c_reg (l_p 1 tbOk rfl ?_))))))
      refine l_cons (o_ar rfl rfl rfl (IntWalk.i64_in _ (by omega)) rfl rfl ?_)
      refine l_p 1 tbOk rfl (l_nil ?_)
      have hkl : k < (partsL t).length := by omega
      exact x_round (k + 1) (s3 rfl rfl rfl) ⟨by omega, conf_step hin hkl (fun h => by obtain ⟨h1, h2, h3⟩ := h; first | exact absurd h1 (by assumption) | exact absurd h2 (by assumption) | exact absurd h3 (by assumption)), hp, hlow, hE, hB⟩ (by omega)
    refine c_exit (x_seqE (x_seqE (x_blkE (x_blk (x_seq (c_reg (l_p 1 tbOk rfl ?_)))))))
    refine l_cons (o_ar rfl rfl rfl (IntWalk.i64_in _ (by omega)) rfl rfl ?_)
    refine l_p 1 tbOk rfl (l_nil ?_)
    exact x_round (i + 1) (s2 rfl rfl) ⟨by omega, conf_row hout hil (fun b y hb hy => hin b y (by omega) hy), hp, hlow, hE, hB⟩ (by omega)
  refine c_exit (x_seqE (x_seqE (x_blkE (x_seq (q0 (l_p 1 tbOk rfl (q1 (c_ret (x_ret1 rfl rfl ?_)))))))))
  exact ⟨by rw [once_yes (fun a b x y hx hy => hout a b x y (by have := (List.getElem?_eq_some_iff.1 hx).1; omega) hx hy)], hE⟩

/-- The document's Right. -/
theorem refRight_spec (t : Ty) (M : Nat → Prop) (w : World) (v : Value) (ht : Rep.R M w v t) (hlow : Low M w) (hsz : psz t ≤ 2000000) :
    Calls Try.prog 45 #[v] w (Ret fun r w' => r = .bool (rightB t) ∧ Ext w w') := by
  have hE : Below w.heap.size w w := Below.refl _ _
  have hB : w.heap.size ≤ w.heap.size := Nat.le_refl _
  obtain ⟨kv, rfl, op, nm, n64, hk⟩ := ty_open ht
  refine c_enter (n := 9) Try.func45 rfl rfl rfl ?_
  refine q0 ?_
  refine l_cons (o_box rfl rfl rfl ?_)
  intro b1 w1 hb_b1 ew1 h1
  replace h1 : Box _ b1 40 [.int .u8 t.op, .string t.name, .int .i64 t.n, kv] := h1
  replace h1 := h1.at (nM_of hlow hb_b1)
  replace hE := hE.trans (Below.mono ew1 hB)
  replace ht := Rep.ext ht ew1
  replace hk := hk.ext ew1
  replace hlow := hlow.ext ew1
  replace hB := Nat.le_trans hB ew1.size
  refine l_p 1 tbOk rfl (q1 (q0 ?_))
  refine l_cons (o_lds tbOk (fun j v hv => h1.cell j v hv) rfl rfl rfl rfl rfl rfl ?_)
  refine l_cons (o_call fo60 rfl rfl rfl (shape_spec t 116 M _ _ ht hlow) ?_)
  rintro _ w2 ⟨rfl, ew2⟩
  replace hE := hE.trans (Below.mono ew2 hB)
  replace ht := Rep.ext ht ew2
  replace hk := hk.ext ew2
  replace h1 := h1.ext ew2
  replace hlow := hlow.ext ew2
  replace hB := Nat.le_trans hB ew2.size
  refine l_p 1 tbOk rfl ?_
  refine l_split 5 _ rfl (fun c1 => ?_) (fun c1 => ?_)
  · refine l_cons (o_lds tbOk (fun j v hv => h1.cell j v hv) rfl rfl rfl rfl rfl rfl ?_)
    refine l_cons (o_call fo61 rfl rfl rfl (once_spec t M _ _ ht hlow hsz) ?_)
    rintro _ w3 ⟨rfl, ew3⟩
    replace hE := hE.trans (Below.mono ew3 hB)
    replace ht := Rep.ext ht ew3
    replace hk := hk.ext ew3
    replace h1 := h1.ext ew3
    replace hlow := hlow.ext ew3
    replace hB := Nat.le_trans hB ew3.size
    refine l_p 2 tbOk rfl (q1 (c_ret (x_ret1 rfl rfl ?_)))
    exact ⟨by simp_all [rightB], hE⟩
  refine l_p 4 tbOk rfl (q1 (c_ret (x_ret1 rfl rfl ?_)))
  exact ⟨by simp_all [rightB], hE⟩

/-- The document's Row. -/
theorem refRow_spec (t : Ty) (M : Nat → Prop) (w : World) (v : Value) (ht : Rep.R M w v t) (hlow : Low M w) (hsz : psz t ≤ 2000000) :
    Calls Try.prog 20 #[v] w (Ret fun r w' => r = .bool (rowB t) ∧ Ext w w') := by
  have hE : Below w.heap.size w w := Below.refl _ _
  have hB : w.heap.size ≤ w.heap.size := Nat.le_refl _
  obtain ⟨kv, rfl, op, nm, n64, hk⟩ := ty_open ht
  refine c_enter (n := 9) Try.func20 rfl rfl rfl ?_
  refine q0 ?_
  refine l_cons (o_box rfl rfl rfl ?_)
  intro b1 w1 hb_b1 ew1 h1
  replace h1 : Box _ b1 40 [.int .u8 t.op, .string t.name, .int .i64 t.n, kv] := h1
  replace h1 := h1.at (nM_of hlow hb_b1)
  replace hE := hE.trans (Below.mono ew1 hB)
  replace ht := Rep.ext ht ew1
  replace hk := hk.ext ew1
  replace hlow := hlow.ext ew1
  replace hB := Nat.le_trans hB ew1.size
  refine l_p 1 tbOk rfl (q1 (q0 ?_))
  refine l_cons (o_lds tbOk (fun j v hv => h1.cell j v hv) rfl rfl rfl rfl rfl rfl ?_)
  refine l_cons (o_call fo60 rfl rfl rfl (shape_spec t 114 M _ _ ht hlow) ?_)
  rintro _ w2 ⟨rfl, ew2⟩
  replace hE := hE.trans (Below.mono ew2 hB)
  replace ht := Rep.ext ht ew2
  replace hk := hk.ext ew2
  replace h1 := h1.ext ew2
  replace hlow := hlow.ext ew2
  replace hB := Nat.le_trans hB ew2.size
  refine l_p 1 tbOk rfl ?_
  refine l_split 5 _ rfl (fun c1 => ?_) (fun c1 => ?_)
  · refine l_cons (o_lds tbOk (fun j v hv => h1.cell j v hv) rfl rfl rfl rfl rfl rfl ?_)
    refine l_cons (o_call fo61 rfl rfl rfl (once_spec t M _ _ ht hlow hsz) ?_)
    rintro _ w3 ⟨rfl, ew3⟩
    replace hE := hE.trans (Below.mono ew3 hB)
    replace ht := Rep.ext ht ew3
    replace hk := hk.ext ew3
    replace h1 := h1.ext ew3
    replace hlow := hlow.ext ew3
    replace hB := Nat.le_trans hB ew3.size
    refine l_p 2 tbOk rfl (q1 (c_ret (x_ret1 rfl rfl ?_)))
    exact ⟨by simp_all [rowB], hE⟩
  refine l_p 4 tbOk rfl (q1 (c_ret (x_ret1 rfl rfl ?_)))
  exact ⟨by simp_all [rowB], hE⟩

/-- copied: the same, in new memory. -/
theorem copied_own : ∀ (t : Ty) (M : Nat → Prop) (w : World) (v : Value), Rep.R M w v t → Low M w → psz t ≤ 2000000 → Calls Try.prog 93 #[v] w (Ret fun r w' => OTy 40 w.heap.size w' t r (Plus NoM w w') ∧ Ext w w') := by
  refine Ty.ind fun t ih => ?_
  intro M w v ht hlow0 hsz
  have hlow := hlow0
  have hB : w.heap.size ≤ w.heap.size := Nat.le_refl _
  have hE : Below w.heap.size w w := Below.refl _ _
  have hsub : ∀ b, M b → M b := fun _ h => h
  obtain ⟨kv, rfl, op, nm, n64, hk⟩ := ty_open ht
  have hps := psz_eq t
  have hkl := len_psz t.kids
  refine c_enter (n := 22) Try.func93 rfl rfl rfl ?_
  refine q0 ?_
  refine l_cons (o_box rfl rfl rfl ?_)
  intro b1 w1 qb1 ew1 hb1
  have sw1 := Stp.add ew1 hlow hB (Nat.le_of_eq qb1.symm) hb1.lt
  have h1 : MB w.heap.size (Rw.Add M b1) w1 b1 40 [.int .u8 t.op, .string t.name, .int .i64 t.n, kv] := MB.mk' hb1 qb1 hB
  replace hE := hE.trans sw1.below
  replace ht := Rep.stp ht sw1
  replace hk := hk.stp sw1
  replace hsub := fun b h => sw1.sub b (hsub b h)
  replace hlow := sw1.low
  replace hB := Nat.le_trans hB sw1.upd.1
  refine l_cons (o_new tbOk rfl rfl rfl ?_)
  intro b2 w2 qb2 ew2 hb2
  have ne_h1_h2 : b1 ≠ b2 := by have := h1.lt; omega
  have sw2 := Stp.add ew2 hlow hB (Nat.le_of_eq qb2.symm) hb2.lt
  have h2 : MB w.heap.size (Rw.Add (Rw.Add M b1) b2) w2 b2 40 [.int .u8 0, .string ⟨#[]⟩, .int .i64 0, .slice none 0 0] := MB.mk' hb2 qb2 hB
  replace h1 := h1.stp sw2 (ew2.block b1 h1.lt)
  replace hE := hE.trans sw2.below
  replace ht := Rep.stp ht sw2
  replace hk := hk.stp sw2
  replace hsub := fun b h => sw2.sub b (hsub b h)
  replace hlow := sw2.low
  replace hB := Nat.le_trans hB sw2.upd.1
  refine q1 (q0 (l_p 1 tbOk rfl (q1 (c_seq (q0 (l_p 1 tbOk rfl ?_))))))
  refine l_cons (o_ld tbOk (h1.cell 3 _ rfl) rfl rfl rfl rfl rfl ?_)
  refine l_cons (o_len tbOk hk rfl rfl rfl rfl rfl ?_)
  refine l_p 1 tbOk rfl (q1 (c_blk ?_))
  have d_ho_h1 : ∀ x, (.slice none 0 0 : Value).ownBlock = some x → x ≠ b1 := fun x hx => by simp [Value.ownBlock] at hx
  have d_ho_h2 : ∀ x, (.slice none 0 0 : Value).ownBlock = some x → x ≠ b2 := fun x hx => by simp [Value.ownBlock] at hx
  have d_hO_h1 : ∀ x, NoM x → x ≠ b1 := fun _ h => h.elim
  have d_hO_h2 : ∀ x, NoM x → x ≠ b2 := fun _ h => h.elim
  have dd_ho_hO : ∀ x y, (.slice none 0 0 : Value).ownBlock = some x → NoM y → x ≠ y := fun _ _ _ h => h.elim
  refine c_loop5 (X := Nat) (Y := Value) (Z := Nat → Prop) (U := List (VN 3)) (V := Nat → Prop) (fun i v M1 us F => [(1, .pointer (some ⟨b1, 0, none⟩)), (2, .pointer (some ⟨b2, 0, none⟩)), (3, v), (7, kv), (8, .int .i64 (t.kids.length : Int)), (9, .int .i64 (i : Nat))]) (fun i v M1 us F w' => i ≤ t.kids.length ∧ OwnSl 40 w.heap.size M1 w' v us ∧ OTs 40 w.heap.size w' us (t.kids.take i) F ∧ MB w.heap.size M1 w' b1 40 [.int .u8 t.op, .string t.name, .int .i64 t.n, kv] ∧ MB w.heap.size M1 w' b2 40 [.int .u8 0, .string ⟨#[]⟩, .int .i64 0, .slice none 0 0] ∧ (∀ x, (v : Value).ownBlock = some x → x ≠ b1) ∧ (∀ x, (v : Value).ownBlock = some x → x ≠ b2) ∧ (∀ x, F x → x ≠ b1) ∧ (∀ x, F x → x ≠ b2) ∧ (∀ x y, (v : Value).ownBlock = some x → F y → x ≠ y) ∧ Sl M1 w' kv t.kids ∧ Low M1 w' ∧ (∀ b, M b → M1 b) ∧ Below w.heap.size w w' ∧ w.heap.size ≤ w'.heap.size) (fun i v M1 us F => t.kids.length - i) (0) (.slice none 0 0) ((Rw.Add (Rw.Add M b1) b2)) ([]) (NoM) (s6 rfl rfl rfl rfl rfl rfl) ?_ ?_
  · exact ⟨Nat.zero_le _, own_nil, ots_nil (fun _ h => h.elim), h1, h2, d_ho_h1, d_ho_h2, d_hO_h1, d_hO_h2, dd_ho_hO, hk, hlow, hsub, hE, hB⟩
  rintro i v M1 us F w3 ⟨hi, ho, hO, h1, h2, d_ho_h1, d_ho_h2, d_hO_h1, d_hO_h2, dd_ho_hO, hk, hlow, hsub, hE, hB⟩
  have hul := hO.len
  rw [List.length_take] at hul
  refine q0 (l_p 1 tbOk rfl (q1 (c_seq ?_)))
  refine c_ifP _ rfl (fun c1 => ?_) (fun c1 => ?_)
  · refine c_skip (x_seq (c_seq (c_blk (q0 ?_))))
    have hik : i < t.kids.length := by omega
    have hp1 := psz_get hik
    refine l_cons (o_ixS tbOk hk (List.getElem?_eq_getElem hik) rfl rfl rfl rfl rfl rfl rfl rfl rfl ?_)
    intro ebx eox eux hyx hatx
    obtain ⟨kvx, rfl, opx, nmx, n64x, hkx⟩ := ty_open hyx
    replace hatx : At M1 w3 ebx eox [.int .u8 t.kids[i].op, .string t.kids[i].name, .int .i64 t.kids[i].n, kvx] := hatx
    refine l_cons (o_lds tbOk (fun j v hv => hatx.cell j v hv) rfl rfl rfl rfl rfl rfl ?_)
    refine l_cons (o_new tbOk rfl rfl rfl ?_)
    intro b5 w4 qb5 ew4 hb5
    have nb5 := nM_of hlow qb5
    refine l_cons (o_st tbOk hb5 rfl rfl rfl rfl (Rep.one hyx) rfl rfl ?_)
    intro w5 h5 uw5 bew5
    have ew5 : Ext w3 w5 := ew4.trans (bew5 _ (Nat.le_of_eq qb5.symm))
    replace ho := ho.ext hlow hB ew5
    replace hO := hO.ext hlow hB ew5
    replace h1 := h1.ext hlow hB ew5
    replace h2 := h2.ext hlow hB ew5
    replace hE := hE.trans (Below.mono ew5 hB)
    replace hk := hk.ext ew5
    replace hyx := Rep.ext hyx ew5
    replace hkx := hkx.ext ew5
    replace hatx := hatx.ext ew5
    replace hlow := hlow.ext ew5
    replace hB := Nat.le_trans hB ew5.size
    replace h5 : Box w5 b5 40 [.int .u8 t.kids[i].op, .string t.kids[i].name, .int .i64 t.kids[i].n, kvx] := h5
    replace h5 := h5.at nb5
    refine q1 (c_reg (l_p 1 tbOk rfl ?_))
    refine l_cons (o_lds tbOk (fun j v hv => h5.cell j v hv) rfl rfl rfl rfl rfl rfl ?_)
    have l_h1 := h1.lt
    have l_h2 := h2.lt
    have l_ho := ho.lt
    have l_hO := hO.lt
    have hB0 := hB
    refine l_cons (o_call fo93 rfl rfl rfl (ih _ (List.getElem_mem hik) _ _ _ hyx hlow (by omega)) ?_)
    rintro vr w6 ⟨hr, ew6⟩
    replace hr := hr.ge hB0
    have hGl : ∀ c, Plus NoM w5 w6 c → w5.heap.size ≤ c := fun c h => h.elim (fun h => h.elim) (fun h => h.1)
    replace ho := ho.ext hlow hB ew6
    replace hO := hO.ext hlow hB ew6
    replace h1 := h1.ext hlow hB ew6
    replace h2 := h2.ext hlow hB ew6
    replace hE := hE.trans (Below.mono ew6 hB)
    replace hk := hk.ext ew6
    replace hyx := Rep.ext hyx ew6
    replace hkx := hkx.ext ew6
    replace hatx := hatx.ext ew6
    replace h5 := h5.ext ew6
    replace hlow := hlow.ext ew6
    replace hB := Nat.le_trans hB ew6.size
    generalize Plus NoM w5 w6 = G at hr hGl
    have d_hr_h1 : ∀ x, G x → x ≠ b1 := fun x hx => by have := hGl x hx; omega
    have d_hr_h2 : ∀ x, G x → x ≠ b2 := fun x hx => by have := hGl x hx; omega
    have dd_ho_hr : ∀ x y, (v : Value).ownBlock = some x → G y → x ≠ y := fun x y hx hy => by have := hGl y hy; have := (l_ho x hx).2; omega
    have dd_hr_hO : ∀ c, G c → ¬ F c := fun c hg hf => by have := hGl c hg; have := (l_hO c hf).2; omega
    refine l_cons (o_bs tbOk rfl rfl rfl rfl rfl rfl rfl (sz1 hr.size) rfl rfl rfl ?_)
    intro bw7 w7 qbw7 ew7 hbw7
    have nbw7 := nM_of hlow qbw7
    replace ho := ho.ext hlow hB ew7
    replace hO := hO.ext hlow hB ew7
    replace h1 := h1.ext hlow hB ew7
    replace h2 := h2.ext hlow hB ew7
    replace hr := hr.ext hlow hB ew7
    replace hE := hE.trans (Below.mono ew7 hB)
    replace hk := hk.ext ew7
    replace hyx := Rep.ext hyx ew7
    replace hkx := hkx.ext ew7
    replace hatx := hatx.ext ew7
    replace h5 := h5.ext ew7
    replace hlow := hlow.ext ew7
    replace hB := Nat.le_trans hB ew7.size
    refine l_cons (o_app1 tbOk ho hbw7 nbw7 hr.vn hlow hB rfl rfl rfl rfl rfl rfl rfl (by omega) (by show (_ + _) * 56 ≤ _; omega) rfl rfl ?_)
    intro vw8 w8 Mw8 hw8 sw8 frw8 blw8
    have zd_ho_h1 := d_ho_h1
    replace d_ho_h1 : ∀ x, (vw8 : Value).ownBlock = some x → x ≠ b1 := fun x hx => (blw8 x hx).elim (d_ho_h1 x) (fun h e => by have := h1.lt; omega)
    have zd_ho_h2 := d_ho_h2
    replace d_ho_h2 : ∀ x, (vw8 : Value).ownBlock = some x → x ≠ b2 := fun x hx => (blw8 x hx).elim (d_ho_h2 x) (fun h e => by have := h2.lt; omega)
    have zdd_ho_hO := dd_ho_hO
    replace dd_ho_hO : ∀ x y, (vw8 : Value).ownBlock = some x → F y → x ≠ y := fun x y hx hy => (blw8 x hx).elim (fun h => dd_ho_hO x y h hy) (fun h e => by have := (hO.lt y hy).2; omega)
    have zdd_ho_hr := dd_ho_hr
    replace dd_ho_hr : ∀ x y, (vw8 : Value).ownBlock = some x → G y → x ≠ y := fun x y hx hy => (blw8 x hx).elim (fun h => dd_ho_hr x y h hy) (fun h e => by have := (hr.lt y hy).2; omega)
    replace hO := hO.stp sw8 (fun x hx => frw8 x (hO.lt x hx).2 (fun e => zdd_ho_hO x x e.symm hx rfl))
    replace h1 := h1.stp sw8 (frw8 b1 h1.lt (fun e => zd_ho_h1 _ e.symm rfl))
    replace h2 := h2.stp sw8 (frw8 b2 h2.lt (fun e => zd_ho_h2 _ e.symm rfl))
    replace hr := hr.stp sw8 (fun x hx => frw8 x (hr.lt x hx).2 (fun e => zdd_ho_hr x x e.symm hx rfl))
    replace hE := hE.trans sw8.below
    replace hk := hk.stp sw8
    replace hyx := Rep.stp hyx sw8
    replace hkx := hkx.stp sw8
    replace hatx := hatx.stp sw8
    replace h5 := h5.stp sw8
    replace hsub := fun b h => sw8.sub b (hsub b h)
    replace hlow := sw8.low
    replace hB := Nat.le_trans hB sw8.upd.1
    replace ho := hw8
    clear hw8
    refine l_p 1 tbOk rfl (q2 (x_seq (c_reg ?_)))
    refine l_cons (o_ar rfl rfl rfl (IntWalk.i64_in _ (by omega)) rfl rfl ?_)
    refine l_p 1 tbOk rfl (l_nil ?_)
    have hO2 := hO.app hr dd_hr_hO
    exact x_round5 (i + 1) (vw8) (Mw8) (us ++ [⟨vr⟩]) (fun c => F c ∨ G c) (s6 rfl rfl rfl rfl rfl rfl) ⟨by omega, ho, by rw [List.take_succ_eq_append_getElem hik]; exact hO2, h1, h2, d_ho_h1, d_ho_h2, (fun x hx => hx.elim (d_hO_h1 x) (d_hr_h1 x)), (fun x hx => hx.elim (d_hO_h2 x) (d_hr_h2 x)), (fun x y hx hy => hy.elim (dd_ho_hO x y hx) (dd_ho_hr x y hx)), hk, hlow, hsub, hE, hB⟩ (by omega)
  refine c_exit (x_seqE (x_seqE (x_blkE (x_seq (q0 (l_p 2 tbOk rfl ?_))))))
  obtain rfl : i = t.kids.length := by omega
  rw [List.take_of_length_le (Nat.le_refl _)] at hO
  obtain ⟨av, cv, rfl, hcv⟩ := ho.val
  refine l_cons (o_st tbOk h1.box rfl rfl rfl rfl (by simp [Value.cells, Value.oneCell']) rfl rfl ?_)
  intro w9 hw9 qw9 bew9
  have uw9 : UpdB _ _ _ := ⟨qw9, bew9⟩
  have sw9 := uw9.stp h1.inM hlow h1.ge
  have frw9 := qw9.2
  replace ho := ho.stp sw9 (fun x hx => frw9 x (ho.lt x hx).2 (d_ho_h1 x hx))
  replace hO := hO.stp sw9 (fun x hx => frw9 x (hO.lt x hx).2 (d_hO_h1 x hx))
  replace h2 := h2.stp sw9 (frw9 b2 h2.lt ne_h1_h2.symm)
  replace hE := hE.trans sw9.below
  replace hk := hk.stp sw9
  replace hsub := fun b h => sw9.sub b (hsub b h)
  replace hlow := sw9.low
  replace hB := Nat.le_trans hB sw9.upd.1
  replace h1 : MB w.heap.size _ w9 b1 _ [.int .u8 t.op, .string t.name, .int .i64 t.n, .slice av us.length cv] := ⟨hw9, h1.inM, h1.ge⟩
  refine q1 (q0 ?_)
  refine l_cons (o_lds tbOk (fun j v hv => h1.cell j v hv) rfl rfl rfl rfl rfl rfl ?_)
  refine l_cons (o_st tbOk h2.box rfl rfl rfl rfl (by intro u hu; simp [Value.cells] at hu; rcases hu with rfl | rfl | rfl | rfl <;> rfl) rfl rfl ?_)
  intro w10 hw10 qw10 bew10
  have uw10 : UpdB _ _ _ := ⟨qw10, bew10⟩
  have sw10 := uw10.stp h2.inM hlow h2.ge
  have frw10 := qw10.2
  replace ho := ho.stp sw10 (fun x hx => frw10 x (ho.lt x hx).2 (d_ho_h2 x hx))
  replace hO := hO.stp sw10 (fun x hx => frw10 x (hO.lt x hx).2 (d_hO_h2 x hx))
  replace h1 := h1.stp sw10 (frw10 b1 h1.lt ne_h1_h2)
  replace hE := hE.trans sw10.below
  replace hk := hk.stp sw10
  replace hsub := fun b h => sw10.sub b (hsub b h)
  replace hlow := sw10.low
  replace hB := Nat.le_trans hB sw10.upd.1
  replace h2 : MB w.heap.size _ w10 b2 _ [.int .u8 t.op, .string t.name, .int .i64 t.n, .slice av us.length cv] := ⟨hw10, h2.inM, h2.ge⟩
  refine q1 (c_ret ?_)
  refine x_ret1s tbOk (fun j v hv => h2.cell j v hv) rfl rfl rfl rfl rfl ?_
  have hfin := oty_fin op nm n64 (by omega) ho hO dd_ho_hO
  rw [← ty_eta] at hfin
  exact ⟨hfin, hE⟩

theorem copied_spec (t : Ty) (M : Nat → Prop) (w : World) (v : Value) (ht : Rep.R M w v t) (hlow : Low M w) (hsz : psz t ≤ 2000000) : Calls Try.prog 93 #[v] w (Ret fun r w' => Rep.R M w' r t ∧ Ext w w') :=
  (copied_own t M w v ht hlow hsz).mono (Ret.mono fun r w' h => ⟨h.1.repNew hlow, h.2⟩)

end Go.Proofs.Ytohfnpmehgpphaa
