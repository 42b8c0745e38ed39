/- Walks: parts of types. Printed by wip/walks/kinds1.py. -/
import Derived.Test.YtohfnpmehgpphaaTab
import Derived.Test.YtohfnpmehgpphaaBox
import Derived.Test.YtohfnpmehgpphaaPlainT
namespace Go.Proofs.Ytohfnpmehgpphaa
open Go Rw Go.RowKit
set_option maxRecDepth 4000

/-- Parts. -/
theorem parts_spec : ∀ (t : Ty) (M : Nat → Prop) (w : World) (v : Value), Rep.R M w v t → Low M w → psz t ≤ 2000000 → Calls Try.prog 40 #[v] w (Ret fun r w' => Sl M w' r (partsL t) ∧ Ext w w') := by
  refine Ty.ind fun t ih => ?_
  intro M w v ht hlow0 hsz
  have hlow := hlow0
  have hB : w.heap.size ≤ w.heap.size := Nat.le_refl _
  have hE : Below w.heap.size w w := Below.refl _ _
  have hsub : ∀ b, M b → M b := fun _ h => h
  obtain ⟨kv, rfl, op, nm, n64, hk⟩ := ty_open ht
  have hps := psz_eq t
  have hkl := len_psz t.kids
  refine c_enter (n := 23) Try.func40 rfl rfl rfl ?_
  refine q0 ?_
  refine l_cons (o_box rfl rfl rfl ?_)
  intro b1 w1 hb_b1 ew1 h1
  replace h1 : Box _ b1 40 [.int .u8 t.op, .string t.name, .int .i64 t.n, kv] := h1
  replace h1 := h1.at (nM_of hlow hb_b1)
  replace hE := hE.trans (Below.mono ew1 hB)
  replace ht := Rep.ext ht ew1
  replace hk := hk.ext ew1
  replace hlow := hlow.ext ew1
  replace hB := Nat.le_trans hB ew1.size
  refine l_p 1 tbOk rfl (q1 (q0 ?_))
  refine l_cons (o_lds tbOk (fun j v hv => h1.cell j v hv) rfl rfl rfl rfl rfl rfl ?_)
  refine l_cons (o_bs tbOk rfl rfl rfl rfl rfl rfl rfl (sz1 rfl) rfl rfl rfl ?_)
  intro bw2 w2 qbw2 ew2 hbw2
  have sw2 := Stp.add ew2 hlow hB (Nat.le_of_eq qbw2.symm) hbw2.lt
  have le_bw2 := hB
  replace hE := hE.trans sw2.below
  replace ht := Rep.stp ht sw2
  replace hk := hk.stp sw2
  replace h1 := h1.stp sw2
  replace hsub := fun b h => sw2.sub b (hsub b h)
  replace hlow := sw2.low
  replace hB := Nat.le_trans hB sw2.upd.1
  have ho := own_litS sw2 hbw2 (show Rs _ _ [_] [t] from ⟨ht, trivial⟩) qbw2 le_bw2 (by simp [maxLen])
  refine l_p 1 tbOk rfl (q1 (c_seq (q0 (l_p 1 tbOk rfl (q1 (c_blk ?_))))))
  refine c_loop3 (X := Nat) (Y := Value) (Z := Nat → Prop) (fun i v M1 => [(1, .pointer (some ⟨b1, 0, none⟩)), (3, v), (4, .int .i64 (i : Nat))]) (fun i v M1 w' => i ≤ t.kids.length ∧ OwnSl 40 w.heap.size M1 w' v (t :: (t.kids.take i).flatMap partsL) ∧ At M1 w' b1 0 [.int .u8 t.op, .string t.name, .int .i64 t.n, kv] ∧ Sl M1 w' kv t.kids ∧ Low M1 w' ∧ (∀ b, M b → M1 b) ∧ Below w.heap.size w w' ∧ w.heap.size ≤ w'.heap.size) (fun i v M1 => t.kids.length - i) (0) (.slice (some ⟨bw2, 0, none⟩) 1 1) ((Rw.Add M bw2)) (s3 rfl rfl rfl) ?_ ?_
  · exact ⟨Nat.zero_le _, ho, h1, hk, hlow, hsub, hE, hB⟩
  rintro i v M1 w3 ⟨hi, ho, h1, hk, hlow, hsub, hE, hB⟩
  refine c_seq (q0 (l_p 2 tbOk rfl ?_))
  refine l_cons (o_ld tbOk (h1.cell 3 _ rfl) rfl rfl rfl rfl rfl ?_)
  refine l_cons (o_len tbOk hk rfl rfl rfl rfl rfl ?_)
  refine l_p 1 tbOk rfl (q1 ?_)
  refine c_ifP _ rfl (fun c1 => ?_) (fun c1 => ?_)
  · refine c_skip (x_seq (c_seq (c_blk (c_reg (l_p 2 tbOk rfl ?_)))))
    refine l_cons (o_ld tbOk (h1.cell 3 _ rfl) rfl rfl rfl rfl rfl ?_)
    refine l_p 1 tbOk rfl ?_
    have hik : i < t.kids.length := by omega
    have hp1 := psz_get hik
    have hp2 := take_psz t.kids i
    refine l_cons (o_ixS tbOk hk (List.getElem?_eq_getElem hik) rfl rfl rfl rfl rfl rfl rfl rfl rfl ?_)
    intro ebx eox eux hyx hatx
    obtain ⟨kvx, rfl, opx, nmx, n64x, hkx⟩ := ty_open hyx
    replace hatx : At M1 w3 ebx eox [.int .u8 t.kids[i].op, .string t.kids[i].name, .int .i64 t.kids[i].n, kvx] := hatx
    refine l_cons (o_lds tbOk (fun j v hv => hatx.cell j v hv) rfl rfl rfl rfl rfl rfl ?_)
    refine l_cons (o_call fo40 rfl rfl rfl (ih _ (List.getElem_mem hik) _ _ _ hyx hlow (by omega)) ?_)
    rintro vhr w4 ⟨hr, ew4⟩
    replace ho := ho.ext hlow hB ew4
    replace hE := hE.trans (Below.mono ew4 hB)
    replace h1 := h1.ext ew4
    replace hk := hk.ext ew4
    replace hyx := Rep.ext hyx ew4
    replace hkx := hkx.ext ew4
    replace hatx := hatx.ext ew4
    replace hlow := hlow.ext ew4
    replace hB := Nat.le_trans hB ew4.size
    have e1 : (t :: (t.kids.take i).flatMap partsL).length = pszs (t.kids.take i) + 1 := rfl
    have e2 : (partsL t.kids[i]).length = psz t.kids[i] := rfl
    have e3 := take_psz t.kids (i + 1)
    rw [show pszs (t.kids.take (i + 1)) = pszs (t.kids.take i) + psz t.kids[i] by unfold pszs; rw [take_step hik, List.length_append]; rfl] at e3
    refine l_cons (o_app tbOk ho hr hlow hB rfl rfl rfl rfl rfl rfl rfl (by omega) (by rw [e1, e2]; show _ * 56 ≤ _; omega) rfl rfl ?_)
    intro vw5 w5 Mw5 hw5 sw5 frw5 blw5
    replace hE := hE.trans sw5.below
    replace h1 := h1.stp sw5
    replace hk := hk.stp sw5
    replace hyx := Rep.stp hyx sw5
    replace hkx := hkx.stp sw5
    replace hatx := hatx.stp sw5
    replace hr := hr.stp sw5
    replace hsub := fun b h => sw5.sub b (hsub b h)
    replace hlow := sw5.low
    replace hB := Nat.le_trans hB sw5.upd.1
    replace ho := hw5
    clear hw5
    refine l_p 1 tbOk rfl (q2 (x_seq (c_reg (l_p 1 tbOk rfl ?_))))
    refine l_cons (o_ar rfl rfl rfl (IntWalk.i64_in _ (by omega)) rfl rfl ?_)
    refine l_p 1 tbOk rfl (l_nil ?_)
    exact x_round3 (i + 1) (vw5) (Mw5) (s3 rfl rfl rfl) ⟨by omega, by rw [take_step hik]; exact ho, h1, hk, hlow, hsub, hE, hB⟩ (by omega)
  refine c_exit (x_seqE (x_seqE (x_blkE (x_seq (q0 (l_p 2 tbOk rfl (q1 (c_ret (x_ret1 rfl rfl ?_)))))))))
  obtain rfl : i = t.kids.length := by omega
  rw [List.take_of_length_le (Nat.le_refl _), ← partsL_eq] at ho
  exact ⟨ho.sl (by have : (partsL t).length = psz t := rfl; omega) hlow0 hsub, hE⟩

end Go.Proofs.Ytohfnpmehgpphaa
