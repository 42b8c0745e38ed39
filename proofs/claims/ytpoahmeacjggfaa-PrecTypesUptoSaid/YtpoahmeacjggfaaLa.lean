/- Walks: the law KindsRight. Printed by wip/walks/kinds9.py. -/
import Derived.Test.YtpoahmeacjggfaaWh
import Derived.Test.YtpoahmeacjggfaaMore
namespace Go.Proofs.Ytpoahmeacjggfaa
open Go Rw Go.RowKit
set_option maxRecDepth 100000

theorem kRight_specB (t : Ty) (M : Nat → Prop) (w : World) (v : Value) (ht : Rep.R M w v t) (hlow : Low M w) : Calls Try.prog 16 #[v] w (Ret fun r w' => r = .bool (rightB t) ∧ Ext w w') := by
  have h := kRight_spec t M w v ht hlow
  rwa [rightB_law] at h
theorem kRow_specB (t : Ty) (M : Nat → Prop) (w : World) (v : Value) (ht : Rep.R M w v t) (hlow : Low M w) : Calls Try.prog 18 #[v] w (Ret fun r w' => r = .bool (rowB t) ∧ Ext w w') := by
  have h := kRow_spec t M w v ht hlow
  rwa [rowB_law] at h

/-- KindsRight: true. -/
theorem kindsRight_spec (t : Ty) (M : Nat → Prop) (w : World) (v : Value) (ht : Rep.R M w v t) (hsz : psz t ≤ 2000000) (hlow : Low M w) :
    Calls Try.prog 3 #[v] w (Ret fun r w' => r = .bool true ∧ Ext w w') := by
  have hE : Below w.heap.size w w := Below.refl _ _
  have hB : w.heap.size ≤ w.heap.size := Nat.le_refl _
  obtain ⟨kv, rfl, op, nm, n64, hk⟩ := ty_open ht
  refine c_enter (n := 27) Try.func3 rfl rfl rfl ?_
  refine c_seq ?_
  refine c_reg ?_
  refine l_cons (o_box rfl rfl rfl ?_)
  intro b1 w1 hb_b1 ew1 h1
  replace h1 : Box _ b1 25 [.int .u8 t.op, .string t.name, .int .i64 t.n, kv] := h1
  replace h1 := h1.at (nM_of hlow hb_b1)
  replace hE := hE.trans (Below.mono ew1 hB)
  replace ht := Rep.ext ht ew1
  replace hk := hk.ext ew1
  replace hlow := hlow.ext ew1
  replace hB := Nat.le_trans hB ew1.size
  refine l_cons (o_p tbOk rfl rfl rfl ?_)
  refine l_nil ?_
  refine x_seq ?_
  refine c_seq ?_
  refine c_seq ?_
  refine c_reg ?_
  refine l_cons (o_call fo14 rfl rfl rfl (alive_spec M _ hlow) ?_)
  rintro _ w2 ⟨rfl, ew2⟩
  replace hE := hE.trans (Below.mono ew2 hB)
  replace ht := Rep.ext ht ew2
  replace hk := hk.ext ew2
  replace h1 := h1.ext ew2
  replace hlow := hlow.ext ew2
  replace hB := Nat.le_trans hB ew2.size
  refine l_cons (o_p tbOk rfl rfl rfl ?_)
  refine l_nil ?_
  refine x_seq ?_
  refine c_ifB _ rfl (fun c1 => ?_) (fun c1 => ?_)
  · exact absurd c1 (by simp)
  · refine c_skip ?_
    refine x_seq ?_
    refine c_seq ?_
    refine c_seq ?_
    refine c_reg ?_
    refine l_cons (o_lds tbOk (fun j v hv => h1.cell j v hv) rfl rfl rfl rfl rfl rfl ?_)
    refine l_cons (o_call fo15 rfl rfl rfl (many_spec t M _ _ ht hlow hsz) ?_)
    rintro _ w3 ⟨rfl, ew3⟩
    replace hE := hE.trans (Below.mono ew3 hB)
    replace ht := Rep.ext ht ew3
    replace hk := hk.ext ew3
    replace h1 := h1.ext ew3
    replace hlow := hlow.ext ew3
    replace hB := Nat.le_trans hB ew3.size
    refine l_nil ?_
    refine x_seq ?_
    refine c_if _ rfl (fun c2 => ?_) (fun c2 => ?_)
    · refine c_seq ?_
      refine c_reg ?_
      refine l_cons (o_p tbOk rfl rfl rfl ?_)
      refine l_nil ?_
      refine x_seq ?_
      refine c_ret ?_
      refine x_seqR ?_
      refine x_ret1 rfl rfl ?_
      exact ⟨by simp [psz], hE⟩
    · refine c_skip ?_
      refine x_seq ?_
      refine c_seq ?_
      refine a_beg Ext rfl ?_
      intro w4 ew4
      replace hE := hE.trans (Below.mono ew4 hB)
      replace ht := Rep.ext ht ew4
      replace hk := hk.ext ew4
      replace h1 := h1.ext ew4
      replace hlow := hlow.ext ew4
      replace hB := Nat.le_trans hB ew4.size
      have hS : Ext w4 w4 := ext_refl _
      have D_hk := hk
      have D_h1 := h1
      refine a_lds 0 tbOk (fun _ hs j v hv => (D_h1.ext hs).cell j v hv) rfl rfl rfl rfl rfl rfl rfl (by kernel_rfl) (fun _ _ _ h => h) hS ?_
      refine a_lds 2 tbOk (fun _ hs j v hv => (D_h1.ext hs).cell j v hv) rfl rfl rfl rfl rfl rfl rfl (by kernel_rfl) (fun _ _ _ h => h) hS ?_
      refine a_one 1 rfl (by kernel_rfl) (o_call fo16 rfl rfl rfl (kRight_specB t M _ _ ht hlow) ?_)
      rintro _ w5 ⟨rfl, ew5⟩
      replace hS := hS.then ew5
      replace hE := hE.trans (Below.mono ew5 hB)
      replace ht := Rep.ext ht ew5
      replace hk := hk.ext ew5
      replace h1 := h1.ext ew5
      replace hlow := hlow.ext ew5
      replace hB := Nat.le_trans hB ew5.size
      refine ⟨hS, ?_⟩
      refine a_bar 3 rfl (by kernel_rfl) (by kernel_rfl) (o_call fo17 rfl rfl rfl (refRight_spec t M _ _ ht hlow hsz) ?_)
      rintro _ w6 ⟨rfl, ew6⟩
      replace hS := hS.then ew6
      replace hE := hE.trans (Below.mono ew6 hB)
      replace ht := Rep.ext ht ew6
      replace hk := hk.ext ew6
      replace h1 := h1.ext ew6
      replace hlow := hlow.ext ew6
      replace hB := Nat.le_trans hB ew6.size
      refine a_bar 4 rfl (by kernel_rfl) (by kernel_rfl) (o_beq tbOk rfl rfl rfl rfl rfl rfl ?_)
      refine a_p 5 tbOk rfl rfl rfl rfl (by kernel_rfl) (fun _ _ _ h => h) hS ?_
      refine a_split 12 _ rfl (fun c3 => ?_) (fun c3 => ?_)
      · refine a_lds 6 tbOk (fun _ hs j v hv => (D_h1.ext hs).cell j v hv) rfl rfl rfl rfl rfl rfl rfl (by kernel_rfl) (fun _ _ _ h => h) hS ?_
        refine a_lds 8 tbOk (fun _ hs j v hv => (D_h1.ext hs).cell j v hv) rfl rfl rfl rfl rfl rfl rfl (by kernel_rfl) (fun _ _ _ h => h) hS ?_
        refine a_one 7 rfl (by kernel_rfl) (o_call fo18 rfl rfl rfl (kRow_specB t M _ _ ht hlow) ?_)
        rintro _ w7 ⟨rfl, ew7⟩
        replace hS := hS.then ew7
        replace hE := hE.trans (Below.mono ew7 hB)
        replace ht := Rep.ext ht ew7
        replace hk := hk.ext ew7
        replace h1 := h1.ext ew7
        replace hlow := hlow.ext ew7
        replace hB := Nat.le_trans hB ew7.size
        refine ⟨hS, ?_⟩
        refine a_bar 9 rfl (by kernel_rfl) (by kernel_rfl) (o_call fo19 rfl rfl rfl (refRow_spec t M _ _ ht hlow hsz) ?_)
        rintro _ w8 ⟨rfl, ew8⟩
        replace hS := hS.then ew8
        replace hE := hE.trans (Below.mono ew8 hB)
        replace ht := Rep.ext ht ew8
        replace hk := hk.ext ew8
        replace h1 := h1.ext ew8
        replace hlow := hlow.ext ew8
        replace hB := Nat.le_trans hB ew8.size
        refine a_bar 10 rfl (by kernel_rfl) (by kernel_rfl) (o_beq tbOk rfl rfl rfl rfl rfl rfl ?_)
        refine a_p 11 tbOk rfl rfl rfl rfl (by kernel_rfl) (fun _ _ _ h => h) hS ?_
        refine a_p 12 tbOk rfl rfl rfl rfl (by kernel_rfl) (fun _ _ _ h => h) hS ?_
        refine a_split 19 _ rfl (fun c4 => ?_) (fun c4 => ?_)
        · refine a_lds 13 tbOk (fun _ hs j v hv => (D_h1.ext hs).cell j v hv) rfl rfl rfl rfl rfl rfl rfl (by kernel_rfl) (fun _ _ _ h => h) hS ?_
          refine a_lds 15 tbOk (fun _ hs j v hv => (D_h1.ext hs).cell j v hv) rfl rfl rfl rfl rfl rfl rfl (by kernel_rfl) (fun _ _ _ h => h) hS ?_
          refine a_one 14 rfl (by kernel_rfl) (o_call fo20 rfl rfl rfl (size_spec t M _ _ ht hlow hsz) ?_)
          rintro _ w9 ⟨rfl, ew9⟩
          replace hS := hS.then ew9
          replace hE := hE.trans (Below.mono ew9 hB)
          replace ht := Rep.ext ht ew9
          replace hk := hk.ext ew9
          replace h1 := h1.ext ew9
          replace hlow := hlow.ext ew9
          replace hB := Nat.le_trans hB ew9.size
          refine ⟨hS, ?_⟩
          refine a_bar 16 rfl (by kernel_rfl) (by kernel_rfl) (o_call fo21 rfl rfl rfl (parts_spec t M _ _ ht hlow hsz) ?_)
          rintro vhr5 w10 ⟨hr5, ew10⟩
          replace hS := hS.then ew10
          replace hE := hE.trans (Below.mono ew10 hB)
          replace ht := Rep.ext ht ew10
          replace hk := hk.ext ew10
          replace h1 := h1.ext ew10
          replace hlow := hlow.ext ew10
          replace hB := Nat.le_trans hB ew10.size
          refine a_len 17 tbOk hr5 rfl rfl rfl rfl rfl rfl (by kernel_rfl) (fun _ _ _ h => h) hS ?_
          refine a_p 18 tbOk rfl rfl rfl rfl (by kernel_rfl) (fun _ _ _ h => h) hS ?_
          refine a_p 19 tbOk rfl rfl rfl rfl (by kernel_rfl) (fun _ _ _ h => h) hS ?_
          refine a_p 20 tbOk rfl rfl rfl rfl (by kernel_rfl) (fun _ _ _ h => h) hS ?_
          refine a_end (by kernel_rfl) ?_
          refine x_seq ?_
          refine c_ret ?_
          refine x_ret1 rfl rfl ?_
          exact ⟨by simp [psz], hE⟩
        · exact absurd c4 (by simp)
      · exact absurd c3 (by simp)

end Go.Proofs.Ytpoahmeacjggfaa
