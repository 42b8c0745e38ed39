/- What is proved: whatever the input, of bulk at most 1048576, GraphNeeds returns true and does not panic, and each argument reads behind the call as it read before (Rows.GraphNeedsUptoSaid). Conditions: none beyond those of the given row. This text goes from what the walk shows to the statement; printed by wip/tools/rowu.py. -/
import Derived.Test.YtpoahmeacjggfaaGreatRows
import Derived.WalkKit
import Derived.ProofKit
import Derived.OpenShut
import Derived.ShutString
import Derived.ChangeOld
import Derived.Below
import Derived.Carry
import Derived.JoinedCond
import Derived.Test.YtpoahmeacjggfaaGreatQ6
namespace Go.Proofs.YtpoahmeacjggfaaGreat.graphNeeds
open Go Rw Go.ChangeShapes Go.WideShapes Go.ChangeAt Go.RowKit
set_option linter.unusedVariables false
set_option maxRecDepth 100000

theorem own : ownKnob Tryz.prog.godebug = none := by kernel_rfl
theorem laidOut : laidOutB Tryz.prog = true := by kernel_rfl

theorem op9_1048575 {H : Type} : OpensD H (α := ByteArray) Tryz.prog 9 1048575 (fun s : ByteArray => 1 + s.size) :=
  opensD_string 1048575 (by decide) Tryz.underlying9 (by kernel_rfl)

theorem op22_1048576 {H : Type} : OpensD H (α := List ByteArray) Tryz.prog 22 1048576 (fun l => 1 + (l.map (fun s : ByteArray => 1 + s.size)).sum) :=
  opensD_slice (sz := (fun s : ByteArray => 1 + s.size)) 1048576 (by decide) Tryz.underlying22 (by kernel_rfl) op9_1048575

theorem op31_1048575 {H : Type} : OpensD H (α := Tm) Tryz.prog 31 1048575 tmsz :=
  opensD_tm Tryz.underlying31 ⟨rfl, rfl⟩ ⟨rfl, rfl⟩ ⟨rfl, rfl⟩ ⟨rfl, rfl⟩ ⟨rfl, rfl⟩ ⟨rfl, rfl⟩ ⟨rfl, rfl⟩ Tryz.underlying26 (by kernel_rfl) Tryz.underlying9 (by kernel_rfl) Tryz.underlying2 (by kernel_rfl) Tryz.underlying4 (by kernel_rfl) Tryz.underlying23 (by kernel_rfl) (fun N hN => opensD_ty Tryz.underlying29 ⟨rfl, rfl⟩ ⟨rfl, rfl⟩ ⟨rfl, rfl⟩ ⟨rfl, rfl⟩ Tryz.underlying26 (by kernel_rfl) Tryz.underlying9 (by kernel_rfl) Tryz.underlying3 (by kernel_rfl) Tryz.underlying27 (by kernel_rfl) (by kernel_rfl) N hN) (by kernel_rfl) 1048575 (by decide)

theorem op23_1048576 {H : Type} : OpensD H (α := List Tm) Tryz.prog 23 1048576 (fun l => 1 + (l.map tmsz).sum) :=
  opensD_slice (sz := tmsz) 1048576 (by decide) Tryz.underlying23 (by kernel_rfl) op31_1048575

/-- What the walk gives, of whatever bulk the form allows. -/
theorem contract (H : Type) (enc : TypeId × Value → H) (W : World) (base : Nat) (args : Array Value) (ds gs : List (DataW H)) (before : List MemPlace)
    (hval0 : ∀ (j : Nat) t v, Tryz.f3.params[j]? = some t → args[j]? = some v → Value.okWide Tryz.prog W .any base t v)
    (hW : DataW.Whole enc Tryz.prog Tryz.f3.params.toList Rows.graphNeedsSpec.vars false W args.toList ds gs before) (hk : Rows.uptoSmall H (ds ++ gs) = true) :
    Calls Tryz.prog 3 args W fun e W' => ∃ v, e = .returned v ∧ Rows.graphNeedsSpec.post enc Tryz.prog Tryz.f3 false true false false W args v W' := by
  have hval : ∀ (j : Nat) t v, Tryz.f3.params[j]? = some t → args[j]? = some v → Value.okWide Tryz.prog W .any base t v := hval0
  have hW' := hW
  obtain ⟨p, q, hA0, hV, rfl, hfz, hnd⟩ := hW
  have hA : DataW.TrodAll enc Tryz.prog W 0 (fun _ => true) true Tryz.f3.params.toList args.toList ds p := hA0
  rw [Tryz.params3] at hA hval
  obtain ⟨v0, vs0, d0, ds0, p0, q0, hargs, rfl, rfl, h0, r0⟩ := trodAll_cons hA
  obtain ⟨v1, vs1, d1, ds1, p1, q1, rfl, rfl, rfl, h1, r1⟩ := trodAll_cons r0
  obtain ⟨rfl, rfl, rfl⟩ := trodAll_nil r1
  obtain rfl : args = #[v0, v1] := by cases args; simp_all
  obtain ⟨rfl, rfl⟩ := trodVars_none hV
  obtain ⟨a0, len0, cap0, rfl⟩ := okWide_slice Tryz.underlying22 (hval 0 22 v0 rfl rfl)
  have k0 := h0
  have lt0 : ∀ x ∈ p0, x.block < W.heap.size := by obtain ⟨m, hm⟩ := k0; exact DataW.trod_lt m _ _ _ hm
  obtain ⟨u0, t0, e0, w0, z0⟩ := opensD_arg op22_1048576 h0 (bulk_each hk (j := 0) rfl)
  obtain rfl := sl_of e0 w0
  obtain ⟨a1, len1, cap1, rfl⟩ := okWide_slice Tryz.underlying23 (hval 1 23 v1 rfl rfl)
  have k1 := h1
  have lt1 : ∀ x ∈ p1, x.block < W.heap.size := by obtain ⟨m, hm⟩ := k1; exact DataW.trod_lt m _ _ _ hm
  obtain ⟨u1, t1, e1, w1, z1⟩ := opensD_arg op23_1048576 h1 (bulk_each hk (j := 1) rfl)
  obtain rfl := sl_of e1 w1
  clear hA0 hval0
  refine (graphNeeds_spec t0 t1 _ _ _ _ w0 w1 (fun x hx => Nat.le_trans (Nat.le_trans (sum_mem (f := tmsz) hx) (Nat.le_add_left _ 1)) z1) (low_noM _)).mono fun e W' hr => ?_
  obtain ⟨_, rfl, rfl, bel⟩ := hr.out
  exact ⟨_, rfl, _, _, _, [], _, [], hW', trodAll_mk1 (shut_bool Tryz.underlying4 _), (trodAll_cons_mk (Below.trod laidOut (by kernel_rfl) (of_decide_eq_true (by kernel_rfl)) k0 bel lt0) (trodAll_cons_mk (Below.trod laidOut (by kernel_rfl) (of_decide_eq_true (by kernel_rfl)) k1 bel lt1) trodAll_mk0)), rfl, bel.frame _, fun h => by cases h⟩

theorem lifted (os : Os) (started : os.Started) (H : Type) (enc : TypeId × Value → H) (F : Stop.Interp) :
    ReturnsInHanded {} Tryz.checked os 3 .any ((Rows.OpenSpec.upto Rows.graphNeedsSpec).pre6 enc Tryz.prog Tryz.f3 Rows.graphNeedsUptoRow.domain false) (((Rows.OpenSpec.upto Rows.graphNeedsSpec).at F).post enc Tryz.prog Tryz.f3 false true false false) := by
  refine returnsInHanded_of_cond (C := Tryz.checked) (s := Rows.OpenSpec.upto Rows.graphNeedsSpec) (k := Rows.uptoSmall) rfl own started (by kernel_rfl) Tryz.func3
    (OpenSpec.witness (enc := enc) (C := Tryz.checked) (s := Rows.OpenSpec.upto Rows.graphNeedsSpec) (k := Rows.uptoSmall) rfl false ⟨#[], #[.slice none 0 0, .slice none 0 0], []⟩ 8 (by kernel_rfl) (by kernel_rfl) (by kernel_rfl)
      (x := ([.nil, .nil], [], [])) (by kernel_rfl) rfl (by kernel_rfl)) ?_
  intro W base args ds gs before hval hW _ hk _
  exact contract H enc W base args ds gs before hval hW hk

theorem over : Rows.graphNeedsUptoRow.holds Tryz.pinned (Rows.OpenSpec.upto Rows.graphNeedsSpec) :=
  OpenClaim.holds_of_cond 3 Tryz.f3 rfl rfl rfl rfl rfl rfl rfl ⟨rfl, rfl, rfl, rfl, rfl⟩ rfl rfl rfl rfl rfl (by kernel_rfl) Tryz.func3 (by kernel_rfl)
    (of_decide_eq_true (by kernel_rfl)) (by unfold Func.isWrapper; first | (rw [if_pos (by decide +kernel)]; kernel_rfl) | (rw [if_neg (by decide +kernel)]; exact ⟨rfl, rfl⟩))
    (fun os started H enc _ F => lifted os started H enc F)

theorem proved : Rows.GraphNeedsUptoSaid := over
end Go.Proofs.YtpoahmeacjggfaaGreat.graphNeeds
