/- What is proved: whatever the input, of bulk at most 1048576, PrecTerms returns true and does not panic, and each argument reads behind the call as it read before (Rows.PrecTermsUptoSaid). Conditions: none beyond those of the given row. This text goes from what the walk shows to the statement; printed by wip/tools/rowu.py. -/
import Derived.Test.YtpoahmeacjggfaaRows
import Derived.WalkKit
import Derived.ProofKit
import Derived.OpenShut
import Derived.ShutString
import Derived.ChangeOld
import Derived.Below
import Derived.Carry
import Derived.JoinedCond
import Derived.Test.YtpoahmeacjggfaaE7
namespace Go.Proofs.Ytpoahmeacjggfaa.precTerms
open Go Rw Go.ChangeShapes Go.WideShapes Go.ChangeAt Go.RowKit
set_option linter.unusedVariables false
set_option maxRecDepth 100000

theorem own : ownKnob Try.prog.godebug = none := by kernel_rfl
theorem laidOut : laidOutB Try.prog = true := by kernel_rfl

theorem op59_1048576 {H : Type} : OpensD H (α := Tm) Try.prog 59 1048576 tmsz :=
  opensD_tm Try.underlying59 ⟨rfl, rfl⟩ ⟨rfl, rfl⟩ ⟨rfl, rfl⟩ ⟨rfl, rfl⟩ ⟨rfl, rfl⟩ ⟨rfl, rfl⟩ ⟨rfl, rfl⟩ Try.underlying22 (by kernel_rfl) Try.underlying9 (by kernel_rfl) Try.underlying2 (by kernel_rfl) Try.underlying4 (by kernel_rfl) Try.underlying57 (by kernel_rfl) (fun N hN => opensD_ty Try.underlying25 ⟨rfl, rfl⟩ ⟨rfl, rfl⟩ ⟨rfl, rfl⟩ ⟨rfl, rfl⟩ Try.underlying22 (by kernel_rfl) Try.underlying9 (by kernel_rfl) Try.underlying3 (by kernel_rfl) Try.underlying23 (by kernel_rfl) (by kernel_rfl) N hN) (by kernel_rfl) 1048576 (by decide)

theorem op5_1048575 {H : Type} : OpensD H (α := UInt8) Try.prog 5 1048575 (fun _ => 1) :=
  opensD_byte 1048575 Try.underlying5 (by kernel_rfl)

theorem op50_1048576 {H : Type} : OpensD H (α := List UInt8) Try.prog 50 1048576 (fun l => 1 + (l.map (fun _ => 1)).sum) :=
  opensD_slice (sz := (fun _ => 1)) 1048576 (by decide) Try.underlying50 (by kernel_rfl) op5_1048575

/-- What the walk gives, of whatever bulk the form allows. -/
theorem contract (H : Type) (enc : TypeId × Value → H) (W : World) (base : Nat) (args : Array Value) (ds gs : List (DataW H)) (before : List MemPlace)
    (hval0 : ∀ (j : Nat) t v, Try.f13.params[j]? = some t → args[j]? = some v → Value.okWide Try.prog W .any base t v)
    (hW : DataW.Whole enc Try.prog Try.f13.params.toList Rows.precTermsSpec.vars false W args.toList ds gs before) (hk : Rows.uptoSmall H (ds ++ gs) = true) :
    Calls Try.prog 13 args W fun e W' => ∃ v, e = .returned v ∧ Rows.precTermsSpec.post enc Try.prog Try.f13 false true false false W args v W' := by
  have hval : ∀ (j : Nat) t v, Try.f13.params[j]? = some t → args[j]? = some v → Value.okWide Try.prog W .any base t v := hval0
  have hW' := hW
  obtain ⟨p, q, hA0, hV, rfl, hfz, hnd⟩ := hW
  have hA : DataW.TrodAll enc Try.prog W 0 (fun _ => true) true Try.f13.params.toList args.toList ds p := hA0
  rw [Try.params13] at hA hval
  obtain ⟨v0, vs0, d0, ds0, p0, q0, hargs, rfl, rfl, h0, r0⟩ := trodAll_cons hA
  obtain ⟨v1, vs1, d1, ds1, p1, q1, rfl, rfl, rfl, h1, r1⟩ := trodAll_cons r0
  obtain ⟨v2, vs2, d2, ds2, p2, q2, rfl, rfl, rfl, h2, r2⟩ := trodAll_cons r1
  obtain ⟨rfl, rfl, rfl⟩ := trodAll_nil r2
  obtain rfl : args = #[v0, v1, v2] := by cases args; simp_all
  obtain ⟨rfl, rfl⟩ := trodVars_none hV
  obtain ⟨a0, rfl, _⟩ := okWide_struct Try.underlying59 (hval 0 59 v0 rfl rfl)
  have k0 := h0
  have lt0 : ∀ x ∈ p0, x.block < W.heap.size := by obtain ⟨m, hm⟩ := k0; exact DataW.trod_lt m _ _ _ hm
  obtain ⟨u0, t0, e0, w0, z0⟩ := opensD_arg op59_1048576 h0 (bulk_each hk (j := 0) rfl)
  obtain rfl := agg_of e0 (tm_agg w0)
  obtain ⟨a1, rfl, _⟩ := okWide_struct Try.underlying59 (hval 1 59 v1 rfl rfl)
  have k1 := h1
  have lt1 : ∀ x ∈ p1, x.block < W.heap.size := by obtain ⟨m, hm⟩ := k1; exact DataW.trod_lt m _ _ _ hm
  obtain ⟨u1, t1, e1, w1, z1⟩ := opensD_arg op59_1048576 h1 (bulk_each hk (j := 1) rfl)
  obtain rfl := agg_of e1 (tm_agg w1)
  obtain ⟨a2, len2, cap2, rfl⟩ := okWide_slice Try.underlying50 (hval 2 50 v2 rfl rfl)
  have k2 := h2
  have lt2 : ∀ x ∈ p2, x.block < W.heap.size := by obtain ⟨m, hm⟩ := k2; exact DataW.trod_lt m _ _ _ hm
  obtain ⟨u2, t2, e2, w2, z2⟩ := opensD_arg op50_1048576 h2 (bulk_each hk (j := 2) rfl)
  obtain rfl := sl_of e2 w2
  clear hA0 hval0
  refine (precTerms_spec t0 t1 t2 _ _ _ _ _ w0 w1 w2 (by omega) (by omega) (low_noM _)).mono fun e W' hr => ?_
  obtain ⟨_, rfl, rfl, bel⟩ := hr.out
  exact ⟨_, rfl, _, _, _, [], _, [], hW', trodAll_mk1 (shut_bool Try.underlying4 _), (trodAll_cons_mk (Below.trod laidOut (by kernel_rfl) (of_decide_eq_true (by kernel_rfl)) k0 bel lt0) (trodAll_cons_mk (Below.trod laidOut (by kernel_rfl) (of_decide_eq_true (by kernel_rfl)) k1 bel lt1) (trodAll_cons_mk (Below.trod laidOut (by kernel_rfl) (of_decide_eq_true (by kernel_rfl)) k2 bel lt2) trodAll_mk0))), rfl, bel.frame _, fun h => by cases h⟩

theorem lifted (os : Os) (started : os.Started) (H : Type) (enc : TypeId × Value → H) (F : Stop.Interp) :
    ReturnsInHanded {} Try.checked os 13 .any ((Rows.OpenSpec.upto Rows.precTermsSpec).pre6 enc Try.prog Try.f13 Rows.precTermsUptoRow.domain false) (((Rows.OpenSpec.upto Rows.precTermsSpec).at F).post enc Try.prog Try.f13 false true false false) := by
  refine returnsInHanded_of_cond (C := Try.checked) (s := Rows.OpenSpec.upto Rows.precTermsSpec) (k := Rows.uptoSmall) rfl own started (by kernel_rfl) Try.func13
    (OpenSpec.witness (enc := enc) (C := Try.checked) (s := Rows.OpenSpec.upto Rows.precTermsSpec) (k := Rows.uptoSmall) rfl false ⟨#[], #[.agg #[.int .u8 0, .string ⟨#[]⟩, .string ⟨#[]⟩, .int .i64 0, .bool false, .int .u8 0, .string ⟨#[]⟩, .int .i64 0, .slice none 0 0, .slice none 0 0], .agg #[.int .u8 0, .string ⟨#[]⟩, .string ⟨#[]⟩, .int .i64 0, .bool false, .int .u8 0, .string ⟨#[]⟩, .int .i64 0, .slice none 0 0, .slice none 0 0], .slice none 0 0], []⟩ 8 (by kernel_rfl) (by kernel_rfl) (by kernel_rfl)
      (x := ([.agg [.lit (.int .u8 0), .lit (.string []), .lit (.string []), .lit (.int .i64 0), .lit (.bool false), .agg [.lit (.int .u8 0), .lit (.string []), .lit (.int .i64 0), .nil], .nil], .agg [.lit (.int .u8 0), .lit (.string []), .lit (.string []), .lit (.int .i64 0), .lit (.bool false), .agg [.lit (.int .u8 0), .lit (.string []), .lit (.int .i64 0), .nil], .nil], .nil], [], [])) (by kernel_rfl) rfl (by kernel_rfl)) ?_
  intro W base args ds gs before hval hW _ hk _
  exact contract H enc W base args ds gs before hval hW hk

theorem over : Rows.precTermsUptoRow.holds Try.pinned (Rows.OpenSpec.upto Rows.precTermsSpec) :=
  OpenClaim.holds_of_cond 13 Try.f13 rfl rfl rfl rfl rfl rfl rfl ⟨rfl, rfl, rfl, rfl, rfl⟩ rfl rfl rfl rfl rfl (by kernel_rfl) Try.func13 (by kernel_rfl)
    (of_decide_eq_true (by kernel_rfl)) (by unfold Func.isWrapper; first | (rw [if_pos (by decide +kernel)]; kernel_rfl) | (rw [if_neg (by decide +kernel)]; exact ⟨rfl, rfl⟩))
    (fun os started H enc _ F => lifted os started H enc F)

theorem proved : Rows.PrecTermsUptoSaid := over
end Go.Proofs.Ytpoahmeacjggfaa.precTerms
