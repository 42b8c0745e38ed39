/-
  NARROWER THAN 'FOR EVERY INPUT', by the rows' own cells (each row's printed sentence says how): KindsRight: loops · KindsFlat: loops · KindsPut: loops · KindsSame: loops · PrecTypes: loops · KindsForms: loops · KindsApart: loops · PrecLoosens: loops · PrecOrder: loops · PrecMix: loops · PrecTerms: loops.
  DERIVED. THE GIVEN ROWS OF THIS SEAT. 11 by the template 'for every input the law returns true; each argument reads behind the call as it read before'; 0 by the template 'total and deterministic' (their statements: YtpoahmeacjggfaaTotals.lean).
  GIVEN WITH THE SEED: the statements are not yours to turn. If you find one false, say at which input.
  Laid BY PROGRAM, IN A SANDBOX (cutbox-rows.mjs): the forced cells as the released guide's own fill.sh prints them over the translation e9d4a45d203b53c7… (all of the seat's roots in one cut). By AI agents, Wed Nov 11 2026. No macro, syntax, notation, axiom, sorry.
-/
import Derived.Test.YtpoahmeacjggfaaChecked
import GoSem.Claim
import GoSem.ClaimJoined
import GoSem.ClaimMapViews
import Derived.JoinedTies
import Derived.KernelRfl
namespace Go.Proofs.Ytpoahmeacjggfaa
/- THE CELL 'sum', in the pinned program and in every row, IS THE sha256 OF THE DUMP (.gsa) THAT YtpoahmeacjggfaaProg.lean LOADS. Nothing in Lean hashes anything: it is a label: what it is worth is what the hold of that sum in a sandbox is worth. -/
noncomputable def Try.pinned : Pinned := { name := "ytpoahmeacjggfaa", sum := "e9d4a45d203b53c7cc14f155c5fe802ec046a7a51cfe82b7f7063e3b7e4a6f2c", checked := Try.checked }
namespace Rows
def none {H : Type} : Left H := { results := [], args := [] }

/-- 'rowanlaw03.KindsRight': WHATEVER THE INPUT: true; the input reads as it did. -/
def kindsRightSpec : ChangeSpec := { name := "kindsRight", fn := fun _ => fun
  | [d] => { results := [.lit (.bool true)], args := [d] }
  | _ => none }
def kindsRightRow : OpenClaim := { program := "ytpoahmeacjggfaa", sum := "e9d4a45d203b53c7cc14f155c5fe802ec046a7a51cfe82b7f7063e3b7e4a6f2c", func := "rowan/rowanlaw03.KindsRight", spec := "kindsRight", inPlace := ["internal/bytealg.abigen_runtime_cmpstring"], unfollowed := true, recurses := true, loops := true, apart := false }
def KindsRightSaid : Prop := kindsRightRow.holds Try.pinned (OpenSpec.ofChange kindsRightSpec)

/-- ITS FALSE NEIGHBOUR: 'it returns false'. Refute it at one input. -/
def kindsRightWrong : ChangeSpec := { name := "kindsRight", fn := fun _ => fun
  | [d] => { results := [.lit (.bool false)], args := [d] }
  | _ => none }
def KindsRightWrongFalsely : Prop := kindsRightRow.holds Try.pinned (OpenSpec.ofChange kindsRightWrong)

/-- 'rowanlaw03.KindsFlat': WHATEVER THE INPUT: true; the input reads as it did. -/
def kindsFlatSpec : ChangeSpec := { name := "kindsFlat", fn := fun _ => fun
  | [d1, d2] => { results := [.lit (.bool true)], args := [d1, d2] }
  | _ => none }
def kindsFlatRow : OpenClaim := { program := "ytpoahmeacjggfaa", sum := "e9d4a45d203b53c7cc14f155c5fe802ec046a7a51cfe82b7f7063e3b7e4a6f2c", func := "rowan/rowanlaw03.KindsFlat", spec := "kindsFlat", inPlace := ["internal/bytealg.abigen_runtime_cmpstring"], unfollowed := true, recurses := true, loops := true, apart := false }
def KindsFlatSaid : Prop := kindsFlatRow.holds Try.pinned (OpenSpec.ofChange kindsFlatSpec)

/-- ITS FALSE NEIGHBOUR: 'it returns false'. Refute it at one input. -/
def kindsFlatWrong : ChangeSpec := { name := "kindsFlat", fn := fun _ => fun
  | [d1, d2] => { results := [.lit (.bool false)], args := [d1, d2] }
  | _ => none }
def KindsFlatWrongFalsely : Prop := kindsFlatRow.holds Try.pinned (OpenSpec.ofChange kindsFlatWrong)

/-- 'rowanlaw03.KindsPut': WHATEVER THE INPUT: true; the input reads as it did. -/
def kindsPutSpec : ChangeSpec := { name := "kindsPut", fn := fun _ => fun
  | [d1, d2, d3] => { results := [.lit (.bool true)], args := [d1, d2, d3] }
  | _ => none }
def kindsPutRow : OpenClaim := { program := "ytpoahmeacjggfaa", sum := "e9d4a45d203b53c7cc14f155c5fe802ec046a7a51cfe82b7f7063e3b7e4a6f2c", func := "rowan/rowanlaw03.KindsPut", spec := "kindsPut", inPlace := ["internal/bytealg.abigen_runtime_cmpstring"], unfollowed := true, recurses := true, loops := true, apart := false }
def KindsPutSaid : Prop := kindsPutRow.holds Try.pinned (OpenSpec.ofChange kindsPutSpec)

/-- ITS FALSE NEIGHBOUR: 'it returns false'. Refute it at one input. -/
def kindsPutWrong : ChangeSpec := { name := "kindsPut", fn := fun _ => fun
  | [d1, d2, d3] => { results := [.lit (.bool false)], args := [d1, d2, d3] }
  | _ => none }
def KindsPutWrongFalsely : Prop := kindsPutRow.holds Try.pinned (OpenSpec.ofChange kindsPutWrong)

/-- 'rowanlaw03.KindsSame': WHATEVER THE INPUT: true; the input reads as it did. -/
def kindsSameSpec : ChangeSpec := { name := "kindsSame", fn := fun _ => fun
  | [d1, d2] => { results := [.lit (.bool true)], args := [d1, d2] }
  | _ => none }
def kindsSameRow : OpenClaim := { program := "ytpoahmeacjggfaa", sum := "e9d4a45d203b53c7cc14f155c5fe802ec046a7a51cfe82b7f7063e3b7e4a6f2c", func := "rowan/rowanlaw03.KindsSame", spec := "kindsSame", inPlace := ["internal/bytealg.abigen_runtime_cmpstring"], unfollowed := true, recurses := true, loops := true, apart := false }
def KindsSameSaid : Prop := kindsSameRow.holds Try.pinned (OpenSpec.ofChange kindsSameSpec)

/-- ITS FALSE NEIGHBOUR: 'it returns false'. Refute it at one input. -/
def kindsSameWrong : ChangeSpec := { name := "kindsSame", fn := fun _ => fun
  | [d1, d2] => { results := [.lit (.bool false)], args := [d1, d2] }
  | _ => none }
def KindsSameWrongFalsely : Prop := kindsSameRow.holds Try.pinned (OpenSpec.ofChange kindsSameWrong)

/-- 'rowanlaw08.PrecTypes': WHATEVER THE INPUT: true; the input reads as it did. -/
def precTypesSpec : ChangeSpec := { name := "precTypes", fn := fun _ => fun
  | [d1, d2] => { results := [.lit (.bool true)], args := [d1, d2] }
  | _ => none }
def precTypesRow : OpenClaim := { program := "ytpoahmeacjggfaa", sum := "e9d4a45d203b53c7cc14f155c5fe802ec046a7a51cfe82b7f7063e3b7e4a6f2c", func := "rowan/rowanlaw08.PrecTypes", spec := "precTypes", inPlace := ["internal/bytealg.abigen_runtime_cmpstring"], unfollowed := true, recurses := true, loops := true, apart := false }
def PrecTypesSaid : Prop := precTypesRow.holds Try.pinned (OpenSpec.ofChange precTypesSpec)

/-- ITS FALSE NEIGHBOUR: 'it returns false'. Refute it at one input. -/
def precTypesWrong : ChangeSpec := { name := "precTypes", fn := fun _ => fun
  | [d1, d2] => { results := [.lit (.bool false)], args := [d1, d2] }
  | _ => none }
def PrecTypesWrongFalsely : Prop := precTypesRow.holds Try.pinned (OpenSpec.ofChange precTypesWrong)

/-- 'rowanlaw03.KindsForms': WHATEVER THE INPUT: true; the input reads as it did. -/
def kindsFormsSpec : ChangeSpec := { name := "kindsForms", fn := fun _ => fun
  | [d] => { results := [.lit (.bool true)], args := [d] }
  | _ => none }
def kindsFormsRow : OpenClaim := { program := "ytpoahmeacjggfaa", sum := "e9d4a45d203b53c7cc14f155c5fe802ec046a7a51cfe82b7f7063e3b7e4a6f2c", func := "rowan/rowanlaw03.KindsForms", spec := "kindsForms", inPlace := ["internal/bytealg.abigen_runtime_cmpstring"], unfollowed := true, recurses := true, loops := true, apart := false }
def KindsFormsSaid : Prop := kindsFormsRow.holds Try.pinned (OpenSpec.ofChange kindsFormsSpec)

/-- ITS FALSE NEIGHBOUR: 'it returns false'. Refute it at one input. -/
def kindsFormsWrong : ChangeSpec := { name := "kindsForms", fn := fun _ => fun
  | [d] => { results := [.lit (.bool false)], args := [d] }
  | _ => none }
def KindsFormsWrongFalsely : Prop := kindsFormsRow.holds Try.pinned (OpenSpec.ofChange kindsFormsWrong)

/-- 'rowanlaw03.KindsApart': WHATEVER THE INPUT: true; the input reads as it did. -/
def kindsApartSpec : ChangeSpec := { name := "kindsApart", fn := fun _ => fun
  | [d] => { results := [.lit (.bool true)], args := [d] }
  | _ => none }
def kindsApartRow : OpenClaim := { program := "ytpoahmeacjggfaa", sum := "e9d4a45d203b53c7cc14f155c5fe802ec046a7a51cfe82b7f7063e3b7e4a6f2c", func := "rowan/rowanlaw03.KindsApart", spec := "kindsApart", inPlace := ["internal/bytealg.abigen_runtime_cmpstring"], unfollowed := true, recurses := true, loops := true, apart := false }
def KindsApartSaid : Prop := kindsApartRow.holds Try.pinned (OpenSpec.ofChange kindsApartSpec)

/-- ITS FALSE NEIGHBOUR: 'it returns false'. Refute it at one input. -/
def kindsApartWrong : ChangeSpec := { name := "kindsApart", fn := fun _ => fun
  | [d] => { results := [.lit (.bool false)], args := [d] }
  | _ => none }
def KindsApartWrongFalsely : Prop := kindsApartRow.holds Try.pinned (OpenSpec.ofChange kindsApartWrong)

/-- 'rowanlaw08.PrecLoosens': WHATEVER THE INPUT: true; the input reads as it did. -/
def precLoosensSpec : ChangeSpec := { name := "precLoosens", fn := fun _ => fun
  | [d1, d2] => { results := [.lit (.bool true)], args := [d1, d2] }
  | _ => none }
def precLoosensRow : OpenClaim := { program := "ytpoahmeacjggfaa", sum := "e9d4a45d203b53c7cc14f155c5fe802ec046a7a51cfe82b7f7063e3b7e4a6f2c", func := "rowan/rowanlaw08.PrecLoosens", spec := "precLoosens", inPlace := ["internal/bytealg.abigen_runtime_cmpstring"], unfollowed := true, recurses := true, loops := true, apart := false }
def PrecLoosensSaid : Prop := precLoosensRow.holds Try.pinned (OpenSpec.ofChange precLoosensSpec)

/-- ITS FALSE NEIGHBOUR: 'it returns false'. Refute it at one input. -/
def precLoosensWrong : ChangeSpec := { name := "precLoosens", fn := fun _ => fun
  | [d1, d2] => { results := [.lit (.bool false)], args := [d1, d2] }
  | _ => none }
def PrecLoosensWrongFalsely : Prop := precLoosensRow.holds Try.pinned (OpenSpec.ofChange precLoosensWrong)

/-- 'rowanlaw08.PrecOrder': WHATEVER THE INPUT: true; the input reads as it did. -/
def precOrderSpec : ChangeSpec := { name := "precOrder", fn := fun _ => fun
  | [d1, d2, d3, d4] => { results := [.lit (.bool true)], args := [d1, d2, d3, d4] }
  | _ => none }
def precOrderRow : OpenClaim := { program := "ytpoahmeacjggfaa", sum := "e9d4a45d203b53c7cc14f155c5fe802ec046a7a51cfe82b7f7063e3b7e4a6f2c", func := "rowan/rowanlaw08.PrecOrder", spec := "precOrder", inPlace := ["internal/bytealg.abigen_runtime_cmpstring"], unfollowed := true, recurses := true, loops := true, apart := false }
def PrecOrderSaid : Prop := precOrderRow.holds Try.pinned (OpenSpec.ofChange precOrderSpec)

/-- ITS FALSE NEIGHBOUR: 'it returns false'. Refute it at one input. -/
def precOrderWrong : ChangeSpec := { name := "precOrder", fn := fun _ => fun
  | [d1, d2, d3, d4] => { results := [.lit (.bool false)], args := [d1, d2, d3, d4] }
  | _ => none }
def PrecOrderWrongFalsely : Prop := precOrderRow.holds Try.pinned (OpenSpec.ofChange precOrderWrong)

/-- 'rowanlaw08.PrecMix': WHATEVER THE INPUT: true; the input reads as it did. -/
def precMixSpec : ChangeSpec := { name := "precMix", fn := fun _ => fun
  | [d1, d2, d3, d4] => { results := [.lit (.bool true)], args := [d1, d2, d3, d4] }
  | _ => none }
def precMixRow : OpenClaim := { program := "ytpoahmeacjggfaa", sum := "e9d4a45d203b53c7cc14f155c5fe802ec046a7a51cfe82b7f7063e3b7e4a6f2c", func := "rowan/rowanlaw08.PrecMix", spec := "precMix", inPlace := ["internal/bytealg.abigen_runtime_cmpstring"], unfollowed := true, recurses := true, loops := true, apart := false }
def PrecMixSaid : Prop := precMixRow.holds Try.pinned (OpenSpec.ofChange precMixSpec)

/-- ITS FALSE NEIGHBOUR: 'it returns false'. Refute it at one input. -/
def precMixWrong : ChangeSpec := { name := "precMix", fn := fun _ => fun
  | [d1, d2, d3, d4] => { results := [.lit (.bool false)], args := [d1, d2, d3, d4] }
  | _ => none }
def PrecMixWrongFalsely : Prop := precMixRow.holds Try.pinned (OpenSpec.ofChange precMixWrong)

/-- 'rowanlaw08.PrecTerms': WHATEVER THE INPUT: true; the input reads as it did. -/
def precTermsSpec : ChangeSpec := { name := "precTerms", fn := fun _ => fun
  | [d1, d2, d3] => { results := [.lit (.bool true)], args := [d1, d2, d3] }
  | _ => none }
def precTermsRow : OpenClaim := { program := "ytpoahmeacjggfaa", sum := "e9d4a45d203b53c7cc14f155c5fe802ec046a7a51cfe82b7f7063e3b7e4a6f2c", func := "rowan/rowanlaw08.PrecTerms", spec := "precTerms", inPlace := ["internal/bytealg.abigen_runtime_cmpstring"], unfollowed := true, recurses := true, loops := true, apart := false }
def PrecTermsSaid : Prop := precTermsRow.holds Try.pinned (OpenSpec.ofChange precTermsSpec)

/-- ITS FALSE NEIGHBOUR: 'it returns false'. Refute it at one input. -/
def precTermsWrong : ChangeSpec := { name := "precTerms", fn := fun _ => fun
  | [d1, d2, d3] => { results := [.lit (.bool false)], args := [d1, d2, d3] }
  | _ => none }
def PrecTermsWrongFalsely : Prop := precTermsRow.holds Try.pinned (OpenSpec.ofChange precTermsWrong)

/- THE SECOND FORM. 'bulk': how many values and letters a reading holds, each counted each time it is reached (what is shared counts as often as it is met; a slice's spare places count too). A statement '..UptoSaid' is the law's where the arguments, and the package variables that the reading takes, are together of bulk at most 1048576: NARROWER than '..Said'. Prove '..Said' where nothing that the law and all that it calls make is longer than what came in: it says more and counts as full. Else prove '..UptoSaid'. A law counts once. -/
mutual
def uptoBulk {H : Type} : DataW H → Nat
  | .lit (.string bytes) => bytes.length + 1
  | .lit _ => 1
  | .nil => 1
  | .ptr d => uptoBulk d + 1
  | .slice elems spare => uptoBulkAll elems + uptoBulkAll spare + 1
  | .agg parts => uptoBulkAll parts + 1
  | .iface _ d => uptoBulk d + 1
  | .map entries => uptoBulkEntries entries + 1
  | .held _ => 1
def uptoBulkAll {H : Type} : List (DataW H) → Nat
  | [] => 0
  | d :: r => uptoBulk d + uptoBulkAll r
def uptoBulkEntries {H : Type} : List (Lit × DataW H) → Nat
  | [] => 0
  | x :: r => uptoBulkEntry x + uptoBulkEntries r
def uptoBulkEntry {H : Type} : Lit × DataW H → Nat
  | (.string bytes, d) => bytes.length + uptoBulk d + 1
  | (_, d) => uptoBulk d + 1
 end
def uptoSmall : (H : Type) → List (DataW H) → Bool := fun _ ds => decide (uptoBulkAll ds ≤ 1048576)
def OpenSpec.upto (s : _root_.Go.ChangeSpec) : _root_.Go.OpenSpec := { _root_.Go.OpenSpec.ofChange s with cond := some uptoSmall }

/-- 'rowanlaw03.KindsRight', WHERE WHAT IT READS IS OF BULK AT MOST 1048576: true; the input reads as it did. -/
def kindsRightUptoRow : OpenClaim := { program := "ytpoahmeacjggfaa", sum := "e9d4a45d203b53c7cc14f155c5fe802ec046a7a51cfe82b7f7063e3b7e4a6f2c", func := "rowan/rowanlaw03.KindsRight", spec := "kindsRight", inPlace := ["internal/bytealg.abigen_runtime_cmpstring"], unfollowed := true, recurses := true, loops := true, apart := false, narrowed := true }
def KindsRightUptoSaid : Prop := kindsRightUptoRow.holds Try.pinned (OpenSpec.upto kindsRightSpec)

/-- 'rowanlaw03.KindsFlat', WHERE WHAT IT READS IS OF BULK AT MOST 1048576: true; the input reads as it did. -/
def kindsFlatUptoRow : OpenClaim := { program := "ytpoahmeacjggfaa", sum := "e9d4a45d203b53c7cc14f155c5fe802ec046a7a51cfe82b7f7063e3b7e4a6f2c", func := "rowan/rowanlaw03.KindsFlat", spec := "kindsFlat", inPlace := ["internal/bytealg.abigen_runtime_cmpstring"], unfollowed := true, recurses := true, loops := true, apart := false, narrowed := true }
def KindsFlatUptoSaid : Prop := kindsFlatUptoRow.holds Try.pinned (OpenSpec.upto kindsFlatSpec)

/-- 'rowanlaw03.KindsPut', WHERE WHAT IT READS IS OF BULK AT MOST 1048576: true; the input reads as it did. -/
def kindsPutUptoRow : OpenClaim := { program := "ytpoahmeacjggfaa", sum := "e9d4a45d203b53c7cc14f155c5fe802ec046a7a51cfe82b7f7063e3b7e4a6f2c", func := "rowan/rowanlaw03.KindsPut", spec := "kindsPut", inPlace := ["internal/bytealg.abigen_runtime_cmpstring"], unfollowed := true, recurses := true, loops := true, apart := false, narrowed := true }
def KindsPutUptoSaid : Prop := kindsPutUptoRow.holds Try.pinned (OpenSpec.upto kindsPutSpec)

/-- 'rowanlaw03.KindsSame', WHERE WHAT IT READS IS OF BULK AT MOST 1048576: true; the input reads as it did. -/
def kindsSameUptoRow : OpenClaim := { program := "ytpoahmeacjggfaa", sum := "e9d4a45d203b53c7cc14f155c5fe802ec046a7a51cfe82b7f7063e3b7e4a6f2c", func := "rowan/rowanlaw03.KindsSame", spec := "kindsSame", inPlace := ["internal/bytealg.abigen_runtime_cmpstring"], unfollowed := true, recurses := true, loops := true, apart := false, narrowed := true }
def KindsSameUptoSaid : Prop := kindsSameUptoRow.holds Try.pinned (OpenSpec.upto kindsSameSpec)

/-- 'rowanlaw08.PrecTypes', WHERE WHAT IT READS IS OF BULK AT MOST 1048576: true; the input reads as it did. -/
def precTypesUptoRow : OpenClaim := { program := "ytpoahmeacjggfaa", sum := "e9d4a45d203b53c7cc14f155c5fe802ec046a7a51cfe82b7f7063e3b7e4a6f2c", func := "rowan/rowanlaw08.PrecTypes", spec := "precTypes", inPlace := ["internal/bytealg.abigen_runtime_cmpstring"], unfollowed := true, recurses := true, loops := true, apart := false, narrowed := true }
def PrecTypesUptoSaid : Prop := precTypesUptoRow.holds Try.pinned (OpenSpec.upto precTypesSpec)

/-- 'rowanlaw03.KindsForms', WHERE WHAT IT READS IS OF BULK AT MOST 1048576: true; the input reads as it did. -/
def kindsFormsUptoRow : OpenClaim := { program := "ytpoahmeacjggfaa", sum := "e9d4a45d203b53c7cc14f155c5fe802ec046a7a51cfe82b7f7063e3b7e4a6f2c", func := "rowan/rowanlaw03.KindsForms", spec := "kindsForms", inPlace := ["internal/bytealg.abigen_runtime_cmpstring"], unfollowed := true, recurses := true, loops := true, apart := false, narrowed := true }
def KindsFormsUptoSaid : Prop := kindsFormsUptoRow.holds Try.pinned (OpenSpec.upto kindsFormsSpec)

/-- 'rowanlaw03.KindsApart', WHERE WHAT IT READS IS OF BULK AT MOST 1048576: true; the input reads as it did. -/
def kindsApartUptoRow : OpenClaim := { program := "ytpoahmeacjggfaa", sum := "e9d4a45d203b53c7cc14f155c5fe802ec046a7a51cfe82b7f7063e3b7e4a6f2c", func := "rowan/rowanlaw03.KindsApart", spec := "kindsApart", inPlace := ["internal/bytealg.abigen_runtime_cmpstring"], unfollowed := true, recurses := true, loops := true, apart := false, narrowed := true }
def KindsApartUptoSaid : Prop := kindsApartUptoRow.holds Try.pinned (OpenSpec.upto kindsApartSpec)

/-- 'rowanlaw08.PrecLoosens', WHERE WHAT IT READS IS OF BULK AT MOST 1048576: true; the input reads as it did. -/
def precLoosensUptoRow : OpenClaim := { program := "ytpoahmeacjggfaa", sum := "e9d4a45d203b53c7cc14f155c5fe802ec046a7a51cfe82b7f7063e3b7e4a6f2c", func := "rowan/rowanlaw08.PrecLoosens", spec := "precLoosens", inPlace := ["internal/bytealg.abigen_runtime_cmpstring"], unfollowed := true, recurses := true, loops := true, apart := false, narrowed := true }
def PrecLoosensUptoSaid : Prop := precLoosensUptoRow.holds Try.pinned (OpenSpec.upto precLoosensSpec)

/-- 'rowanlaw08.PrecOrder', WHERE WHAT IT READS IS OF BULK AT MOST 1048576: true; the input reads as it did. -/
def precOrderUptoRow : OpenClaim := { program := "ytpoahmeacjggfaa", sum := "e9d4a45d203b53c7cc14f155c5fe802ec046a7a51cfe82b7f7063e3b7e4a6f2c", func := "rowan/rowanlaw08.PrecOrder", spec := "precOrder", inPlace := ["internal/bytealg.abigen_runtime_cmpstring"], unfollowed := true, recurses := true, loops := true, apart := false, narrowed := true }
def PrecOrderUptoSaid : Prop := precOrderUptoRow.holds Try.pinned (OpenSpec.upto precOrderSpec)

/-- 'rowanlaw08.PrecMix', WHERE WHAT IT READS IS OF BULK AT MOST 1048576: true; the input reads as it did. -/
def precMixUptoRow : OpenClaim := { program := "ytpoahmeacjggfaa", sum := "e9d4a45d203b53c7cc14f155c5fe802ec046a7a51cfe82b7f7063e3b7e4a6f2c", func := "rowan/rowanlaw08.PrecMix", spec := "precMix", inPlace := ["internal/bytealg.abigen_runtime_cmpstring"], unfollowed := true, recurses := true, loops := true, apart := false, narrowed := true }
def PrecMixUptoSaid : Prop := precMixUptoRow.holds Try.pinned (OpenSpec.upto precMixSpec)

/-- 'rowanlaw08.PrecTerms', WHERE WHAT IT READS IS OF BULK AT MOST 1048576: true; the input reads as it did. -/
def precTermsUptoRow : OpenClaim := { program := "ytpoahmeacjggfaa", sum := "e9d4a45d203b53c7cc14f155c5fe802ec046a7a51cfe82b7f7063e3b7e4a6f2c", func := "rowan/rowanlaw08.PrecTerms", spec := "precTerms", inPlace := ["internal/bytealg.abigen_runtime_cmpstring"], unfollowed := true, recurses := true, loops := true, apart := false, narrowed := true }
def PrecTermsUptoSaid : Prop := precTermsUptoRow.holds Try.pinned (OpenSpec.upto precTermsSpec)

end Rows
end Go.Proofs.Ytpoahmeacjggfaa
