/-
  NARROWER THAN 'FOR EVERY INPUT', by the rows' own cells (each row's printed sentence says how): TreeRight: loops · TreeSame: loops · TreeNames: loops.
  DERIVED. THE GIVEN ROWS OF THIS SEAT. 3 by the template 'for every input the law returns true; each argument reads behind the call as it read before'; 0 by the template 'total and deterministic' (their statements: YtohfnpmehgpphaaGreatTotals.lean).
  GIVEN WITH THE SEED: the statements are not yours to turn. If you find one false, say at which input.
  Laid BY PROGRAM, IN A SANDBOX (cutbox-rows.mjs): the forced cells as the released guide's own fill.sh prints them over the translation 8ca5bba760ce3506… (all of the seat's roots in one cut). By AI agents, Wed Nov 11 2026. No macro, syntax, notation, axiom, sorry.
-/
import Derived.Test.YtohfnpmehgpphaaGreatChecked
import GoSem.Claim
import GoSem.ClaimJoined
import GoSem.ClaimMapViews
import Derived.JoinedTies
import Derived.KernelRfl
namespace Go.Proofs.YtohfnpmehgpphaaGreat
/- THE CELL 'sum', in the pinned program and in every row, IS THE sha256 OF THE DUMP (.gsa) THAT YtohfnpmehgpphaaGreatProg.lean LOADS. Nothing in Lean hashes anything: it is a label: what it is worth is what the hold of that sum in a sandbox is worth. -/
noncomputable def Tryz.pinned : Pinned := { name := "ytohfnpmehgpphaagreat", sum := "8ca5bba760ce35068698c0e0fd87a765880faac7a2b6002839b5c60e93afd185", checked := Tryz.checked }
namespace Rows
def none {H : Type} : Left H := { results := [], args := [] }

/-- 'rowanlaw05.TreeRight': WHATEVER THE INPUT: true; the input reads as it did. -/
def treeRightSpec : ChangeSpec := { name := "treeRight", fn := fun _ => fun
  | [d1, d2] => { results := [.lit (.bool true)], args := [d1, d2] }
  | _ => none }
def treeRightRow : OpenClaim := { program := "ytohfnpmehgpphaagreat", sum := "8ca5bba760ce35068698c0e0fd87a765880faac7a2b6002839b5c60e93afd185", func := "rowan/rowanlaw05.TreeRight", spec := "treeRight", inPlace := ["internal/bytealg.abigen_runtime_cmpstring"], unfollowed := true, recurses := true, loops := true, apart := false }
def TreeRightSaid : Prop := treeRightRow.holds Tryz.pinned (OpenSpec.ofChange treeRightSpec)

/-- ITS FALSE NEIGHBOUR: 'it returns false'. Refute it at one input. -/
def treeRightWrong : ChangeSpec := { name := "treeRight", fn := fun _ => fun
  | [d1, d2] => { results := [.lit (.bool false)], args := [d1, d2] }
  | _ => none }
def TreeRightWrongFalsely : Prop := treeRightRow.holds Tryz.pinned (OpenSpec.ofChange treeRightWrong)

/-- 'rowanlaw05.TreeSame': WHATEVER THE INPUT: true; the input reads as it did. -/
def treeSameSpec : ChangeSpec := { name := "treeSame", fn := fun _ => fun
  | [d1, d2] => { results := [.lit (.bool true)], args := [d1, d2] }
  | _ => none }
def treeSameRow : OpenClaim := { program := "ytohfnpmehgpphaagreat", sum := "8ca5bba760ce35068698c0e0fd87a765880faac7a2b6002839b5c60e93afd185", func := "rowan/rowanlaw05.TreeSame", spec := "treeSame", inPlace := ["internal/bytealg.abigen_runtime_cmpstring"], unfollowed := true, recurses := true, loops := true, apart := false }
def TreeSameSaid : Prop := treeSameRow.holds Tryz.pinned (OpenSpec.ofChange treeSameSpec)

/-- ITS FALSE NEIGHBOUR: 'it returns false'. Refute it at one input. -/
def treeSameWrong : ChangeSpec := { name := "treeSame", fn := fun _ => fun
  | [d1, d2] => { results := [.lit (.bool false)], args := [d1, d2] }
  | _ => none }
def TreeSameWrongFalsely : Prop := treeSameRow.holds Tryz.pinned (OpenSpec.ofChange treeSameWrong)

/-- 'rowanlaw05.TreeNames': WHATEVER THE INPUT: true; the input reads as it did. -/
def treeNamesSpec : ChangeSpec := { name := "treeNames", fn := fun _ => fun
  | [d] => { results := [.lit (.bool true)], args := [d] }
  | _ => none }
def treeNamesRow : OpenClaim := { program := "ytohfnpmehgpphaagreat", sum := "8ca5bba760ce35068698c0e0fd87a765880faac7a2b6002839b5c60e93afd185", func := "rowan/rowanlaw05.TreeNames", spec := "treeNames", inPlace := ["internal/bytealg.abigen_runtime_cmpstring"], unfollowed := true, recurses := true, loops := true, apart := false }
def TreeNamesSaid : Prop := treeNamesRow.holds Tryz.pinned (OpenSpec.ofChange treeNamesSpec)

/-- ITS FALSE NEIGHBOUR: 'it returns false'. Refute it at one input. -/
def treeNamesWrong : ChangeSpec := { name := "treeNames", fn := fun _ => fun
  | [d] => { results := [.lit (.bool false)], args := [d] }
  | _ => none }
def TreeNamesWrongFalsely : Prop := treeNamesRow.holds Tryz.pinned (OpenSpec.ofChange treeNamesWrong)

/- THE SECOND FORM. 'bulk': how many values and letters a reading holds, each counted each time it is reached (what is shared counts as often as it is met; a slice's spare places count too). A statement '..UptoSaid' is the law's where the arguments, and the package variables that the reading takes, are together of bulk at most 1048576: NARROWER than '..Said'. Prove '..Said' where nothing that the law and all that it calls make is longer than what came in: it says more and counts as full. Else prove '..UptoSaid'. A law counts once. -/
mutual
def uptoBulk {H : Type} : DataW H → Nat
  | .lit (.string bytes) => bytes.length + 1
  | .lit _ => 1
  | .nil => 1
  | .ptr d => uptoBulk d + 1
  | .slice elems spare => uptoBulkAll elems + uptoBulkAll spare + 1
  | .agg parts => uptoBulkAll parts + 1
  | .iface _ d => uptoBulk d + 1
  | .map entries => uptoBulkEntries entries + 1
  | .held _ => 1
def uptoBulkAll {H : Type} : List (DataW H) → Nat
  | [] => 0
  | d :: r => uptoBulk d + uptoBulkAll r
def uptoBulkEntries {H : Type} : List (Lit × DataW H) → Nat
  | [] => 0
  | x :: r => uptoBulkEntry x + uptoBulkEntries r
def uptoBulkEntry {H : Type} : Lit × DataW H → Nat
  | (.string bytes, d) => bytes.length + uptoBulk d + 1
  | (_, d) => uptoBulk d + 1
 end
def uptoSmall : (H : Type) → List (DataW H) → Bool := fun _ ds => decide (uptoBulkAll ds ≤ 1048576)
def OpenSpec.upto (s : _root_.Go.ChangeSpec) : _root_.Go.OpenSpec := { _root_.Go.OpenSpec.ofChange s with cond := some uptoSmall }

/-- 'rowanlaw05.TreeRight', WHERE WHAT IT READS IS OF BULK AT MOST 1048576: true; the input reads as it did. -/
def treeRightUptoRow : OpenClaim := { program := "ytohfnpmehgpphaagreat", sum := "8ca5bba760ce35068698c0e0fd87a765880faac7a2b6002839b5c60e93afd185", func := "rowan/rowanlaw05.TreeRight", spec := "treeRight", inPlace := ["internal/bytealg.abigen_runtime_cmpstring"], unfollowed := true, recurses := true, loops := true, apart := false, narrowed := true }
def TreeRightUptoSaid : Prop := treeRightUptoRow.holds Tryz.pinned (OpenSpec.upto treeRightSpec)

/-- 'rowanlaw05.TreeSame', WHERE WHAT IT READS IS OF BULK AT MOST 1048576: true; the input reads as it did. -/
def treeSameUptoRow : OpenClaim := { program := "ytohfnpmehgpphaagreat", sum := "8ca5bba760ce35068698c0e0fd87a765880faac7a2b6002839b5c60e93afd185", func := "rowan/rowanlaw05.TreeSame", spec := "treeSame", inPlace := ["internal/bytealg.abigen_runtime_cmpstring"], unfollowed := true, recurses := true, loops := true, apart := false, narrowed := true }
def TreeSameUptoSaid : Prop := treeSameUptoRow.holds Tryz.pinned (OpenSpec.upto treeSameSpec)

/-- 'rowanlaw05.TreeNames', WHERE WHAT IT READS IS OF BULK AT MOST 1048576: true; the input reads as it did. -/
def treeNamesUptoRow : OpenClaim := { program := "ytohfnpmehgpphaagreat", sum := "8ca5bba760ce35068698c0e0fd87a765880faac7a2b6002839b5c60e93afd185", func := "rowan/rowanlaw05.TreeNames", spec := "treeNames", inPlace := ["internal/bytealg.abigen_runtime_cmpstring"], unfollowed := true, recurses := true, loops := true, apart := false, narrowed := true }
def TreeNamesUptoSaid : Prop := treeNamesUptoRow.holds Tryz.pinned (OpenSpec.upto treeNamesSpec)

end Rows
end Go.Proofs.YtohfnpmehgpphaaGreat
