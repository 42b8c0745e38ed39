/-
  NARROWER THAN 'FOR EVERY INPUT', by the rows' own cells (each row's printed sentence says how): LayoutPlaces: loops · LayoutInstances: loops · LayoutSame: loops · CodecPuts: loops · TreeCopies: loops.
  DERIVED. THE GIVEN ROWS OF THIS SEAT. 9 by the template 'for every input the law returns true; each argument reads behind the call as it read before'; 0 by the template 'total and deterministic' (their statements: YtohfnpmehgpphaaTotals.lean).
  GIVEN WITH THE SEED: the statements are not yours to turn. If you find one false, say at which input.
  Laid BY PROGRAM, IN A SANDBOX (cutbox-rows.mjs): the forced cells as the released guide's own fill.sh prints them over the translation 5b8b729de0084262… (all of the seat's roots in one cut). By AI agents, Wed Nov 11 2026. No macro, syntax, notation, axiom, sorry.
-/
import Derived.Test.YtohfnpmehgpphaaChecked
import GoSem.Claim
import GoSem.ClaimJoined
import GoSem.ClaimMapViews
import Derived.JoinedTies
import Derived.KernelRfl
namespace Go.Proofs.Ytohfnpmehgpphaa
/- THE CELL 'sum', in the pinned program and in every row, IS THE sha256 OF THE DUMP (.gsa) THAT YtohfnpmehgpphaaProg.lean LOADS. Nothing in Lean hashes anything: it is a label: what it is worth is what the hold of that sum in a sandbox is worth. -/
noncomputable def Try.pinned : Pinned := { name := "ytohfnpmehgpphaa", sum := "5b8b729de00842621638db3faf63dbfbf5d73c77376d1b4bf315d4f3f3e0e7a8", checked := Try.checked }
namespace Rows
def none {H : Type} : Left H := { results := [], args := [] }

/-- 'rowanlaw18.LayoutResolves': WHATEVER THE INPUT: true; the input reads as it did. -/
def layoutResolvesSpec : ChangeSpec := { name := "layoutResolves", fn := fun _ => fun
  | [d1, d2] => { results := [.lit (.bool true)], args := [d1, d2] }
  | _ => none }
def layoutResolvesRow : OpenClaim := { program := "ytohfnpmehgpphaa", sum := "5b8b729de00842621638db3faf63dbfbf5d73c77376d1b4bf315d4f3f3e0e7a8", func := "rowan/rowanlaw18.LayoutResolves", spec := "layoutResolves", inPlace := ["internal/bytealg.abigen_runtime_cmpstring"], unfollowed := true, recurses := true, apart := false }
def LayoutResolvesSaid : Prop := layoutResolvesRow.holds Try.pinned (OpenSpec.ofChange layoutResolvesSpec)

/-- ITS FALSE NEIGHBOUR: 'it returns false'. Refute it at one input. -/
def layoutResolvesWrong : ChangeSpec := { name := "layoutResolves", fn := fun _ => fun
  | [d1, d2] => { results := [.lit (.bool false)], args := [d1, d2] }
  | _ => none }
def LayoutResolvesWrongFalsely : Prop := layoutResolvesRow.holds Try.pinned (OpenSpec.ofChange layoutResolvesWrong)

/-- 'rowanlaw18.LayoutPlaces': WHATEVER THE INPUT: true; the input reads as it did. -/
def layoutPlacesSpec : ChangeSpec := { name := "layoutPlaces", fn := fun _ => fun
  | [d1, d2, d3] => { results := [.lit (.bool true)], args := [d1, d2, d3] }
  | _ => none }
def layoutPlacesRow : OpenClaim := { program := "ytohfnpmehgpphaa", sum := "5b8b729de00842621638db3faf63dbfbf5d73c77376d1b4bf315d4f3f3e0e7a8", func := "rowan/rowanlaw18.LayoutPlaces", spec := "layoutPlaces", inPlace := ["internal/bytealg.abigen_runtime_cmpstring"], unfollowed := true, recurses := true, loops := true, apart := false }
def LayoutPlacesSaid : Prop := layoutPlacesRow.holds Try.pinned (OpenSpec.ofChange layoutPlacesSpec)

/-- ITS FALSE NEIGHBOUR: 'it returns false'. Refute it at one input. -/
def layoutPlacesWrong : ChangeSpec := { name := "layoutPlaces", fn := fun _ => fun
  | [d1, d2, d3] => { results := [.lit (.bool false)], args := [d1, d2, d3] }
  | _ => none }
def LayoutPlacesWrongFalsely : Prop := layoutPlacesRow.holds Try.pinned (OpenSpec.ofChange layoutPlacesWrong)

/-- 'rowanlaw18.LayoutInstances': WHATEVER THE INPUT: true; the input reads as it did. -/
def layoutInstancesSpec : ChangeSpec := { name := "layoutInstances", fn := fun _ => fun
  | [d1, d2] => { results := [.lit (.bool true)], args := [d1, d2] }
  | _ => none }
def layoutInstancesRow : OpenClaim := { program := "ytohfnpmehgpphaa", sum := "5b8b729de00842621638db3faf63dbfbf5d73c77376d1b4bf315d4f3f3e0e7a8", func := "rowan/rowanlaw18.LayoutInstances", spec := "layoutInstances", inPlace := ["internal/bytealg.abigen_runtime_cmpstring"], unfollowed := true, recurses := true, loops := true, apart := false }
def LayoutInstancesSaid : Prop := layoutInstancesRow.holds Try.pinned (OpenSpec.ofChange layoutInstancesSpec)

/-- ITS FALSE NEIGHBOUR: 'it returns false'. Refute it at one input. -/
def layoutInstancesWrong : ChangeSpec := { name := "layoutInstances", fn := fun _ => fun
  | [d1, d2] => { results := [.lit (.bool false)], args := [d1, d2] }
  | _ => none }
def LayoutInstancesWrongFalsely : Prop := layoutInstancesRow.holds Try.pinned (OpenSpec.ofChange layoutInstancesWrong)

/-- 'rowanlaw18.LayoutSame': WHATEVER THE INPUT: true; the input reads as it did. -/
def layoutSameSpec : ChangeSpec := { name := "layoutSame", fn := fun _ => fun
  | [d1, d2, d3, d4] => { results := [.lit (.bool true)], args := [d1, d2, d3, d4] }
  | _ => none }
def layoutSameRow : OpenClaim := { program := "ytohfnpmehgpphaa", sum := "5b8b729de00842621638db3faf63dbfbf5d73c77376d1b4bf315d4f3f3e0e7a8", func := "rowan/rowanlaw18.LayoutSame", spec := "layoutSame", inPlace := ["internal/bytealg.abigen_runtime_cmpstring"], unfollowed := true, recurses := true, loops := true, apart := false }
def LayoutSameSaid : Prop := layoutSameRow.holds Try.pinned (OpenSpec.ofChange layoutSameSpec)

/-- ITS FALSE NEIGHBOUR: 'it returns false'. Refute it at one input. -/
def layoutSameWrong : ChangeSpec := { name := "layoutSame", fn := fun _ => fun
  | [d1, d2, d3, d4] => { results := [.lit (.bool false)], args := [d1, d2, d3, d4] }
  | _ => none }
def LayoutSameWrongFalsely : Prop := layoutSameRow.holds Try.pinned (OpenSpec.ofChange layoutSameWrong)

/-- 'rowanlaw27.CodecTexts': WHATEVER THE INPUT: true; the input reads as it did. -/
def codecTextsSpec : ChangeSpec := { name := "codecTexts", fn := fun _ => fun
  | [d1, d2, d3] => { results := [.lit (.bool true)], args := [d1, d2, d3] }
  | _ => none }
def codecTextsRow : OpenClaim := { program := "ytohfnpmehgpphaa", sum := "5b8b729de00842621638db3faf63dbfbf5d73c77376d1b4bf315d4f3f3e0e7a8", func := "rowan/rowanlaw27.CodecTexts", spec := "codecTexts", inPlace := ["internal/bytealg.abigen_runtime_cmpstring"], unfollowed := true, recurses := true, apart := false }
def CodecTextsSaid : Prop := codecTextsRow.holds Try.pinned (OpenSpec.ofChange codecTextsSpec)

/-- ITS FALSE NEIGHBOUR: 'it returns false'. Refute it at one input. -/
def codecTextsWrong : ChangeSpec := { name := "codecTexts", fn := fun _ => fun
  | [d1, d2, d3] => { results := [.lit (.bool false)], args := [d1, d2, d3] }
  | _ => none }
def CodecTextsWrongFalsely : Prop := codecTextsRow.holds Try.pinned (OpenSpec.ofChange codecTextsWrong)

/-- 'rowanlaw27.CodecGets': WHATEVER THE INPUT: true; the input reads as it did. -/
def codecGetsSpec : ChangeSpec := { name := "codecGets", fn := fun _ => fun
  | [d] => { results := [.lit (.bool true)], args := [d] }
  | _ => none }
def codecGetsRow : OpenClaim := { program := "ytohfnpmehgpphaa", sum := "5b8b729de00842621638db3faf63dbfbf5d73c77376d1b4bf315d4f3f3e0e7a8", func := "rowan/rowanlaw27.CodecGets", spec := "codecGets", inPlace := ["internal/bytealg.abigen_runtime_cmpstring"], unfollowed := true, recurses := true, apart := false }
def CodecGetsSaid : Prop := codecGetsRow.holds Try.pinned (OpenSpec.ofChange codecGetsSpec)

/-- ITS FALSE NEIGHBOUR: 'it returns false'. Refute it at one input. -/
def codecGetsWrong : ChangeSpec := { name := "codecGets", fn := fun _ => fun
  | [d] => { results := [.lit (.bool false)], args := [d] }
  | _ => none }
def CodecGetsWrongFalsely : Prop := codecGetsRow.holds Try.pinned (OpenSpec.ofChange codecGetsWrong)

/-- 'rowanlaw27.CodecPuts': WHATEVER THE INPUT: true; the input reads as it did. -/
def codecPutsSpec : ChangeSpec := { name := "codecPuts", fn := fun _ => fun
  | [d1, d2] => { results := [.lit (.bool true)], args := [d1, d2] }
  | _ => none }
def codecPutsRow : OpenClaim := { program := "ytohfnpmehgpphaa", sum := "5b8b729de00842621638db3faf63dbfbf5d73c77376d1b4bf315d4f3f3e0e7a8", func := "rowan/rowanlaw27.CodecPuts", spec := "codecPuts", inPlace := ["internal/bytealg.abigen_runtime_cmpstring"], unfollowed := true, recurses := true, loops := true, apart := false }
def CodecPutsSaid : Prop := codecPutsRow.holds Try.pinned (OpenSpec.ofChange codecPutsSpec)

/-- ITS FALSE NEIGHBOUR: 'it returns false'. Refute it at one input. -/
def codecPutsWrong : ChangeSpec := { name := "codecPuts", fn := fun _ => fun
  | [d1, d2] => { results := [.lit (.bool false)], args := [d1, d2] }
  | _ => none }
def CodecPutsWrongFalsely : Prop := codecPutsRow.holds Try.pinned (OpenSpec.ofChange codecPutsWrong)

/-- 'rowanlaw27.CodecOnce': WHATEVER THE INPUT: true; the input reads as it did. -/
def codecOnceSpec : ChangeSpec := { name := "codecOnce", fn := fun _ => fun
  | [d] => { results := [.lit (.bool true)], args := [d] }
  | _ => none }
def codecOnceRow : OpenClaim := { program := "ytohfnpmehgpphaa", sum := "5b8b729de00842621638db3faf63dbfbf5d73c77376d1b4bf315d4f3f3e0e7a8", func := "rowan/rowanlaw27.CodecOnce", spec := "codecOnce", inPlace := ["internal/bytealg.abigen_runtime_cmpstring"], unfollowed := true, recurses := true, apart := false }
def CodecOnceSaid : Prop := codecOnceRow.holds Try.pinned (OpenSpec.ofChange codecOnceSpec)

/-- ITS FALSE NEIGHBOUR: 'it returns false'. Refute it at one input. -/
def codecOnceWrong : ChangeSpec := { name := "codecOnce", fn := fun _ => fun
  | [d] => { results := [.lit (.bool false)], args := [d] }
  | _ => none }
def CodecOnceWrongFalsely : Prop := codecOnceRow.holds Try.pinned (OpenSpec.ofChange codecOnceWrong)

/-- 'rowanlaw05.TreeCopies': WHATEVER THE INPUT: true; the input reads as it did. -/
def treeCopiesSpec : ChangeSpec := { name := "treeCopies", fn := fun _ => fun
  | [d] => { results := [.lit (.bool true)], args := [d] }
  | _ => none }
def treeCopiesRow : OpenClaim := { program := "ytohfnpmehgpphaa", sum := "5b8b729de00842621638db3faf63dbfbf5d73c77376d1b4bf315d4f3f3e0e7a8", func := "rowan/rowanlaw05.TreeCopies", spec := "treeCopies", inPlace := ["internal/bytealg.abigen_runtime_cmpstring"], unfollowed := true, recurses := true, loops := true, apart := false }
def TreeCopiesSaid : Prop := treeCopiesRow.holds Try.pinned (OpenSpec.ofChange treeCopiesSpec)

/-- ITS FALSE NEIGHBOUR: 'it returns false'. Refute it at one input. -/
def treeCopiesWrong : ChangeSpec := { name := "treeCopies", fn := fun _ => fun
  | [d] => { results := [.lit (.bool false)], args := [d] }
  | _ => none }
def TreeCopiesWrongFalsely : Prop := treeCopiesRow.holds Try.pinned (OpenSpec.ofChange treeCopiesWrong)

/- THE SECOND FORM. 'bulk': how many values and letters a reading holds, each counted each time it is reached (what is shared counts as often as it is met; a slice's spare places count too). A statement '..UptoSaid' is the law's where the arguments, and the package variables that the reading takes, are together of bulk at most 1048576: NARROWER than '..Said'. Prove '..Said' where nothing that the law and all that it calls make is longer than what came in: it says more and counts as full. Else prove '..UptoSaid'. A law counts once. -/
mutual
def uptoBulk {H : Type} : DataW H → Nat
  | .lit (.string bytes) => bytes.length + 1
  | .lit _ => 1
  | .nil => 1
  | .ptr d => uptoBulk d + 1
  | .slice elems spare => uptoBulkAll elems + uptoBulkAll spare + 1
  | .agg parts => uptoBulkAll parts + 1
  | .iface _ d => uptoBulk d + 1
  | .map entries => uptoBulkEntries entries + 1
  | .held _ => 1
def uptoBulkAll {H : Type} : List (DataW H) → Nat
  | [] => 0
  | d :: r => uptoBulk d + uptoBulkAll r
def uptoBulkEntries {H : Type} : List (Lit × DataW H) → Nat
  | [] => 0
  | x :: r => uptoBulkEntry x + uptoBulkEntries r
def uptoBulkEntry {H : Type} : Lit × DataW H → Nat
  | (.string bytes, d) => bytes.length + uptoBulk d + 1
  | (_, d) => uptoBulk d + 1
 end
def uptoSmall : (H : Type) → List (DataW H) → Bool := fun _ ds => decide (uptoBulkAll ds ≤ 1048576)
def OpenSpec.upto (s : _root_.Go.ChangeSpec) : _root_.Go.OpenSpec := { _root_.Go.OpenSpec.ofChange s with cond := some uptoSmall }

/-- 'rowanlaw18.LayoutResolves', WHERE WHAT IT READS IS OF BULK AT MOST 1048576: true; the input reads as it did. -/
def layoutResolvesUptoRow : OpenClaim := { program := "ytohfnpmehgpphaa", sum := "5b8b729de00842621638db3faf63dbfbf5d73c77376d1b4bf315d4f3f3e0e7a8", func := "rowan/rowanlaw18.LayoutResolves", spec := "layoutResolves", inPlace := ["internal/bytealg.abigen_runtime_cmpstring"], unfollowed := true, recurses := true, apart := false, narrowed := true }
def LayoutResolvesUptoSaid : Prop := layoutResolvesUptoRow.holds Try.pinned (OpenSpec.upto layoutResolvesSpec)

/-- 'rowanlaw18.LayoutPlaces', WHERE WHAT IT READS IS OF BULK AT MOST 1048576: true; the input reads as it did. -/
def layoutPlacesUptoRow : OpenClaim := { program := "ytohfnpmehgpphaa", sum := "5b8b729de00842621638db3faf63dbfbf5d73c77376d1b4bf315d4f3f3e0e7a8", func := "rowan/rowanlaw18.LayoutPlaces", spec := "layoutPlaces", inPlace := ["internal/bytealg.abigen_runtime_cmpstring"], unfollowed := true, recurses := true, loops := true, apart := false, narrowed := true }
def LayoutPlacesUptoSaid : Prop := layoutPlacesUptoRow.holds Try.pinned (OpenSpec.upto layoutPlacesSpec)

/-- 'rowanlaw18.LayoutInstances', WHERE WHAT IT READS IS OF BULK AT MOST 1048576: true; the input reads as it did. -/
def layoutInstancesUptoRow : OpenClaim := { program := "ytohfnpmehgpphaa", sum := "5b8b729de00842621638db3faf63dbfbf5d73c77376d1b4bf315d4f3f3e0e7a8", func := "rowan/rowanlaw18.LayoutInstances", spec := "layoutInstances", inPlace := ["internal/bytealg.abigen_runtime_cmpstring"], unfollowed := true, recurses := true, loops := true, apart := false, narrowed := true }
def LayoutInstancesUptoSaid : Prop := layoutInstancesUptoRow.holds Try.pinned (OpenSpec.upto layoutInstancesSpec)

/-- 'rowanlaw18.LayoutSame', WHERE WHAT IT READS IS OF BULK AT MOST 1048576: true; the input reads as it did. -/
def layoutSameUptoRow : OpenClaim := { program := "ytohfnpmehgpphaa", sum := "5b8b729de00842621638db3faf63dbfbf5d73c77376d1b4bf315d4f3f3e0e7a8", func := "rowan/rowanlaw18.LayoutSame", spec := "layoutSame", inPlace := ["internal/bytealg.abigen_runtime_cmpstring"], unfollowed := true, recurses := true, loops := true, apart := false, narrowed := true }
def LayoutSameUptoSaid : Prop := layoutSameUptoRow.holds Try.pinned (OpenSpec.upto layoutSameSpec)

/-- 'rowanlaw27.CodecTexts', WHERE WHAT IT READS IS OF BULK AT MOST 1048576: true; the input reads as it did. -/
def codecTextsUptoRow : OpenClaim := { program := "ytohfnpmehgpphaa", sum := "5b8b729de00842621638db3faf63dbfbf5d73c77376d1b4bf315d4f3f3e0e7a8", func := "rowan/rowanlaw27.CodecTexts", spec := "codecTexts", inPlace := ["internal/bytealg.abigen_runtime_cmpstring"], unfollowed := true, recurses := true, apart := false, narrowed := true }
def CodecTextsUptoSaid : Prop := codecTextsUptoRow.holds Try.pinned (OpenSpec.upto codecTextsSpec)

/-- 'rowanlaw27.CodecGets', WHERE WHAT IT READS IS OF BULK AT MOST 1048576: true; the input reads as it did. -/
def codecGetsUptoRow : OpenClaim := { program := "ytohfnpmehgpphaa", sum := "5b8b729de00842621638db3faf63dbfbf5d73c77376d1b4bf315d4f3f3e0e7a8", func := "rowan/rowanlaw27.CodecGets", spec := "codecGets", inPlace := ["internal/bytealg.abigen_runtime_cmpstring"], unfollowed := true, recurses := true, apart := false, narrowed := true }
def CodecGetsUptoSaid : Prop := codecGetsUptoRow.holds Try.pinned (OpenSpec.upto codecGetsSpec)

/-- 'rowanlaw27.CodecPuts', WHERE WHAT IT READS IS OF BULK AT MOST 1048576: true; the input reads as it did. -/
def codecPutsUptoRow : OpenClaim := { program := "ytohfnpmehgpphaa", sum := "5b8b729de00842621638db3faf63dbfbf5d73c77376d1b4bf315d4f3f3e0e7a8", func := "rowan/rowanlaw27.CodecPuts", spec := "codecPuts", inPlace := ["internal/bytealg.abigen_runtime_cmpstring"], unfollowed := true, recurses := true, loops := true, apart := false, narrowed := true }
def CodecPutsUptoSaid : Prop := codecPutsUptoRow.holds Try.pinned (OpenSpec.upto codecPutsSpec)

/-- 'rowanlaw27.CodecOnce', WHERE WHAT IT READS IS OF BULK AT MOST 1048576: true; the input reads as it did. -/
def codecOnceUptoRow : OpenClaim := { program := "ytohfnpmehgpphaa", sum := "5b8b729de00842621638db3faf63dbfbf5d73c77376d1b4bf315d4f3f3e0e7a8", func := "rowan/rowanlaw27.CodecOnce", spec := "codecOnce", inPlace := ["internal/bytealg.abigen_runtime_cmpstring"], unfollowed := true, recurses := true, apart := false, narrowed := true }
def CodecOnceUptoSaid : Prop := codecOnceUptoRow.holds Try.pinned (OpenSpec.upto codecOnceSpec)

/-- 'rowanlaw05.TreeCopies', WHERE WHAT IT READS IS OF BULK AT MOST 1048576: true; the input reads as it did. -/
def treeCopiesUptoRow : OpenClaim := { program := "ytohfnpmehgpphaa", sum := "5b8b729de00842621638db3faf63dbfbf5d73c77376d1b4bf315d4f3f3e0e7a8", func := "rowan/rowanlaw05.TreeCopies", spec := "treeCopies", inPlace := ["internal/bytealg.abigen_runtime_cmpstring"], unfollowed := true, recurses := true, loops := true, apart := false, narrowed := true }
def TreeCopiesUptoSaid : Prop := treeCopiesUptoRow.holds Try.pinned (OpenSpec.upto treeCopiesSpec)

end Rows
end Go.Proofs.Ytohfnpmehgpphaa
