/-
  No cell of these rows narrows 'for every input' (looked for: loops, veiled, ifaces, maps, wideKeys, modest, calm, conditions, laid).
  DERIVED. THE GIVEN ROWS OF THIS SEAT. 5 by the template 'for every input the law returns true; each argument reads behind the call as it read before'; 0 by the template 'total and deterministic' (their statements: YtofbcijbpfjliaaTotals.lean).
  GIVEN WITH THE SEED: the statements are not yours to turn. If you find one false, say at which input.
  Laid BY PROGRAM, IN A SANDBOX (cutbox-rows.mjs): the forced cells as the released guide's own fill.sh prints them over the translation e5e73bf2ad6b54a1… (all of the seat's roots in one cut). By AI agents, Wed Nov 11 2026. No macro, syntax, notation, axiom, sorry.
-/
import Derived.Test.YtofbcijbpfjliaaChecked
import GoSem.Claim
import GoSem.ClaimJoined
import GoSem.ClaimMapViews
import Derived.JoinedTies
import Derived.KernelRfl
namespace Go.Proofs.Ytofbcijbpfjliaa
/- THE CELL 'sum', in the pinned program and in every row, IS THE sha256 OF THE DUMP (.gsa) THAT YtofbcijbpfjliaaProg.lean LOADS. Nothing in Lean hashes anything: it is a label: what it is worth is what the hold of that sum in a sandbox is worth. -/
noncomputable def Try.pinned : Pinned := { name := "ytofbcijbpfjliaa", sum := "e5e73bf2ad6b54a13250e0d1522bf239296368676a49292b92c35e2d40b23c5e", checked := Try.checked }
namespace Rows
def none {H : Type} : Left H := { results := [], args := [] }

/-- 'quadriviumlaw18.CountReduces': WHATEVER THE INPUT: true; the input reads as it did. -/
def countReducesSpec : ChangeSpec := { name := "countReduces", fn := fun _ => fun
  | [d1, d2] => { results := [.lit (.bool true)], args := [d1, d2] }
  | _ => none }
def countReducesRow : OpenClaim := { program := "ytofbcijbpfjliaa", sum := "e5e73bf2ad6b54a13250e0d1522bf239296368676a49292b92c35e2d40b23c5e", func := "quadrivium/quadriviumlaw18.CountReduces", spec := "countReduces", unfollowed := true, recurses := true, apart := false }
def CountReducesSaid : Prop := countReducesRow.holds Try.pinned (OpenSpec.ofChange countReducesSpec)

/-- ITS FALSE NEIGHBOUR: 'it returns false'. Refute it at one input. -/
def countReducesWrong : ChangeSpec := { name := "countReduces", fn := fun _ => fun
  | [d1, d2] => { results := [.lit (.bool false)], args := [d1, d2] }
  | _ => none }
def CountReducesWrongFalsely : Prop := countReducesRow.holds Try.pinned (OpenSpec.ofChange countReducesWrong)

/-- 'quadriviumlaw18.CountMost': WHATEVER THE INPUT: true; the input reads as it did. -/
def countMostSpec : ChangeSpec := { name := "countMost", fn := fun _ => fun
  | [d] => { results := [.lit (.bool true)], args := [d] }
  | _ => none }
def countMostRow : OpenClaim := { program := "ytofbcijbpfjliaa", sum := "e5e73bf2ad6b54a13250e0d1522bf239296368676a49292b92c35e2d40b23c5e", func := "quadrivium/quadriviumlaw18.CountMost", spec := "countMost", unfollowed := true, recurses := true, apart := false }
def CountMostSaid : Prop := countMostRow.holds Try.pinned (OpenSpec.ofChange countMostSpec)

/-- ITS FALSE NEIGHBOUR: 'it returns false'. Refute it at one input. -/
def countMostWrong : ChangeSpec := { name := "countMost", fn := fun _ => fun
  | [d] => { results := [.lit (.bool false)], args := [d] }
  | _ => none }
def CountMostWrongFalsely : Prop := countMostRow.holds Try.pinned (OpenSpec.ofChange countMostWrong)

/-- 'quadriviumlaw18.CountFree': WHATEVER THE INPUT: true; the input reads as it did. -/
def countFreeSpec : ChangeSpec := { name := "countFree", fn := fun _ => fun
  | [d1, d2] => { results := [.lit (.bool true)], args := [d1, d2] }
  | _ => none }
def countFreeRow : OpenClaim := { program := "ytofbcijbpfjliaa", sum := "e5e73bf2ad6b54a13250e0d1522bf239296368676a49292b92c35e2d40b23c5e", func := "quadrivium/quadriviumlaw18.CountFree", spec := "countFree", unfollowed := true, recurses := true, apart := false }
def CountFreeSaid : Prop := countFreeRow.holds Try.pinned (OpenSpec.ofChange countFreeSpec)

/-- ITS FALSE NEIGHBOUR: 'it returns false'. Refute it at one input. -/
def countFreeWrong : ChangeSpec := { name := "countFree", fn := fun _ => fun
  | [d1, d2] => { results := [.lit (.bool false)], args := [d1, d2] }
  | _ => none }
def CountFreeWrongFalsely : Prop := countFreeRow.holds Try.pinned (OpenSpec.ofChange countFreeWrong)

/-- 'quadriviumlaw18.CountGroups': WHATEVER THE INPUT: true; the input reads as it did. -/
def countGroupsSpec : ChangeSpec := { name := "countGroups", fn := fun _ => fun
  | [d] => { results := [.lit (.bool true)], args := [d] }
  | _ => none }
def countGroupsRow : OpenClaim := { program := "ytofbcijbpfjliaa", sum := "e5e73bf2ad6b54a13250e0d1522bf239296368676a49292b92c35e2d40b23c5e", func := "quadrivium/quadriviumlaw18.CountGroups", spec := "countGroups", unfollowed := true, recurses := true, apart := false }
def CountGroupsSaid : Prop := countGroupsRow.holds Try.pinned (OpenSpec.ofChange countGroupsSpec)

/-- ITS FALSE NEIGHBOUR: 'it returns false'. Refute it at one input. -/
def countGroupsWrong : ChangeSpec := { name := "countGroups", fn := fun _ => fun
  | [d] => { results := [.lit (.bool false)], args := [d] }
  | _ => none }
def CountGroupsWrongFalsely : Prop := countGroupsRow.holds Try.pinned (OpenSpec.ofChange countGroupsWrong)

/-- 'quadriviumlaw18.CountLeft': WHATEVER THE INPUT: true; the input reads as it did. -/
def countLeftSpec : ChangeSpec := { name := "countLeft", fn := fun _ => fun
  | [d] => { results := [.lit (.bool true)], args := [d] }
  | _ => none }
def countLeftRow : OpenClaim := { program := "ytofbcijbpfjliaa", sum := "e5e73bf2ad6b54a13250e0d1522bf239296368676a49292b92c35e2d40b23c5e", func := "quadrivium/quadriviumlaw18.CountLeft", spec := "countLeft", inPlace := ["internal/bytealg.abigen_runtime_cmpstring"], unfollowed := true, recurses := true, apart := false }
def CountLeftSaid : Prop := countLeftRow.holds Try.pinned (OpenSpec.ofChange countLeftSpec)

/-- ITS FALSE NEIGHBOUR: 'it returns false'. Refute it at one input. -/
def countLeftWrong : ChangeSpec := { name := "countLeft", fn := fun _ => fun
  | [d] => { results := [.lit (.bool false)], args := [d] }
  | _ => none }
def CountLeftWrongFalsely : Prop := countLeftRow.holds Try.pinned (OpenSpec.ofChange countLeftWrong)

/- THE SECOND FORM. 'bulk': how many values and letters a reading holds, each counted each time it is reached (what is shared counts as often as it is met; a slice's spare places count too). A statement '..UptoSaid' is the law's where the arguments, and the package variables that the reading takes, are together of bulk at most 1048576: NARROWER than '..Said'. Prove '..Said' where nothing that the law and all that it calls make is longer than what came in: it says more and counts as full. Else prove '..UptoSaid'. A law counts once. -/
mutual
def uptoBulk {H : Type} : DataW H → Nat
  | .lit (.string bytes) => bytes.length + 1
  | .lit _ => 1
  | .nil => 1
  | .ptr d => uptoBulk d + 1
  | .slice elems spare => uptoBulkAll elems + uptoBulkAll spare + 1
  | .agg parts => uptoBulkAll parts + 1
  | .iface _ d => uptoBulk d + 1
  | .map entries => uptoBulkEntries entries + 1
  | .held _ => 1
def uptoBulkAll {H : Type} : List (DataW H) → Nat
  | [] => 0
  | d :: r => uptoBulk d + uptoBulkAll r
def uptoBulkEntries {H : Type} : List (Lit × DataW H) → Nat
  | [] => 0
  | x :: r => uptoBulkEntry x + uptoBulkEntries r
def uptoBulkEntry {H : Type} : Lit × DataW H → Nat
  | (.string bytes, d) => bytes.length + uptoBulk d + 1
  | (_, d) => uptoBulk d + 1
 end
def uptoSmall : (H : Type) → List (DataW H) → Bool := fun _ ds => decide (uptoBulkAll ds ≤ 1048576)
def OpenSpec.upto (s : _root_.Go.ChangeSpec) : _root_.Go.OpenSpec := { _root_.Go.OpenSpec.ofChange s with cond := some uptoSmall }

/-- 'quadriviumlaw18.CountReduces', WHERE WHAT IT READS IS OF BULK AT MOST 1048576: true; the input reads as it did. -/
def countReducesUptoRow : OpenClaim := { program := "ytofbcijbpfjliaa", sum := "e5e73bf2ad6b54a13250e0d1522bf239296368676a49292b92c35e2d40b23c5e", func := "quadrivium/quadriviumlaw18.CountReduces", spec := "countReduces", unfollowed := true, recurses := true, apart := false, narrowed := true }
def CountReducesUptoSaid : Prop := countReducesUptoRow.holds Try.pinned (OpenSpec.upto countReducesSpec)

/-- 'quadriviumlaw18.CountMost', WHERE WHAT IT READS IS OF BULK AT MOST 1048576: true; the input reads as it did. -/
def countMostUptoRow : OpenClaim := { program := "ytofbcijbpfjliaa", sum := "e5e73bf2ad6b54a13250e0d1522bf239296368676a49292b92c35e2d40b23c5e", func := "quadrivium/quadriviumlaw18.CountMost", spec := "countMost", unfollowed := true, recurses := true, apart := false, narrowed := true }
def CountMostUptoSaid : Prop := countMostUptoRow.holds Try.pinned (OpenSpec.upto countMostSpec)

/-- 'quadriviumlaw18.CountFree', WHERE WHAT IT READS IS OF BULK AT MOST 1048576: true; the input reads as it did. -/
def countFreeUptoRow : OpenClaim := { program := "ytofbcijbpfjliaa", sum := "e5e73bf2ad6b54a13250e0d1522bf239296368676a49292b92c35e2d40b23c5e", func := "quadrivium/quadriviumlaw18.CountFree", spec := "countFree", unfollowed := true, recurses := true, apart := false, narrowed := true }
def CountFreeUptoSaid : Prop := countFreeUptoRow.holds Try.pinned (OpenSpec.upto countFreeSpec)

/-- 'quadriviumlaw18.CountGroups', WHERE WHAT IT READS IS OF BULK AT MOST 1048576: true; the input reads as it did. -/
def countGroupsUptoRow : OpenClaim := { program := "ytofbcijbpfjliaa", sum := "e5e73bf2ad6b54a13250e0d1522bf239296368676a49292b92c35e2d40b23c5e", func := "quadrivium/quadriviumlaw18.CountGroups", spec := "countGroups", unfollowed := true, recurses := true, apart := false, narrowed := true }
def CountGroupsUptoSaid : Prop := countGroupsUptoRow.holds Try.pinned (OpenSpec.upto countGroupsSpec)

/-- 'quadriviumlaw18.CountLeft', WHERE WHAT IT READS IS OF BULK AT MOST 1048576: true; the input reads as it did. -/
def countLeftUptoRow : OpenClaim := { program := "ytofbcijbpfjliaa", sum := "e5e73bf2ad6b54a13250e0d1522bf239296368676a49292b92c35e2d40b23c5e", func := "quadrivium/quadriviumlaw18.CountLeft", spec := "countLeft", inPlace := ["internal/bytealg.abigen_runtime_cmpstring"], unfollowed := true, recurses := true, apart := false, narrowed := true }
def CountLeftUptoSaid : Prop := countLeftUptoRow.holds Try.pinned (OpenSpec.upto countLeftSpec)

end Rows
end Go.Proofs.Ytofbcijbpfjliaa
