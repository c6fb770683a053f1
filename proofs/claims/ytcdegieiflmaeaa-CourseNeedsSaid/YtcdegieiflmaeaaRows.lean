/-
  No cell of these rows narrows 'for every input' (looked for: loops, veiled, ifaces, maps, wideKeys, modest, calm, conditions, laid).
  DERIVED. THE GIVEN ROWS OF THIS SEAT. 5 by the template 'for every input the law returns true; each argument reads behind the call as it read before'; 0 by the template 'total and deterministic' (their statements: YtcdegieiflmaeaaTotals.lean).
  GIVEN WITH THE SEED: the statements are not yours to turn. If you find one false, say at which input.
  Laid BY PROGRAM, IN A SANDBOX (cutbox-rows.mjs): the forced cells as the released guide's own fill.sh prints them over the translation 084646df1fbd5945… (all of the seat's roots in one cut). By AI agents, Wed Nov 11 2026. No macro, syntax, notation, axiom, sorry.
-/
import Derived.Test.YtcdegieiflmaeaaChecked
import GoSem.Claim
import GoSem.ClaimJoined
import GoSem.ClaimMapViews
import Derived.JoinedTies
import Derived.KernelRfl
namespace Go.Proofs.Ytcdegieiflmaeaa
/- THE CELL 'sum', in the pinned program and in every row, IS THE sha256 OF THE DUMP (.gsa) THAT YtcdegieiflmaeaaProg.lean LOADS. Nothing in Lean hashes anything: it is a label: what it is worth is what the hold of that sum in a sandbox is worth. -/
noncomputable def Try.pinned : Pinned := { name := "ytcdegieiflmaeaa", sum := "084646df1fbd594540823def6d28c79a44bf06b27060148b4ca1f1ed5adade29", checked := Try.checked }
namespace Rows
def none {H : Type} : Left H := { results := [], args := [] }

/-- 'quadriviumlaw07.CourseChecks': WHATEVER THE INPUT: true; the input reads as it did. -/
def courseChecksSpec : ChangeSpec := { name := "courseChecks", fn := fun _ => fun
  | [d1, d2, d3] => { results := [.lit (.bool true)], args := [d1, d2, d3] }
  | _ => none }
def courseChecksRow : OpenClaim := { program := "ytcdegieiflmaeaa", sum := "084646df1fbd594540823def6d28c79a44bf06b27060148b4ca1f1ed5adade29", func := "quadrivium/quadriviumlaw07.CourseChecks", spec := "courseChecks", unfollowed := true, recurses := true, apart := false }
def CourseChecksSaid : Prop := courseChecksRow.holds Try.pinned (OpenSpec.ofChange courseChecksSpec)

/-- ITS FALSE NEIGHBOUR: 'it returns false'. Refute it at one input. -/
def courseChecksWrong : ChangeSpec := { name := "courseChecks", fn := fun _ => fun
  | [d1, d2, d3] => { results := [.lit (.bool false)], args := [d1, d2, d3] }
  | _ => none }
def CourseChecksWrongFalsely : Prop := courseChecksRow.holds Try.pinned (OpenSpec.ofChange courseChecksWrong)

/-- 'quadriviumlaw07.CourseNeeds': WHATEVER THE INPUT: true; the input reads as it did. -/
def courseNeedsSpec : ChangeSpec := { name := "courseNeeds", fn := fun _ => fun
  | [d1, d2, d3] => { results := [.lit (.bool true)], args := [d1, d2, d3] }
  | _ => none }
def courseNeedsRow : OpenClaim := { program := "ytcdegieiflmaeaa", sum := "084646df1fbd594540823def6d28c79a44bf06b27060148b4ca1f1ed5adade29", func := "quadrivium/quadriviumlaw07.CourseNeeds", spec := "courseNeeds", unfollowed := true, recurses := true, apart := false }
def CourseNeedsSaid : Prop := courseNeedsRow.holds Try.pinned (OpenSpec.ofChange courseNeedsSpec)

/-- ITS FALSE NEIGHBOUR: 'it returns false'. Refute it at one input. -/
def courseNeedsWrong : ChangeSpec := { name := "courseNeeds", fn := fun _ => fun
  | [d1, d2, d3] => { results := [.lit (.bool false)], args := [d1, d2, d3] }
  | _ => none }
def CourseNeedsWrongFalsely : Prop := courseNeedsRow.holds Try.pinned (OpenSpec.ofChange courseNeedsWrong)

/-- 'quadriviumlaw07.CourseOrders': WHATEVER THE INPUT: true; the input reads as it did. -/
def courseOrdersSpec : ChangeSpec := { name := "courseOrders", fn := fun _ => fun
  | [d] => { results := [.lit (.bool true)], args := [d] }
  | _ => none }
def courseOrdersRow : OpenClaim := { program := "ytcdegieiflmaeaa", sum := "084646df1fbd594540823def6d28c79a44bf06b27060148b4ca1f1ed5adade29", func := "quadrivium/quadriviumlaw07.CourseOrders", spec := "courseOrders", unfollowed := true, recurses := true, apart := false }
def CourseOrdersSaid : Prop := courseOrdersRow.holds Try.pinned (OpenSpec.ofChange courseOrdersSpec)

/-- ITS FALSE NEIGHBOUR: 'it returns false'. Refute it at one input. -/
def courseOrdersWrong : ChangeSpec := { name := "courseOrders", fn := fun _ => fun
  | [d] => { results := [.lit (.bool false)], args := [d] }
  | _ => none }
def CourseOrdersWrongFalsely : Prop := courseOrdersRow.holds Try.pinned (OpenSpec.ofChange courseOrdersWrong)

/-- 'quadriviumlaw07.CourseClosed': WHATEVER THE INPUT: true; the input reads as it did. -/
def courseClosedSpec : ChangeSpec := { name := "courseClosed", fn := fun _ => fun
  | [d1, d2] => { results := [.lit (.bool true)], args := [d1, d2] }
  | _ => none }
def courseClosedRow : OpenClaim := { program := "ytcdegieiflmaeaa", sum := "084646df1fbd594540823def6d28c79a44bf06b27060148b4ca1f1ed5adade29", func := "quadrivium/quadriviumlaw07.CourseClosed", spec := "courseClosed", unfollowed := true, recurses := true, apart := false }
def CourseClosedSaid : Prop := courseClosedRow.holds Try.pinned (OpenSpec.ofChange courseClosedSpec)

/-- ITS FALSE NEIGHBOUR: 'it returns false'. Refute it at one input. -/
def courseClosedWrong : ChangeSpec := { name := "courseClosed", fn := fun _ => fun
  | [d1, d2] => { results := [.lit (.bool false)], args := [d1, d2] }
  | _ => none }
def CourseClosedWrongFalsely : Prop := courseClosedRow.holds Try.pinned (OpenSpec.ofChange courseClosedWrong)

/-- 'quadriviumlaw07.CourseTimes': WHATEVER THE INPUT: true; the input reads as it did. -/
def courseTimesSpec : ChangeSpec := { name := "courseTimes", fn := fun _ => fun
  | [d1, d2, d3] => { results := [.lit (.bool true)], args := [d1, d2, d3] }
  | _ => none }
def courseTimesRow : OpenClaim := { program := "ytcdegieiflmaeaa", sum := "084646df1fbd594540823def6d28c79a44bf06b27060148b4ca1f1ed5adade29", func := "quadrivium/quadriviumlaw07.CourseTimes", spec := "courseTimes", unfollowed := true, recurses := true, apart := false }
def CourseTimesSaid : Prop := courseTimesRow.holds Try.pinned (OpenSpec.ofChange courseTimesSpec)

/-- ITS FALSE NEIGHBOUR: 'it returns false'. Refute it at one input. -/
def courseTimesWrong : ChangeSpec := { name := "courseTimes", fn := fun _ => fun
  | [d1, d2, d3] => { results := [.lit (.bool false)], args := [d1, d2, d3] }
  | _ => none }
def CourseTimesWrongFalsely : Prop := courseTimesRow.holds Try.pinned (OpenSpec.ofChange courseTimesWrong)

/- THE SECOND FORM. 'bulk': how many values and letters a reading holds, each counted each time it is reached (what is shared counts as often as it is met; a slice's spare places count too). A statement '..UptoSaid' is the law's where the arguments, and the package variables that the reading takes, are together of bulk at most 1048576: NARROWER than '..Said'. Prove '..Said' where nothing that the law and all that it calls make is longer than what came in: it says more and counts as full. Else prove '..UptoSaid'. A law counts once. -/
mutual
def uptoBulk {H : Type} : DataW H → Nat
  | .lit (.string bytes) => bytes.length + 1
  | .lit _ => 1
  | .nil => 1
  | .ptr d => uptoBulk d + 1
  | .slice elems spare => uptoBulkAll elems + uptoBulkAll spare + 1
  | .agg parts => uptoBulkAll parts + 1
  | .iface _ d => uptoBulk d + 1
  | .map entries => uptoBulkEntries entries + 1
  | .held _ => 1
def uptoBulkAll {H : Type} : List (DataW H) → Nat
  | [] => 0
  | d :: r => uptoBulk d + uptoBulkAll r
def uptoBulkEntries {H : Type} : List (Lit × DataW H) → Nat
  | [] => 0
  | x :: r => uptoBulkEntry x + uptoBulkEntries r
def uptoBulkEntry {H : Type} : Lit × DataW H → Nat
  | (.string bytes, d) => bytes.length + uptoBulk d + 1
  | (_, d) => uptoBulk d + 1
 end
def uptoSmall : (H : Type) → List (DataW H) → Bool := fun _ ds => decide (uptoBulkAll ds ≤ 1048576)
def OpenSpec.upto (s : _root_.Go.ChangeSpec) : _root_.Go.OpenSpec := { _root_.Go.OpenSpec.ofChange s with cond := some uptoSmall }

/-- 'quadriviumlaw07.CourseChecks', WHERE WHAT IT READS IS OF BULK AT MOST 1048576: true; the input reads as it did. -/
def courseChecksUptoRow : OpenClaim := { program := "ytcdegieiflmaeaa", sum := "084646df1fbd594540823def6d28c79a44bf06b27060148b4ca1f1ed5adade29", func := "quadrivium/quadriviumlaw07.CourseChecks", spec := "courseChecks", unfollowed := true, recurses := true, apart := false, narrowed := true }
def CourseChecksUptoSaid : Prop := courseChecksUptoRow.holds Try.pinned (OpenSpec.upto courseChecksSpec)

/-- 'quadriviumlaw07.CourseNeeds', WHERE WHAT IT READS IS OF BULK AT MOST 1048576: true; the input reads as it did. -/
def courseNeedsUptoRow : OpenClaim := { program := "ytcdegieiflmaeaa", sum := "084646df1fbd594540823def6d28c79a44bf06b27060148b4ca1f1ed5adade29", func := "quadrivium/quadriviumlaw07.CourseNeeds", spec := "courseNeeds", unfollowed := true, recurses := true, apart := false, narrowed := true }
def CourseNeedsUptoSaid : Prop := courseNeedsUptoRow.holds Try.pinned (OpenSpec.upto courseNeedsSpec)

/-- 'quadriviumlaw07.CourseOrders', WHERE WHAT IT READS IS OF BULK AT MOST 1048576: true; the input reads as it did. -/
def courseOrdersUptoRow : OpenClaim := { program := "ytcdegieiflmaeaa", sum := "084646df1fbd594540823def6d28c79a44bf06b27060148b4ca1f1ed5adade29", func := "quadrivium/quadriviumlaw07.CourseOrders", spec := "courseOrders", unfollowed := true, recurses := true, apart := false, narrowed := true }
def CourseOrdersUptoSaid : Prop := courseOrdersUptoRow.holds Try.pinned (OpenSpec.upto courseOrdersSpec)

/-- 'quadriviumlaw07.CourseClosed', WHERE WHAT IT READS IS OF BULK AT MOST 1048576: true; the input reads as it did. -/
def courseClosedUptoRow : OpenClaim := { program := "ytcdegieiflmaeaa", sum := "084646df1fbd594540823def6d28c79a44bf06b27060148b4ca1f1ed5adade29", func := "quadrivium/quadriviumlaw07.CourseClosed", spec := "courseClosed", unfollowed := true, recurses := true, apart := false, narrowed := true }
def CourseClosedUptoSaid : Prop := courseClosedUptoRow.holds Try.pinned (OpenSpec.upto courseClosedSpec)

/-- 'quadriviumlaw07.CourseTimes', WHERE WHAT IT READS IS OF BULK AT MOST 1048576: true; the input reads as it did. -/
def courseTimesUptoRow : OpenClaim := { program := "ytcdegieiflmaeaa", sum := "084646df1fbd594540823def6d28c79a44bf06b27060148b4ca1f1ed5adade29", func := "quadrivium/quadriviumlaw07.CourseTimes", spec := "courseTimes", unfollowed := true, recurses := true, apart := false, narrowed := true }
def CourseTimesUptoSaid : Prop := courseTimesUptoRow.holds Try.pinned (OpenSpec.upto courseTimesSpec)

end Rows
end Go.Proofs.Ytcdegieiflmaeaa
