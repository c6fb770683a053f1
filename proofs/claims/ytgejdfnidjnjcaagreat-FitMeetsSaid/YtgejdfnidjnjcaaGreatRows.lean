/-
  NARROWER THAN 'FOR EVERY INPUT', by the rows' own cells (each row's printed sentence says how): FitSets: loops · FitAssigns: loops · FitMeets: loops.
  DERIVED. THE GIVEN ROWS OF THIS SEAT. 3 by the template 'for every input the law returns true; each argument reads behind the call as it read before'; 0 by the template 'total and deterministic' (their statements: YtgejdfnidjnjcaaGreatTotals.lean).
  GIVEN WITH THE SEED: the statements are not yours to turn. If you find one false, say at which input.
  Laid BY PROGRAM, IN A SANDBOX (cutbox-rows.mjs): the forced cells as the released guide's own fill.sh prints them over the translation cc61ed2b6165e380… (all of the seat's roots in one cut). By AI agents, Wed Nov 11 2026. No macro, syntax, notation, axiom, sorry.
-/
import Derived.Test.YtgejdfnidjnjcaaGreatChecked
import GoSem.Claim
import GoSem.ClaimJoined
import GoSem.ClaimMapViews
import Derived.JoinedTies
import Derived.KernelRfl
namespace Go.Proofs.YtgejdfnidjnjcaaGreat
/- THE CELL 'sum', in the pinned program and in every row, IS THE sha256 OF THE DUMP (.gsa) THAT YtgejdfnidjnjcaaGreatProg.lean LOADS. Nothing in Lean hashes anything: it is a label: what it is worth is what the hold of that sum in a sandbox is worth. -/
noncomputable def Tryz.pinned : Pinned := { name := "ytgejdfnidjnjcaagreat", sum := "cc61ed2b6165e38061dade6fb042e2fc668744841d76ca149b9026def2936b89", checked := Tryz.checked }
namespace Rows
def none {H : Type} : Left H := { results := [], args := [] }

/-- 'quadriviumlaw13.FitSets': WHATEVER THE INPUT: true; the input reads as it did. -/
def fitSetsSpec : ChangeSpec := { name := "fitSets", fn := fun _ => fun
  | [d1, d2] => { results := [.lit (.bool true)], args := [d1, d2] }
  | _ => none }
def fitSetsRow : OpenClaim := { program := "ytgejdfnidjnjcaagreat", sum := "cc61ed2b6165e38061dade6fb042e2fc668744841d76ca149b9026def2936b89", func := "quadrivium/quadriviumlaw13.FitSets", spec := "fitSets", unfollowed := true, recurses := true, loops := true, apart := false }
def FitSetsSaid : Prop := fitSetsRow.holds Tryz.pinned (OpenSpec.ofChange fitSetsSpec)

/-- ITS FALSE NEIGHBOUR: 'it returns false'. Refute it at one input. -/
def fitSetsWrong : ChangeSpec := { name := "fitSets", fn := fun _ => fun
  | [d1, d2] => { results := [.lit (.bool false)], args := [d1, d2] }
  | _ => none }
def FitSetsWrongFalsely : Prop := fitSetsRow.holds Tryz.pinned (OpenSpec.ofChange fitSetsWrong)

/-- 'quadriviumlaw13.FitAssigns': WHATEVER THE INPUT: true; the input reads as it did. -/
def fitAssignsSpec : ChangeSpec := { name := "fitAssigns", fn := fun _ => fun
  | [d1, d2, d3] => { results := [.lit (.bool true)], args := [d1, d2, d3] }
  | _ => none }
def fitAssignsRow : OpenClaim := { program := "ytgejdfnidjnjcaagreat", sum := "cc61ed2b6165e38061dade6fb042e2fc668744841d76ca149b9026def2936b89", func := "quadrivium/quadriviumlaw13.FitAssigns", spec := "fitAssigns", unfollowed := true, recurses := true, loops := true, apart := false }
def FitAssignsSaid : Prop := fitAssignsRow.holds Tryz.pinned (OpenSpec.ofChange fitAssignsSpec)

/-- ITS FALSE NEIGHBOUR: 'it returns false'. Refute it at one input. -/
def fitAssignsWrong : ChangeSpec := { name := "fitAssigns", fn := fun _ => fun
  | [d1, d2, d3] => { results := [.lit (.bool false)], args := [d1, d2, d3] }
  | _ => none }
def FitAssignsWrongFalsely : Prop := fitAssignsRow.holds Tryz.pinned (OpenSpec.ofChange fitAssignsWrong)

/-- 'quadriviumlaw13.FitMeets': WHATEVER THE INPUT: true; the input reads as it did. -/
def fitMeetsSpec : ChangeSpec := { name := "fitMeets", fn := fun _ => fun
  | [d1, d2, d3] => { results := [.lit (.bool true)], args := [d1, d2, d3] }
  | _ => none }
def fitMeetsRow : OpenClaim := { program := "ytgejdfnidjnjcaagreat", sum := "cc61ed2b6165e38061dade6fb042e2fc668744841d76ca149b9026def2936b89", func := "quadrivium/quadriviumlaw13.FitMeets", spec := "fitMeets", unfollowed := true, recurses := true, loops := true, apart := false }
def FitMeetsSaid : Prop := fitMeetsRow.holds Tryz.pinned (OpenSpec.ofChange fitMeetsSpec)

/-- ITS FALSE NEIGHBOUR: 'it returns false'. Refute it at one input. -/
def fitMeetsWrong : ChangeSpec := { name := "fitMeets", fn := fun _ => fun
  | [d1, d2, d3] => { results := [.lit (.bool false)], args := [d1, d2, d3] }
  | _ => none }
def FitMeetsWrongFalsely : Prop := fitMeetsRow.holds Tryz.pinned (OpenSpec.ofChange fitMeetsWrong)

/- THE SECOND FORM. 'bulk': how many values and letters a reading holds, each counted each time it is reached (what is shared counts as often as it is met; a slice's spare places count too). A statement '..UptoSaid' is the law's where the arguments, and the package variables that the reading takes, are together of bulk at most 1048576: NARROWER than '..Said'. Prove '..Said' where nothing that the law and all that it calls make is longer than what came in: it says more and counts as full. Else prove '..UptoSaid'. A law counts once. -/
mutual
def uptoBulk {H : Type} : DataW H → Nat
  | .lit (.string bytes) => bytes.length + 1
  | .lit _ => 1
  | .nil => 1
  | .ptr d => uptoBulk d + 1
  | .slice elems spare => uptoBulkAll elems + uptoBulkAll spare + 1
  | .agg parts => uptoBulkAll parts + 1
  | .iface _ d => uptoBulk d + 1
  | .map entries => uptoBulkEntries entries + 1
  | .held _ => 1
def uptoBulkAll {H : Type} : List (DataW H) → Nat
  | [] => 0
  | d :: r => uptoBulk d + uptoBulkAll r
def uptoBulkEntries {H : Type} : List (Lit × DataW H) → Nat
  | [] => 0
  | x :: r => uptoBulkEntry x + uptoBulkEntries r
def uptoBulkEntry {H : Type} : Lit × DataW H → Nat
  | (.string bytes, d) => bytes.length + uptoBulk d + 1
  | (_, d) => uptoBulk d + 1
 end
def uptoSmall : (H : Type) → List (DataW H) → Bool := fun _ ds => decide (uptoBulkAll ds ≤ 1048576)
def OpenSpec.upto (s : _root_.Go.ChangeSpec) : _root_.Go.OpenSpec := { _root_.Go.OpenSpec.ofChange s with cond := some uptoSmall }

/-- 'quadriviumlaw13.FitSets', WHERE WHAT IT READS IS OF BULK AT MOST 1048576: true; the input reads as it did. -/
def fitSetsUptoRow : OpenClaim := { program := "ytgejdfnidjnjcaagreat", sum := "cc61ed2b6165e38061dade6fb042e2fc668744841d76ca149b9026def2936b89", func := "quadrivium/quadriviumlaw13.FitSets", spec := "fitSets", unfollowed := true, recurses := true, loops := true, apart := false, narrowed := true }
def FitSetsUptoSaid : Prop := fitSetsUptoRow.holds Tryz.pinned (OpenSpec.upto fitSetsSpec)

/-- 'quadriviumlaw13.FitAssigns', WHERE WHAT IT READS IS OF BULK AT MOST 1048576: true; the input reads as it did. -/
def fitAssignsUptoRow : OpenClaim := { program := "ytgejdfnidjnjcaagreat", sum := "cc61ed2b6165e38061dade6fb042e2fc668744841d76ca149b9026def2936b89", func := "quadrivium/quadriviumlaw13.FitAssigns", spec := "fitAssigns", unfollowed := true, recurses := true, loops := true, apart := false, narrowed := true }
def FitAssignsUptoSaid : Prop := fitAssignsUptoRow.holds Tryz.pinned (OpenSpec.upto fitAssignsSpec)

/-- 'quadriviumlaw13.FitMeets', WHERE WHAT IT READS IS OF BULK AT MOST 1048576: true; the input reads as it did. -/
def fitMeetsUptoRow : OpenClaim := { program := "ytgejdfnidjnjcaagreat", sum := "cc61ed2b6165e38061dade6fb042e2fc668744841d76ca149b9026def2936b89", func := "quadrivium/quadriviumlaw13.FitMeets", spec := "fitMeets", unfollowed := true, recurses := true, loops := true, apart := false, narrowed := true }
def FitMeetsUptoSaid : Prop := fitMeetsUptoRow.holds Tryz.pinned (OpenSpec.upto fitMeetsSpec)

end Rows
end Go.Proofs.YtgejdfnidjnjcaaGreat
