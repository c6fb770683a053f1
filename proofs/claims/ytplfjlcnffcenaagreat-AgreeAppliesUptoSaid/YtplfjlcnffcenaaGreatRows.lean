/-
  No cell of these rows narrows 'for every input' (looked for: loops, veiled, ifaces, maps, wideKeys, modest, calm, conditions, laid).
  DERIVED. THE GIVEN ROWS OF THIS SEAT. 3 by the template 'for every input the law returns true; each argument reads behind the call as it read before'; 0 by the template 'total and deterministic' (their statements: YtplfjlcnffcenaaGreatTotals.lean).
  GIVEN WITH THE SEED: the statements are not yours to turn. If you find one false, say at which input.
  Laid BY PROGRAM, IN A SANDBOX (cutbox-rows.mjs): the forced cells as the released guide's own fill.sh prints them over the translation 40c221f7f776fcfb… (all of the seat's roots in one cut). By AI agents, Wed Nov 11 2026. No macro, syntax, notation, axiom, sorry.
-/
import Derived.Test.YtplfjlcnffcenaaGreatChecked
import GoSem.Claim
import GoSem.ClaimJoined
import GoSem.ClaimMapViews
import Derived.JoinedTies
import Derived.KernelRfl
namespace Go.Proofs.YtplfjlcnffcenaaGreat
/- THE CELL 'sum', in the pinned program and in every row, IS THE sha256 OF THE DUMP (.gsa) THAT YtplfjlcnffcenaaGreatProg.lean LOADS. Nothing in Lean hashes anything: it is a label: what it is worth is what the hold of that sum in a sandbox is worth. -/
noncomputable def Tryz.pinned : Pinned := { name := "ytplfjlcnffcenaagreat", sum := "40c221f7f776fcfbe1c5e6bb23f7223b9fab2ee023bebadbaf129f3c7ef64c90", checked := Tryz.checked }
namespace Rows
def none {H : Type} : Left H := { results := [], args := [] }

/-- 'quadriviumlaw16.AgreeChecks': WHATEVER THE INPUT: true; the input reads as it did. -/
def agreeChecksSpec : ChangeSpec := { name := "agreeChecks", fn := fun _ => fun
  | [d1, d2, d3] => { results := [.lit (.bool true)], args := [d1, d2, d3] }
  | _ => none }
def agreeChecksRow : OpenClaim := { program := "ytplfjlcnffcenaagreat", sum := "40c221f7f776fcfbe1c5e6bb23f7223b9fab2ee023bebadbaf129f3c7ef64c90", func := "quadrivium/quadriviumlaw16.AgreeChecks", spec := "agreeChecks", inPlace := ["maps.clone"], unfollowed := true, recurses := true, apart := false }
def AgreeChecksSaid : Prop := agreeChecksRow.holds Tryz.pinned (OpenSpec.ofChange agreeChecksSpec)

/-- ITS FALSE NEIGHBOUR: 'it returns false'. Refute it at one input. -/
def agreeChecksWrong : ChangeSpec := { name := "agreeChecks", fn := fun _ => fun
  | [d1, d2, d3] => { results := [.lit (.bool false)], args := [d1, d2, d3] }
  | _ => none }
def AgreeChecksWrongFalsely : Prop := agreeChecksRow.holds Tryz.pinned (OpenSpec.ofChange agreeChecksWrong)

/-- 'quadriviumlaw16.AgreeApplies': WHATEVER THE INPUT: true; the input reads as it did. -/
def agreeAppliesSpec : ChangeSpec := { name := "agreeApplies", fn := fun _ => fun
  | [d1, d2, d3] => { results := [.lit (.bool true)], args := [d1, d2, d3] }
  | _ => none }
def agreeAppliesRow : OpenClaim := { program := "ytplfjlcnffcenaagreat", sum := "40c221f7f776fcfbe1c5e6bb23f7223b9fab2ee023bebadbaf129f3c7ef64c90", func := "quadrivium/quadriviumlaw16.AgreeApplies", spec := "agreeApplies", inPlace := ["maps.clone"], unfollowed := true, recurses := true, apart := false }
def AgreeAppliesSaid : Prop := agreeAppliesRow.holds Tryz.pinned (OpenSpec.ofChange agreeAppliesSpec)

/-- ITS FALSE NEIGHBOUR: 'it returns false'. Refute it at one input. -/
def agreeAppliesWrong : ChangeSpec := { name := "agreeApplies", fn := fun _ => fun
  | [d1, d2, d3] => { results := [.lit (.bool false)], args := [d1, d2, d3] }
  | _ => none }
def AgreeAppliesWrongFalsely : Prop := agreeAppliesRow.holds Tryz.pinned (OpenSpec.ofChange agreeAppliesWrong)

/-- 'quadriviumlaw16.AgreeBooks': WHATEVER THE INPUT: true; the input reads as it did. -/
def agreeBooksSpec : ChangeSpec := { name := "agreeBooks", fn := fun _ => fun
  | [d1, d2, d3] => { results := [.lit (.bool true)], args := [d1, d2, d3] }
  | _ => none }
def agreeBooksRow : OpenClaim := { program := "ytplfjlcnffcenaagreat", sum := "40c221f7f776fcfbe1c5e6bb23f7223b9fab2ee023bebadbaf129f3c7ef64c90", func := "quadrivium/quadriviumlaw16.AgreeBooks", spec := "agreeBooks", inPlace := ["maps.clone", "slices.overlaps[quadrivium/api.Agreement]"], unfollowed := true, recurses := true, apart := false }
def AgreeBooksSaid : Prop := agreeBooksRow.holds Tryz.pinned (OpenSpec.ofChange agreeBooksSpec)

/-- ITS FALSE NEIGHBOUR: 'it returns false'. Refute it at one input. -/
def agreeBooksWrong : ChangeSpec := { name := "agreeBooks", fn := fun _ => fun
  | [d1, d2, d3] => { results := [.lit (.bool false)], args := [d1, d2, d3] }
  | _ => none }
def AgreeBooksWrongFalsely : Prop := agreeBooksRow.holds Tryz.pinned (OpenSpec.ofChange agreeBooksWrong)

/- THE SECOND FORM. 'bulk': how many values and letters a reading holds, each counted each time it is reached (what is shared counts as often as it is met; a slice's spare places count too). A statement '..UptoSaid' is the law's where the arguments, and the package variables that the reading takes, are together of bulk at most 1048576: NARROWER than '..Said'. Prove '..Said' where nothing that the law and all that it calls make is longer than what came in: it says more and counts as full. Else prove '..UptoSaid'. A law counts once. -/
mutual
def uptoBulk {H : Type} : DataW H → Nat
  | .lit (.string bytes) => bytes.length + 1
  | .lit _ => 1
  | .nil => 1
  | .ptr d => uptoBulk d + 1
  | .slice elems spare => uptoBulkAll elems + uptoBulkAll spare + 1
  | .agg parts => uptoBulkAll parts + 1
  | .iface _ d => uptoBulk d + 1
  | .map entries => uptoBulkEntries entries + 1
  | .held _ => 1
def uptoBulkAll {H : Type} : List (DataW H) → Nat
  | [] => 0
  | d :: r => uptoBulk d + uptoBulkAll r
def uptoBulkEntries {H : Type} : List (Lit × DataW H) → Nat
  | [] => 0
  | x :: r => uptoBulkEntry x + uptoBulkEntries r
def uptoBulkEntry {H : Type} : Lit × DataW H → Nat
  | (.string bytes, d) => bytes.length + uptoBulk d + 1
  | (_, d) => uptoBulk d + 1
 end
def uptoSmall : (H : Type) → List (DataW H) → Bool := fun _ ds => decide (uptoBulkAll ds ≤ 1048576)
def OpenSpec.upto (s : _root_.Go.ChangeSpec) : _root_.Go.OpenSpec := { _root_.Go.OpenSpec.ofChange s with cond := some uptoSmall }

/-- 'quadriviumlaw16.AgreeChecks', WHERE WHAT IT READS IS OF BULK AT MOST 1048576: true; the input reads as it did. -/
def agreeChecksUptoRow : OpenClaim := { program := "ytplfjlcnffcenaagreat", sum := "40c221f7f776fcfbe1c5e6bb23f7223b9fab2ee023bebadbaf129f3c7ef64c90", func := "quadrivium/quadriviumlaw16.AgreeChecks", spec := "agreeChecks", inPlace := ["maps.clone"], unfollowed := true, recurses := true, apart := false, narrowed := true }
def AgreeChecksUptoSaid : Prop := agreeChecksUptoRow.holds Tryz.pinned (OpenSpec.upto agreeChecksSpec)

/-- 'quadriviumlaw16.AgreeApplies', WHERE WHAT IT READS IS OF BULK AT MOST 1048576: true; the input reads as it did. -/
def agreeAppliesUptoRow : OpenClaim := { program := "ytplfjlcnffcenaagreat", sum := "40c221f7f776fcfbe1c5e6bb23f7223b9fab2ee023bebadbaf129f3c7ef64c90", func := "quadrivium/quadriviumlaw16.AgreeApplies", spec := "agreeApplies", inPlace := ["maps.clone"], unfollowed := true, recurses := true, apart := false, narrowed := true }
def AgreeAppliesUptoSaid : Prop := agreeAppliesUptoRow.holds Tryz.pinned (OpenSpec.upto agreeAppliesSpec)

/-- 'quadriviumlaw16.AgreeBooks', WHERE WHAT IT READS IS OF BULK AT MOST 1048576: true; the input reads as it did. -/
def agreeBooksUptoRow : OpenClaim := { program := "ytplfjlcnffcenaagreat", sum := "40c221f7f776fcfbe1c5e6bb23f7223b9fab2ee023bebadbaf129f3c7ef64c90", func := "quadrivium/quadriviumlaw16.AgreeBooks", spec := "agreeBooks", inPlace := ["maps.clone", "slices.overlaps[quadrivium/api.Agreement]"], unfollowed := true, recurses := true, apart := false, narrowed := true }
def AgreeBooksUptoSaid : Prop := agreeBooksUptoRow.holds Tryz.pinned (OpenSpec.upto agreeBooksSpec)

end Rows
end Go.Proofs.YtplfjlcnffcenaaGreat
