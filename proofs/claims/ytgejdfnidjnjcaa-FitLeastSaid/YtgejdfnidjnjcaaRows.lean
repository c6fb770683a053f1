/-
  No cell of these rows narrows 'for every input' (looked for: loops, veiled, ifaces, maps, wideKeys, modest, calm, conditions, laid).
  DERIVED. THE GIVEN ROWS OF THIS SEAT. 3 by the template 'for every input the law returns true; each argument reads behind the call as it read before'; 0 by the template 'total and deterministic' (their statements: YtgejdfnidjnjcaaTotals.lean).
  GIVEN WITH THE SEED: the statements are not yours to turn. If you find one false, say at which input.
  Laid BY PROGRAM, IN A SANDBOX (cutbox-rows.mjs): the forced cells as the released guide's own fill.sh prints them over the translation 45085a2a34b0bb4e… (all of the seat's roots in one cut). By AI agents, Wed Nov 11 2026. No macro, syntax, notation, axiom, sorry.
-/
import Derived.Test.YtgejdfnidjnjcaaChecked
import GoSem.Claim
import GoSem.ClaimJoined
import GoSem.ClaimMapViews
import Derived.JoinedTies
import Derived.KernelRfl
namespace Go.Proofs.Ytgejdfnidjnjcaa
/- THE CELL 'sum', in the pinned program and in every row, IS THE sha256 OF THE DUMP (.gsa) THAT YtgejdfnidjnjcaaProg.lean LOADS. Nothing in Lean hashes anything: it is a label: what it is worth is what the hold of that sum in a sandbox is worth. -/
noncomputable def Try.pinned : Pinned := { name := "ytgejdfnidjnjcaa", sum := "45085a2a34b0bb4e2f6fcdec25c31d3799d295d4191eb293eb6bea8ecdff5090", checked := Try.checked }
namespace Rows
def none {H : Type} : Left H := { results := [], args := [] }

/-- 'quadriviumlaw13.FitBoth': WHATEVER THE INPUT: true; the input reads as it did. -/
def fitBothSpec : ChangeSpec := { name := "fitBoth", fn := fun _ => fun
  | [d] => { results := [.lit (.bool true)], args := [d] }
  | _ => none }
def fitBothRow : OpenClaim := { program := "ytgejdfnidjnjcaa", sum := "45085a2a34b0bb4e2f6fcdec25c31d3799d295d4191eb293eb6bea8ecdff5090", func := "quadrivium/quadriviumlaw13.FitBoth", spec := "fitBoth", unfollowed := true, recurses := true, apart := false }
def FitBothSaid : Prop := fitBothRow.holds Try.pinned (OpenSpec.ofChange fitBothSpec)

/-- ITS FALSE NEIGHBOUR: 'it returns false'. Refute it at one input. -/
def fitBothWrong : ChangeSpec := { name := "fitBoth", fn := fun _ => fun
  | [d] => { results := [.lit (.bool false)], args := [d] }
  | _ => none }
def FitBothWrongFalsely : Prop := fitBothRow.holds Try.pinned (OpenSpec.ofChange fitBothWrong)

/-- 'quadriviumlaw13.FitLeast': WHATEVER THE INPUT: true; the input reads as it did. -/
def fitLeastSpec : ChangeSpec := { name := "fitLeast", fn := fun _ => fun
  | [d] => { results := [.lit (.bool true)], args := [d] }
  | _ => none }
def fitLeastRow : OpenClaim := { program := "ytgejdfnidjnjcaa", sum := "45085a2a34b0bb4e2f6fcdec25c31d3799d295d4191eb293eb6bea8ecdff5090", func := "quadrivium/quadriviumlaw13.FitLeast", spec := "fitLeast", unfollowed := true, recurses := true, apart := false }
def FitLeastSaid : Prop := fitLeastRow.holds Try.pinned (OpenSpec.ofChange fitLeastSpec)

/-- ITS FALSE NEIGHBOUR: 'it returns false'. Refute it at one input. -/
def fitLeastWrong : ChangeSpec := { name := "fitLeast", fn := fun _ => fun
  | [d] => { results := [.lit (.bool false)], args := [d] }
  | _ => none }
def FitLeastWrongFalsely : Prop := fitLeastRow.holds Try.pinned (OpenSpec.ofChange fitLeastWrong)

/-- 'quadriviumlaw13.FitOrder': WHATEVER THE INPUT: true; the input reads as it did. -/
def fitOrderSpec : ChangeSpec := { name := "fitOrder", fn := fun _ => fun
  | [d] => { results := [.lit (.bool true)], args := [d] }
  | _ => none }
def fitOrderRow : OpenClaim := { program := "ytgejdfnidjnjcaa", sum := "45085a2a34b0bb4e2f6fcdec25c31d3799d295d4191eb293eb6bea8ecdff5090", func := "quadrivium/quadriviumlaw13.FitOrder", spec := "fitOrder", unfollowed := true, recurses := true, apart := false }
def FitOrderSaid : Prop := fitOrderRow.holds Try.pinned (OpenSpec.ofChange fitOrderSpec)

/-- ITS FALSE NEIGHBOUR: 'it returns false'. Refute it at one input. -/
def fitOrderWrong : ChangeSpec := { name := "fitOrder", fn := fun _ => fun
  | [d] => { results := [.lit (.bool false)], args := [d] }
  | _ => none }
def FitOrderWrongFalsely : Prop := fitOrderRow.holds Try.pinned (OpenSpec.ofChange fitOrderWrong)

/- THE SECOND FORM. 'bulk': how many values and letters a reading holds, each counted each time it is reached (what is shared counts as often as it is met; a slice's spare places count too). A statement '..UptoSaid' is the law's where the arguments, and the package variables that the reading takes, are together of bulk at most 1048576: NARROWER than '..Said'. Prove '..Said' where nothing that the law and all that it calls make is longer than what came in: it says more and counts as full. Else prove '..UptoSaid'. A law counts once. -/
mutual
def uptoBulk {H : Type} : DataW H → Nat
  | .lit (.string bytes) => bytes.length + 1
  | .lit _ => 1
  | .nil => 1
  | .ptr d => uptoBulk d + 1
  | .slice elems spare => uptoBulkAll elems + uptoBulkAll spare + 1
  | .agg parts => uptoBulkAll parts + 1
  | .iface _ d => uptoBulk d + 1
  | .map entries => uptoBulkEntries entries + 1
  | .held _ => 1
def uptoBulkAll {H : Type} : List (DataW H) → Nat
  | [] => 0
  | d :: r => uptoBulk d + uptoBulkAll r
def uptoBulkEntries {H : Type} : List (Lit × DataW H) → Nat
  | [] => 0
  | x :: r => uptoBulkEntry x + uptoBulkEntries r
def uptoBulkEntry {H : Type} : Lit × DataW H → Nat
  | (.string bytes, d) => bytes.length + uptoBulk d + 1
  | (_, d) => uptoBulk d + 1
 end
def uptoSmall : (H : Type) → List (DataW H) → Bool := fun _ ds => decide (uptoBulkAll ds ≤ 1048576)
def OpenSpec.upto (s : _root_.Go.ChangeSpec) : _root_.Go.OpenSpec := { _root_.Go.OpenSpec.ofChange s with cond := some uptoSmall }

/-- 'quadriviumlaw13.FitBoth', WHERE WHAT IT READS IS OF BULK AT MOST 1048576: true; the input reads as it did. -/
def fitBothUptoRow : OpenClaim := { program := "ytgejdfnidjnjcaa", sum := "45085a2a34b0bb4e2f6fcdec25c31d3799d295d4191eb293eb6bea8ecdff5090", func := "quadrivium/quadriviumlaw13.FitBoth", spec := "fitBoth", unfollowed := true, recurses := true, apart := false, narrowed := true }
def FitBothUptoSaid : Prop := fitBothUptoRow.holds Try.pinned (OpenSpec.upto fitBothSpec)

/-- 'quadriviumlaw13.FitLeast', WHERE WHAT IT READS IS OF BULK AT MOST 1048576: true; the input reads as it did. -/
def fitLeastUptoRow : OpenClaim := { program := "ytgejdfnidjnjcaa", sum := "45085a2a34b0bb4e2f6fcdec25c31d3799d295d4191eb293eb6bea8ecdff5090", func := "quadrivium/quadriviumlaw13.FitLeast", spec := "fitLeast", unfollowed := true, recurses := true, apart := false, narrowed := true }
def FitLeastUptoSaid : Prop := fitLeastUptoRow.holds Try.pinned (OpenSpec.upto fitLeastSpec)

/-- 'quadriviumlaw13.FitOrder', WHERE WHAT IT READS IS OF BULK AT MOST 1048576: true; the input reads as it did. -/
def fitOrderUptoRow : OpenClaim := { program := "ytgejdfnidjnjcaa", sum := "45085a2a34b0bb4e2f6fcdec25c31d3799d295d4191eb293eb6bea8ecdff5090", func := "quadrivium/quadriviumlaw13.FitOrder", spec := "fitOrder", unfollowed := true, recurses := true, apart := false, narrowed := true }
def FitOrderUptoSaid : Prop := fitOrderUptoRow.holds Try.pinned (OpenSpec.upto fitOrderSpec)

end Rows
end Go.Proofs.Ytgejdfnidjnjcaa
