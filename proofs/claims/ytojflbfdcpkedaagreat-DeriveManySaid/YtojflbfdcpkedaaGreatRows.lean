/-
  No cell of these rows narrows 'for every input' (looked for: loops, veiled, ifaces, maps, wideKeys, modest, calm, conditions, laid).
  DERIVED. THE GIVEN ROWS OF THIS SEAT. 7 by the template 'for every input the law returns true; each argument reads behind the call as it read before'; 0 by the template 'total and deterministic' (their statements: YtojflbfdcpkedaaGreatTotals.lean).
  GIVEN WITH THE SEED: the statements are not yours to turn. If you find one false, say at which input.
  Laid BY PROGRAM, IN A SANDBOX (cutbox-rows.mjs): the forced cells as the released guide's own fill.sh prints them over the translation cc80b4552902f30d… (all of the seat's roots in one cut). By AI agents, Wed Nov 11 2026. No macro, syntax, notation, axiom, sorry.
-/
import Derived.Test.YtojflbfdcpkedaaGreatChecked
import GoSem.Claim
import GoSem.ClaimJoined
import GoSem.ClaimMapViews
import Derived.JoinedTies
import Derived.KernelRfl
namespace Go.Proofs.YtojflbfdcpkedaaGreat
/- THE CELL 'sum', in the pinned program and in every row, IS THE sha256 OF THE DUMP (.gsa) THAT YtojflbfdcpkedaaGreatProg.lean LOADS. Nothing in Lean hashes anything: it is a label: what it is worth is what the hold of that sum in a sandbox is worth. -/
noncomputable def Tryz.pinned : Pinned := { name := "ytojflbfdcpkedaagreat", sum := "cc80b4552902f30d0ca4a13232fe966e907db1db4ecb93530d334395115fbba3", checked := Tryz.checked }
namespace Rows
def none {H : Type} : Left H := { results := [], args := [] }

/-- 'quadriviumlaw14.DeriveSame': WHATEVER THE INPUT: true; the input reads as it did. -/
def deriveSameSpec : ChangeSpec := { name := "deriveSame", fn := fun _ => fun
  | [d1, d2] => { results := [.lit (.bool true)], args := [d1, d2] }
  | _ => none }
def deriveSameRow : OpenClaim := { program := "ytojflbfdcpkedaagreat", sum := "cc80b4552902f30d0ca4a13232fe966e907db1db4ecb93530d334395115fbba3", func := "quadrivium/quadriviumlaw14.DeriveSame", spec := "deriveSame", unfollowed := true, recurses := true, apart := false }
def DeriveSameSaid : Prop := deriveSameRow.holds Tryz.pinned (OpenSpec.ofChange deriveSameSpec)

/-- ITS FALSE NEIGHBOUR: 'it returns false'. Refute it at one input. -/
def deriveSameWrong : ChangeSpec := { name := "deriveSame", fn := fun _ => fun
  | [d1, d2] => { results := [.lit (.bool false)], args := [d1, d2] }
  | _ => none }
def DeriveSameWrongFalsely : Prop := deriveSameRow.holds Tryz.pinned (OpenSpec.ofChange deriveSameWrong)

/-- 'quadriviumlaw14.DeriveChecks': WHATEVER THE INPUT: true; the input reads as it did. -/
def deriveChecksSpec : ChangeSpec := { name := "deriveChecks", fn := fun _ => fun
  | [d1, d2, d3] => { results := [.lit (.bool true)], args := [d1, d2, d3] }
  | _ => none }
def deriveChecksRow : OpenClaim := { program := "ytojflbfdcpkedaagreat", sum := "cc80b4552902f30d0ca4a13232fe966e907db1db4ecb93530d334395115fbba3", func := "quadrivium/quadriviumlaw14.DeriveChecks", spec := "deriveChecks", unfollowed := true, recurses := true, apart := false }
def DeriveChecksSaid : Prop := deriveChecksRow.holds Tryz.pinned (OpenSpec.ofChange deriveChecksSpec)

/-- ITS FALSE NEIGHBOUR: 'it returns false'. Refute it at one input. -/
def deriveChecksWrong : ChangeSpec := { name := "deriveChecks", fn := fun _ => fun
  | [d1, d2, d3] => { results := [.lit (.bool false)], args := [d1, d2, d3] }
  | _ => none }
def DeriveChecksWrongFalsely : Prop := deriveChecksRow.holds Tryz.pinned (OpenSpec.ofChange deriveChecksWrong)

/-- 'quadriviumlaw14.DeriveRight': WHATEVER THE INPUT: true; the input reads as it did. -/
def deriveRightSpec : ChangeSpec := { name := "deriveRight", fn := fun _ => fun
  | [d1, d2] => { results := [.lit (.bool true)], args := [d1, d2] }
  | _ => none }
def deriveRightRow : OpenClaim := { program := "ytojflbfdcpkedaagreat", sum := "cc80b4552902f30d0ca4a13232fe966e907db1db4ecb93530d334395115fbba3", func := "quadrivium/quadriviumlaw14.DeriveRight", spec := "deriveRight", unfollowed := true, recurses := true, apart := false }
def DeriveRightSaid : Prop := deriveRightRow.holds Tryz.pinned (OpenSpec.ofChange deriveRightSpec)

/-- ITS FALSE NEIGHBOUR: 'it returns false'. Refute it at one input. -/
def deriveRightWrong : ChangeSpec := { name := "deriveRight", fn := fun _ => fun
  | [d1, d2] => { results := [.lit (.bool false)], args := [d1, d2] }
  | _ => none }
def DeriveRightWrongFalsely : Prop := deriveRightRow.holds Tryz.pinned (OpenSpec.ofChange deriveRightWrong)

/-- 'quadriviumlaw14.DeriveOnce': WHATEVER THE INPUT: true; the input reads as it did. -/
def deriveOnceSpec : ChangeSpec := { name := "deriveOnce", fn := fun _ => fun
  | [d] => { results := [.lit (.bool true)], args := [d] }
  | _ => none }
def deriveOnceRow : OpenClaim := { program := "ytojflbfdcpkedaagreat", sum := "cc80b4552902f30d0ca4a13232fe966e907db1db4ecb93530d334395115fbba3", func := "quadrivium/quadriviumlaw14.DeriveOnce", spec := "deriveOnce", unfollowed := true, recurses := true, apart := false }
def DeriveOnceSaid : Prop := deriveOnceRow.holds Tryz.pinned (OpenSpec.ofChange deriveOnceSpec)

/-- ITS FALSE NEIGHBOUR: 'it returns false'. Refute it at one input. -/
def deriveOnceWrong : ChangeSpec := { name := "deriveOnce", fn := fun _ => fun
  | [d] => { results := [.lit (.bool false)], args := [d] }
  | _ => none }
def DeriveOnceWrongFalsely : Prop := deriveOnceRow.holds Tryz.pinned (OpenSpec.ofChange deriveOnceWrong)

/-- 'quadriviumlaw14.DeriveMore': WHATEVER THE INPUT: true; the input reads as it did. -/
def deriveMoreSpec : ChangeSpec := { name := "deriveMore", fn := fun _ => fun
  | [d1, d2] => { results := [.lit (.bool true)], args := [d1, d2] }
  | _ => none }
def deriveMoreRow : OpenClaim := { program := "ytojflbfdcpkedaagreat", sum := "cc80b4552902f30d0ca4a13232fe966e907db1db4ecb93530d334395115fbba3", func := "quadrivium/quadriviumlaw14.DeriveMore", spec := "deriveMore", unfollowed := true, recurses := true, apart := false }
def DeriveMoreSaid : Prop := deriveMoreRow.holds Tryz.pinned (OpenSpec.ofChange deriveMoreSpec)

/-- ITS FALSE NEIGHBOUR: 'it returns false'. Refute it at one input. -/
def deriveMoreWrong : ChangeSpec := { name := "deriveMore", fn := fun _ => fun
  | [d1, d2] => { results := [.lit (.bool false)], args := [d1, d2] }
  | _ => none }
def DeriveMoreWrongFalsely : Prop := deriveMoreRow.holds Tryz.pinned (OpenSpec.ofChange deriveMoreWrong)

/-- 'quadriviumlaw14.DeriveDays': WHATEVER THE INPUT: true; the input reads as it did. -/
def deriveDaysSpec : ChangeSpec := { name := "deriveDays", fn := fun _ => fun
  | [d1, d2] => { results := [.lit (.bool true)], args := [d1, d2] }
  | _ => none }
def deriveDaysRow : OpenClaim := { program := "ytojflbfdcpkedaagreat", sum := "cc80b4552902f30d0ca4a13232fe966e907db1db4ecb93530d334395115fbba3", func := "quadrivium/quadriviumlaw14.DeriveDays", spec := "deriveDays", unfollowed := true, recurses := true, apart := false }
def DeriveDaysSaid : Prop := deriveDaysRow.holds Tryz.pinned (OpenSpec.ofChange deriveDaysSpec)

/-- ITS FALSE NEIGHBOUR: 'it returns false'. Refute it at one input. -/
def deriveDaysWrong : ChangeSpec := { name := "deriveDays", fn := fun _ => fun
  | [d1, d2] => { results := [.lit (.bool false)], args := [d1, d2] }
  | _ => none }
def DeriveDaysWrongFalsely : Prop := deriveDaysRow.holds Tryz.pinned (OpenSpec.ofChange deriveDaysWrong)

/-- 'quadriviumlaw14.DeriveMany': WHATEVER THE INPUT: true; the input reads as it did. -/
def deriveManySpec : ChangeSpec := { name := "deriveMany", fn := fun _ => fun
  | [d1, d2, d3] => { results := [.lit (.bool true)], args := [d1, d2, d3] }
  | _ => none }
def deriveManyRow : OpenClaim := { program := "ytojflbfdcpkedaagreat", sum := "cc80b4552902f30d0ca4a13232fe966e907db1db4ecb93530d334395115fbba3", func := "quadrivium/quadriviumlaw14.DeriveMany", spec := "deriveMany", unfollowed := true, recurses := true, apart := false }
def DeriveManySaid : Prop := deriveManyRow.holds Tryz.pinned (OpenSpec.ofChange deriveManySpec)

/-- ITS FALSE NEIGHBOUR: 'it returns false'. Refute it at one input. -/
def deriveManyWrong : ChangeSpec := { name := "deriveMany", fn := fun _ => fun
  | [d1, d2, d3] => { results := [.lit (.bool false)], args := [d1, d2, d3] }
  | _ => none }
def DeriveManyWrongFalsely : Prop := deriveManyRow.holds Tryz.pinned (OpenSpec.ofChange deriveManyWrong)

/- THE SECOND FORM. 'bulk': how many values and letters a reading holds, each counted each time it is reached (what is shared counts as often as it is met; a slice's spare places count too). A statement '..UptoSaid' is the law's where the arguments, and the package variables that the reading takes, are together of bulk at most 1048576: NARROWER than '..Said'. Prove '..Said' where nothing that the law and all that it calls make is longer than what came in: it says more and counts as full. Else prove '..UptoSaid'. A law counts once. -/
mutual
def uptoBulk {H : Type} : DataW H → Nat
  | .lit (.string bytes) => bytes.length + 1
  | .lit _ => 1
  | .nil => 1
  | .ptr d => uptoBulk d + 1
  | .slice elems spare => uptoBulkAll elems + uptoBulkAll spare + 1
  | .agg parts => uptoBulkAll parts + 1
  | .iface _ d => uptoBulk d + 1
  | .map entries => uptoBulkEntries entries + 1
  | .held _ => 1
def uptoBulkAll {H : Type} : List (DataW H) → Nat
  | [] => 0
  | d :: r => uptoBulk d + uptoBulkAll r
def uptoBulkEntries {H : Type} : List (Lit × DataW H) → Nat
  | [] => 0
  | x :: r => uptoBulkEntry x + uptoBulkEntries r
def uptoBulkEntry {H : Type} : Lit × DataW H → Nat
  | (.string bytes, d) => bytes.length + uptoBulk d + 1
  | (_, d) => uptoBulk d + 1
 end
def uptoSmall : (H : Type) → List (DataW H) → Bool := fun _ ds => decide (uptoBulkAll ds ≤ 1048576)
def OpenSpec.upto (s : _root_.Go.ChangeSpec) : _root_.Go.OpenSpec := { _root_.Go.OpenSpec.ofChange s with cond := some uptoSmall }

/-- 'quadriviumlaw14.DeriveSame', WHERE WHAT IT READS IS OF BULK AT MOST 1048576: true; the input reads as it did. -/
def deriveSameUptoRow : OpenClaim := { program := "ytojflbfdcpkedaagreat", sum := "cc80b4552902f30d0ca4a13232fe966e907db1db4ecb93530d334395115fbba3", func := "quadrivium/quadriviumlaw14.DeriveSame", spec := "deriveSame", unfollowed := true, recurses := true, apart := false, narrowed := true }
def DeriveSameUptoSaid : Prop := deriveSameUptoRow.holds Tryz.pinned (OpenSpec.upto deriveSameSpec)

/-- 'quadriviumlaw14.DeriveChecks', WHERE WHAT IT READS IS OF BULK AT MOST 1048576: true; the input reads as it did. -/
def deriveChecksUptoRow : OpenClaim := { program := "ytojflbfdcpkedaagreat", sum := "cc80b4552902f30d0ca4a13232fe966e907db1db4ecb93530d334395115fbba3", func := "quadrivium/quadriviumlaw14.DeriveChecks", spec := "deriveChecks", unfollowed := true, recurses := true, apart := false, narrowed := true }
def DeriveChecksUptoSaid : Prop := deriveChecksUptoRow.holds Tryz.pinned (OpenSpec.upto deriveChecksSpec)

/-- 'quadriviumlaw14.DeriveRight', WHERE WHAT IT READS IS OF BULK AT MOST 1048576: true; the input reads as it did. -/
def deriveRightUptoRow : OpenClaim := { program := "ytojflbfdcpkedaagreat", sum := "cc80b4552902f30d0ca4a13232fe966e907db1db4ecb93530d334395115fbba3", func := "quadrivium/quadriviumlaw14.DeriveRight", spec := "deriveRight", unfollowed := true, recurses := true, apart := false, narrowed := true }
def DeriveRightUptoSaid : Prop := deriveRightUptoRow.holds Tryz.pinned (OpenSpec.upto deriveRightSpec)

/-- 'quadriviumlaw14.DeriveOnce', WHERE WHAT IT READS IS OF BULK AT MOST 1048576: true; the input reads as it did. -/
def deriveOnceUptoRow : OpenClaim := { program := "ytojflbfdcpkedaagreat", sum := "cc80b4552902f30d0ca4a13232fe966e907db1db4ecb93530d334395115fbba3", func := "quadrivium/quadriviumlaw14.DeriveOnce", spec := "deriveOnce", unfollowed := true, recurses := true, apart := false, narrowed := true }
def DeriveOnceUptoSaid : Prop := deriveOnceUptoRow.holds Tryz.pinned (OpenSpec.upto deriveOnceSpec)

/-- 'quadriviumlaw14.DeriveMore', WHERE WHAT IT READS IS OF BULK AT MOST 1048576: true; the input reads as it did. -/
def deriveMoreUptoRow : OpenClaim := { program := "ytojflbfdcpkedaagreat", sum := "cc80b4552902f30d0ca4a13232fe966e907db1db4ecb93530d334395115fbba3", func := "quadrivium/quadriviumlaw14.DeriveMore", spec := "deriveMore", unfollowed := true, recurses := true, apart := false, narrowed := true }
def DeriveMoreUptoSaid : Prop := deriveMoreUptoRow.holds Tryz.pinned (OpenSpec.upto deriveMoreSpec)

/-- 'quadriviumlaw14.DeriveDays', WHERE WHAT IT READS IS OF BULK AT MOST 1048576: true; the input reads as it did. -/
def deriveDaysUptoRow : OpenClaim := { program := "ytojflbfdcpkedaagreat", sum := "cc80b4552902f30d0ca4a13232fe966e907db1db4ecb93530d334395115fbba3", func := "quadrivium/quadriviumlaw14.DeriveDays", spec := "deriveDays", unfollowed := true, recurses := true, apart := false, narrowed := true }
def DeriveDaysUptoSaid : Prop := deriveDaysUptoRow.holds Tryz.pinned (OpenSpec.upto deriveDaysSpec)

/-- 'quadriviumlaw14.DeriveMany', WHERE WHAT IT READS IS OF BULK AT MOST 1048576: true; the input reads as it did. -/
def deriveManyUptoRow : OpenClaim := { program := "ytojflbfdcpkedaagreat", sum := "cc80b4552902f30d0ca4a13232fe966e907db1db4ecb93530d334395115fbba3", func := "quadrivium/quadriviumlaw14.DeriveMany", spec := "deriveMany", unfollowed := true, recurses := true, apart := false, narrowed := true }
def DeriveManyUptoSaid : Prop := deriveManyUptoRow.holds Tryz.pinned (OpenSpec.upto deriveManySpec)

end Rows
end Go.Proofs.YtojflbfdcpkedaaGreat
