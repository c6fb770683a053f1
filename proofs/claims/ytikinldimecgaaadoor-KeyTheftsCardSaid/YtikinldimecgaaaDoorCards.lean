/-
  DERIVED. GIVEN WITH THE SEED: THE CARDS: each row of YtikinldimecgaaaDoorRows.lean that lists a variable, with what it lists TIED to the program's text (the seventh form; the later family's looks); each row that meets fmt, with fmt's text TOLD by the authors' own Lean function (tested against real Go, not proved from fmt's source: count such statements apart). THE CARD IS WHAT COUNTS. Prove the row's statement (the work); the ties are given (YtikinldimecgaaaDoorTie.lean); close each card by the builder's one call (the guide's Derived/Test/ToyasCard.lean, 'card_holds'). Laid BY PROGRAM, IN A SANDBOX (cutbox-door.mjs). By AI agents, Wed Nov 11 2026. No macro, syntax, notation, axiom, sorry.
-/
import Derived.Test.YtikinldimecgaaaDoorRows
import GoSem.ClaimSeven
namespace Go.Proofs.YtikinldimecgaaaDoor
namespace Rows

/-- THE TIED CARD OF 'quadriviumlaw06.KeyRings'. -/
def keyRingsCard : Claim7 := { stood := { row := keyRingsRow, standIns := [], harness := (true, "fdb6ddd1a28ee1f9315bb5491ed7fd3528bf8fe4af85de43f57535e75a70cdce"), looks := false }, kinds := [], alts := [], laidByText := true, laidKinds := [.data, .data, .data], laidTests := true, laidLooks := .later }
def KeyRingsCardSaid : Prop := Claim7.holds Tryd.pinned (.plain (OpenSpec.ofChange keyRingsSpec)) keyRingsCard

/-- THE TIED CARD OF 'quadriviumlaw06.KeyValids'. -/
def keyValidsCard : Claim7 := { stood := { row := keyValidsRow, standIns := [], harness := (true, "fdb6ddd1a28ee1f9315bb5491ed7fd3528bf8fe4af85de43f57535e75a70cdce"), looks := false }, kinds := [], alts := [], laidByText := true, laidKinds := [.data, .data, .data], laidTests := true, laidLooks := .later }
def KeyValidsCardSaid : Prop := Claim7.holds Tryd.pinned (.plain (OpenSpec.ofChange keyValidsSpec)) keyValidsCard

/-- THE TIED CARD OF 'quadriviumlaw06.KeyTrusts'. -/
def keyTrustsCard : Claim7 := { stood := { row := keyTrustsRow, standIns := [], harness := (true, "fdb6ddd1a28ee1f9315bb5491ed7fd3528bf8fe4af85de43f57535e75a70cdce"), looks := false }, kinds := [], alts := [], laidByText := true, laidKinds := [.data, .data, .data], laidTests := true, laidLooks := .later }
def KeyTrustsCardSaid : Prop := Claim7.holds Tryd.pinned (.plain (OpenSpec.ofChange keyTrustsSpec)) keyTrustsCard

/-- THE TIED CARD OF 'quadriviumlaw06.KeyOthers'. -/
def keyOthersCard : Claim7 := { stood := { row := keyOthersRow, standIns := [], harness := (true, "fdb6ddd1a28ee1f9315bb5491ed7fd3528bf8fe4af85de43f57535e75a70cdce"), looks := false }, kinds := [], alts := [], laidByText := true, laidKinds := [.data, .data, .data], laidTests := true, laidLooks := .later }
def KeyOthersCardSaid : Prop := Claim7.holds Tryd.pinned (.plain (OpenSpec.ofChange keyOthersSpec)) keyOthersCard

/-- THE TIED CARD OF 'quadriviumlaw06.KeyThefts'. -/
def keyTheftsCard : Claim7 := { stood := { row := keyTheftsRow, standIns := [], harness := (true, "fdb6ddd1a28ee1f9315bb5491ed7fd3528bf8fe4af85de43f57535e75a70cdce"), looks := false }, kinds := [], alts := [], laidByText := true, laidKinds := [.data, .data, .data], laidTests := true, laidLooks := .later }
def KeyTheftsCardSaid : Prop := Claim7.holds Tryd.pinned (.plain (OpenSpec.ofChange keyTheftsSpec)) keyTheftsCard

/-- THE TIED CARD OF 'quadriviumlaw06.KeyCurrent'. -/
def keyCurrentCard : Claim7 := { stood := { row := keyCurrentRow, standIns := [], harness := (true, "fdb6ddd1a28ee1f9315bb5491ed7fd3528bf8fe4af85de43f57535e75a70cdce"), looks := false }, kinds := [], alts := [], laidByText := true, laidKinds := [.data, .data, .data], laidTests := true, laidLooks := .later }
def KeyCurrentCardSaid : Prop := Claim7.holds Tryd.pinned (.plain (OpenSpec.ofChange keyCurrentSpec)) keyCurrentCard

/-- THE SECOND FORM's CARD OF 'quadriviumlaw06.KeyRings'. -/
def keyRingsUptoCard : Claim7 := { stood := { row := keyRingsUptoRow, standIns := [], harness := (true, "fdb6ddd1a28ee1f9315bb5491ed7fd3528bf8fe4af85de43f57535e75a70cdce"), looks := false }, kinds := [], alts := [], laidByText := true, laidKinds := [.data, .data, .data], laidTests := true, laidLooks := .later }
def KeyRingsUptoCardSaid : Prop := Claim7.holds Tryd.pinned (.plain (OpenSpec.upto keyRingsSpec)) keyRingsUptoCard

/-- THE SECOND FORM's CARD OF 'quadriviumlaw06.KeyValids'. -/
def keyValidsUptoCard : Claim7 := { stood := { row := keyValidsUptoRow, standIns := [], harness := (true, "fdb6ddd1a28ee1f9315bb5491ed7fd3528bf8fe4af85de43f57535e75a70cdce"), looks := false }, kinds := [], alts := [], laidByText := true, laidKinds := [.data, .data, .data], laidTests := true, laidLooks := .later }
def KeyValidsUptoCardSaid : Prop := Claim7.holds Tryd.pinned (.plain (OpenSpec.upto keyValidsSpec)) keyValidsUptoCard

/-- THE SECOND FORM's CARD OF 'quadriviumlaw06.KeyTrusts'. -/
def keyTrustsUptoCard : Claim7 := { stood := { row := keyTrustsUptoRow, standIns := [], harness := (true, "fdb6ddd1a28ee1f9315bb5491ed7fd3528bf8fe4af85de43f57535e75a70cdce"), looks := false }, kinds := [], alts := [], laidByText := true, laidKinds := [.data, .data, .data], laidTests := true, laidLooks := .later }
def KeyTrustsUptoCardSaid : Prop := Claim7.holds Tryd.pinned (.plain (OpenSpec.upto keyTrustsSpec)) keyTrustsUptoCard

/-- THE SECOND FORM's CARD OF 'quadriviumlaw06.KeyOthers'. -/
def keyOthersUptoCard : Claim7 := { stood := { row := keyOthersUptoRow, standIns := [], harness := (true, "fdb6ddd1a28ee1f9315bb5491ed7fd3528bf8fe4af85de43f57535e75a70cdce"), looks := false }, kinds := [], alts := [], laidByText := true, laidKinds := [.data, .data, .data], laidTests := true, laidLooks := .later }
def KeyOthersUptoCardSaid : Prop := Claim7.holds Tryd.pinned (.plain (OpenSpec.upto keyOthersSpec)) keyOthersUptoCard

/-- THE SECOND FORM's CARD OF 'quadriviumlaw06.KeyThefts'. -/
def keyTheftsUptoCard : Claim7 := { stood := { row := keyTheftsUptoRow, standIns := [], harness := (true, "fdb6ddd1a28ee1f9315bb5491ed7fd3528bf8fe4af85de43f57535e75a70cdce"), looks := false }, kinds := [], alts := [], laidByText := true, laidKinds := [.data, .data, .data], laidTests := true, laidLooks := .later }
def KeyTheftsUptoCardSaid : Prop := Claim7.holds Tryd.pinned (.plain (OpenSpec.upto keyTheftsSpec)) keyTheftsUptoCard

/-- THE SECOND FORM's CARD OF 'quadriviumlaw06.KeyCurrent'. -/
def keyCurrentUptoCard : Claim7 := { stood := { row := keyCurrentUptoRow, standIns := [], harness := (true, "fdb6ddd1a28ee1f9315bb5491ed7fd3528bf8fe4af85de43f57535e75a70cdce"), looks := false }, kinds := [], alts := [], laidByText := true, laidKinds := [.data, .data, .data], laidTests := true, laidLooks := .later }
def KeyCurrentUptoCardSaid : Prop := Claim7.holds Tryd.pinned (.plain (OpenSpec.upto keyCurrentSpec)) keyCurrentUptoCard
end Rows
end Go.Proofs.YtikinldimecgaaaDoor
