/- Part 5 of a proof. -/
import Derived.Test.YtbcmefmnbpdfdaaM4
set_option linter.unusedVariables false
set_option linter.unusedSimpArgs false
set_option linter.defProp false
set_option linter.unusedSectionVars false
set_option linter.unnecessarySimpa false
namespace Go.Proofs.Ytbcmefmnbpdfdaa.Vc
open Go.RowKit
theorem qdU {f : Nat} {args : List R} {n : Nat} {x : R × List (Nat × B)} (h : kf Try.prog T pol bdt qhO n (.fn f) 0 args [] = some x) : ev f 0 args [] = some x := qdo qcC qb0 n _ _ _ _ _ h
theorem q79 : ev 5 0 [] [] = some (.c (.d (.bool true)), []) := qdU (n := 40) (by kernel_rfl)
end Go.Proofs.Ytbcmefmnbpdfdaa.Vc
