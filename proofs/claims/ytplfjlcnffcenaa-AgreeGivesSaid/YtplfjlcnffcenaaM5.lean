/- Part 5 of a proof. -/
import Derived.Test.YtplfjlcnffcenaaM4
set_option linter.unusedVariables false
set_option linter.unusedSimpArgs false
set_option linter.defProp false
set_option linter.unusedSectionVars false
set_option linter.unnecessarySimpa false
namespace Go.Proofs.Ytplfjlcnffcenaa.Vc
open Go.RowKit
theorem qjt {f : Nat} {args : List R} {n : Nat} {x : R × List (Nat × B)} (h : kf Try.prog T pol bdt qn9 n (.fn f) 0 args [] = some x) : ev f 0 args [] = some x := qgD qgT qf5 n _ _ _ _ _ h
theorem q9S : ev 5 0 [] [] = some (.c (.d (.bool true)), []) := qjt (n := 40) (by kernel_rfl)
end Go.Proofs.Ytplfjlcnffcenaa.Vc
