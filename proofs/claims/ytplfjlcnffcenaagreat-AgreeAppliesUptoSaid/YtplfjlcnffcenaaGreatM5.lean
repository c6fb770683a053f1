/- Part 5 of a proof. -/
import Derived.Test.YtplfjlcnffcenaaGreatM4
set_option linter.unusedVariables false
set_option linter.unusedSimpArgs false
set_option linter.defProp false
set_option linter.unusedSectionVars false
set_option linter.unnecessarySimpa false
namespace Go.Proofs.YtplfjlcnffcenaaGreat.Vc
open Go.RowKit
theorem qoZ {f : Nat} {args : List R} {n : Nat} {x : R × List (Nat × B)} (h : kf Tryz.prog T pol bdt qv2 n (.fn f) 0 args [] = some x) : ev f 0 args [] = some x := qpZ qqg qk6 n _ _ _ _ _ h
theorem qcw : ev 6 0 [] [] = some (.c (.d (.bool true)), []) := qoZ (n := 40) (by kernel_rfl)
end Go.Proofs.YtplfjlcnffcenaaGreat.Vc
