/- Part 5 of a proof. -/
import Derived.Test.YtofbcijbpfjliaaGreatD4
set_option linter.unusedVariables false
set_option linter.unusedSimpArgs false
set_option linter.defProp false
set_option linter.unusedSectionVars false
set_option linter.unnecessarySimpa false
namespace Go.Proofs.YtofbcijbpfjliaaGreat.Vc
noncomputable section
open Go.RowKit
theorem qDs {f:Nat} {args:List R} {n:Nat} {x:R×List (Nat×B)} (h:kf Tryz.prog T pol bdt qLe n (.fn f) 0 args []=some x):ev f 0 args []=some x:=qyl qBE quO n _ _ _ _ _ h
theorem qoz:ev 4 0 [] []=some (.c (.d (.bool true)),[]):=qDs (n:=40) (by kernel_rfl)
end
end Go.Proofs.YtofbcijbpfjliaaGreat.Vc
