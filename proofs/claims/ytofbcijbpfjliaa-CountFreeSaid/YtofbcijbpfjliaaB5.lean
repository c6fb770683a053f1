/- Part 5 of a proof. -/
import Derived.Test.YtofbcijbpfjliaaB4
import Derived.Test.YtofbcijbpfjliaaRows
import Derived.ChangeSlices
import Derived.OpenShut
import Derived.Carry
import Derived.ChangeSame
import Derived.ChangeMaps5
import Derived.WideShapes
import Derived.ProofKit
import Derived.Deep.DeepHandedRow
import Derived.Lib.LaidTab
import Derived.Stop.LaidErr
set_option linter.unusedVariables false
set_option linter.unusedSimpArgs false
set_option linter.defProp false
set_option linter.unusedSectionVars false
set_option linter.unnecessarySimpa false
namespace Go.Proofs.Ytofbcijbpfjliaa.Vc
noncomputable section
open Go.RowKit
set_option maxRecDepth 20000
set_option maxHeartbeats 8000000
def qk (b0_0:qa) (b0_1:qa) (b0_2:qa) (s:qe):(List qa×Int)→Option ((List qa×Int)⊕(List qa))|(left,k)=>if 0≤k then Option.bind (zU left s k) fun(a:Bool)=>if a=Bool.true then Option.bind (qm k (w64 (k+1)) left) fun(a2:List qa)=>some (Sum.inl (a2,w64 (((a2.length:Nat):Int)-1))) else some (Sum.inl (left,w64 (k-1))) else some (Sum.inr left)
theorem qS:∀(left:List qa) (b0_0_Course_School:Int) (b0_0_Course_Code:ByteArray) (b0_0_Credits b0_0_Grade b0_0_Day:Int) (b0_0_Sources:List Int) (b0_0_Bundle:Int) (b0_0_Path:List Int) (b0_1_Course_School:Int) (b0_1_Course_Code:ByteArray) (b0_1_Credits b0_1_Grade b0_1_Day:Int) (b0_1_Sources:List Int) (b0_1_Bundle:Int) (b0_1_Path:List Int) (b0_2_Course_School:Int) (b0_2_Course_Code:ByteArray) (b0_2_Credits b0_2_Grade b0_2_Day:Int) (b0_2_Sources:List Int) (b0_2_Bundle:Int) (b0_2_Path:List Int) (s_Worst s_Best s_Pass k:Int) (ZM:Nat),ZM=left.length→XL2 evo 11 1 9 ⟨[(6,rP 1),(10,rO 2 8 ZM),(13,rI k)],[(0,B.blk 52 [dI b0_0_Course_School,dS b0_0_Course_Code,dI b0_0_Credits,dI b0_0_Grade,dI b0_0_Day,dL 1 eI b0_0_Sources,dI b0_0_Bundle,dL 1 eI b0_0_Path,dI b0_1_Course_School,dS b0_1_Course_Code,dI b0_1_Credits,dI b0_1_Grade,dI b0_1_Day,dL 1 eI b0_1_Sources,dI b0_1_Bundle,dL 1 eI b0_1_Path,dI b0_2_Course_School,dS b0_2_Course_Code,dI b0_2_Credits,dI b0_2_Grade,dI b0_2_Day,dL 1 eI b0_2_Sources,dI b0_2_Bundle,dL 1 eI b0_2_Path]),(1,B.blk 30 [dI s_Worst,dI s_Best,dI s_Pass]),(2,bR 52 8 qc left)],3,53⟩=(qG (qk (qa.mk (qb.mk b0_0_Course_School b0_0_Course_Code) b0_0_Credits b0_0_Grade b0_0_Day b0_0_Sources b0_0_Bundle b0_0_Path) (qa.mk (qb.mk b0_1_Course_School b0_1_Course_Code) b0_1_Credits b0_1_Grade b0_1_Day b0_1_Sources b0_1_Bundle b0_1_Path) (qa.mk (qb.mk b0_2_Course_School b0_2_Course_Code) b0_2_Credits b0_2_Grade b0_2_Day b0_2_Sources b0_2_Bundle b0_2_Path) (qe.mk s_Worst s_Best s_Pass)) (left,k)).bind (fun(e:List qa)=>some (Exit.exit 2,⟨[(10,rO 1 8 e.length)],[(0,B.blk 52 [dI b0_0_Course_School,dS b0_0_Course_Code,dI b0_0_Credits,dI b0_0_Grade,dI b0_0_Day,dL 1 eI b0_0_Sources,dI b0_0_Bundle,dL 1 eI b0_0_Path,dI b0_1_Course_School,dS b0_1_Course_Code,dI b0_1_Credits,dI b0_1_Grade,dI b0_1_Day,dL 1 eI b0_1_Sources,dI b0_1_Bundle,dL 1 eI b0_1_Path,dI b0_2_Course_School,dS b0_2_Course_Code,dI b0_2_Credits,dI b0_2_Grade,dI b0_2_Day,dL 1 eI b0_2_Sources,dI b0_2_Bundle,dL 1 eI b0_2_Path]),(1,bR 52 8 qc e)],2,53⟩)):=
 by
 intro left b0_0_Course_School b0_0_Course_Code b0_0_Credits b0_0_Grade b0_0_Day b0_0_Sources b0_0_Bundle b0_0_Path b0_1_Course_School b0_1_Course_Code b0_1_Credits b0_1_Grade b0_1_Day b0_1_Sources b0_1_Bundle b0_1_Path b0_2_Course_School b0_2_Course_Code b0_2_Credits b0_2_Grade b0_2_Day b0_2_Sources b0_2_Bundle b0_2_Path s_Worst s_Best s_Pass k ZM h0
 subst h0
 revert k;revert left;exact q9h qfJ qgm (fun e=>by exact⟨_,rfl,fun h=>by cases h⟩) fun left k=>by
  have:=qnw;have:=@q7R.eq_1;have:=@ZL;have:=@qU;have:=@qk.eq_1;exact gA
theorem ZP:∀  (b0_0_Course_School:Int) (b0_0_Course_Code:ByteArray) (b0_0_Credits b0_0_Grade b0_0_Day:Int) (b0_0_Sources:List Int) (b0_0_Bundle:Int) (b0_0_Path:List Int) (b0_1_Course_School:Int) (b0_1_Course_Code:ByteArray) (b0_1_Credits b0_1_Grade b0_1_Day:Int) (b0_1_Sources:List Int) (b0_1_Bundle:Int) (b0_1_Path:List Int) (b0_2_Course_School:Int) (b0_2_Course_Code:ByteArray) (b0_2_Credits b0_2_Grade b0_2_Day:Int) (b0_2_Sources:List Int) (b0_2_Bundle:Int) (b0_2_Path:List Int) (s_Worst s_Best s_Pass k:Int),XL2 evo 11 1 9 ⟨[(6,rP 1),(10,rO 2 8 0),(13,rI k)],[(0,B.blk 52 [dI b0_0_Course_School,dS b0_0_Course_Code,dI b0_0_Credits,dI b0_0_Grade,dI b0_0_Day,dL 1 eI b0_0_Sources,dI b0_0_Bundle,dL 1 eI b0_0_Path,dI b0_1_Course_School,dS b0_1_Course_Code,dI b0_1_Credits,dI b0_1_Grade,dI b0_1_Day,dL 1 eI b0_1_Sources,dI b0_1_Bundle,dL 1 eI b0_1_Path,dI b0_2_Course_School,dS b0_2_Course_Code,dI b0_2_Credits,dI b0_2_Grade,dI b0_2_Day,dL 1 eI b0_2_Sources,dI b0_2_Bundle,dL 1 eI b0_2_Path]),(1,B.blk 30 [dI s_Worst,dI s_Best,dI s_Pass]),(2,B.row 52 8 [])],3,53⟩=(qG (qk (qa.mk (qb.mk b0_0_Course_School b0_0_Course_Code) b0_0_Credits b0_0_Grade b0_0_Day b0_0_Sources b0_0_Bundle b0_0_Path) (qa.mk (qb.mk b0_1_Course_School b0_1_Course_Code) b0_1_Credits b0_1_Grade b0_1_Day b0_1_Sources b0_1_Bundle b0_1_Path) (qa.mk (qb.mk b0_2_Course_School b0_2_Course_Code) b0_2_Credits b0_2_Grade b0_2_Day b0_2_Sources b0_2_Bundle b0_2_Path) (qe.mk s_Worst s_Best s_Pass)) ([],k)).bind (fun(e:List qa)=>some (Exit.exit 2,⟨[(10,rO 1 8 e.length)],[(0,B.blk 52 [dI b0_0_Course_School,dS b0_0_Course_Code,dI b0_0_Credits,dI b0_0_Grade,dI b0_0_Day,dL 1 eI b0_0_Sources,dI b0_0_Bundle,dL 1 eI b0_0_Path,dI b0_1_Course_School,dS b0_1_Course_Code,dI b0_1_Credits,dI b0_1_Grade,dI b0_1_Day,dL 1 eI b0_1_Sources,dI b0_1_Bundle,dL 1 eI b0_1_Path,dI b0_2_Course_School,dS b0_2_Course_Code,dI b0_2_Credits,dI b0_2_Grade,dI b0_2_Day,dL 1 eI b0_2_Sources,dI b0_2_Bundle,dL 1 eI b0_2_Path]),(1,bR 52 8 qc e)],2,53⟩)):=by
 intro b0_0_Course_School b0_0_Course_Code b0_0_Credits b0_0_Grade b0_0_Day b0_0_Sources b0_0_Bundle b0_0_Path b0_1_Course_School b0_1_Course_Code b0_1_Credits b0_1_Grade b0_1_Day b0_1_Sources b0_1_Bundle b0_1_Path b0_2_Course_School b0_2_Course_Code b0_2_Credits b0_2_Grade b0_2_Day b0_2_Sources b0_2_Bundle b0_2_Path s_Worst s_Best s_Pass k;have h:=qS [] ((qa.mk (qb.mk b0_0_Course_School b0_0_Course_Code) b0_0_Credits b0_0_Grade b0_0_Day b0_0_Sources b0_0_Bundle b0_0_Path)).Course.School ((qa.mk (qb.mk b0_0_Course_School b0_0_Course_Code) b0_0_Credits b0_0_Grade b0_0_Day b0_0_Sources b0_0_Bundle b0_0_Path)).Course.Code ((qa.mk (qb.mk b0_0_Course_School b0_0_Course_Code) b0_0_Credits b0_0_Grade b0_0_Day b0_0_Sources b0_0_Bundle b0_0_Path)).Credits ((qa.mk (qb.mk b0_0_Course_School b0_0_Course_Code) b0_0_Credits b0_0_Grade b0_0_Day b0_0_Sources b0_0_Bundle b0_0_Path)).Grade ((qa.mk (qb.mk b0_0_Course_School b0_0_Course_Code) b0_0_Credits b0_0_Grade b0_0_Day b0_0_Sources b0_0_Bundle b0_0_Path)).Day ((qa.mk (qb.mk b0_0_Course_School b0_0_Course_Code) b0_0_Credits b0_0_Grade b0_0_Day b0_0_Sources b0_0_Bundle b0_0_Path)).Sources ((qa.mk (qb.mk b0_0_Course_School b0_0_Course_Code) b0_0_Credits b0_0_Grade b0_0_Day b0_0_Sources b0_0_Bundle b0_0_Path)).Bundle ((qa.mk (qb.mk b0_0_Course_School b0_0_Course_Code) b0_0_Credits b0_0_Grade b0_0_Day b0_0_Sources b0_0_Bundle b0_0_Path)).Path ((qa.mk (qb.mk b0_1_Course_School b0_1_Course_Code) b0_1_Credits b0_1_Grade b0_1_Day b0_1_Sources b0_1_Bundle b0_1_Path)).Course.School ((qa.mk (qb.mk b0_1_Course_School b0_1_Course_Code) b0_1_Credits b0_1_Grade b0_1_Day b0_1_Sources b0_1_Bundle b0_1_Path)).Course.Code ((qa.mk (qb.mk b0_1_Course_School b0_1_Course_Code) b0_1_Credits b0_1_Grade b0_1_Day b0_1_Sources b0_1_Bundle b0_1_Path)).Credits ((qa.mk (qb.mk b0_1_Course_School b0_1_Course_Code) b0_1_Credits b0_1_Grade b0_1_Day b0_1_Sources b0_1_Bundle b0_1_Path)).Grade ((qa.mk (qb.mk b0_1_Course_School b0_1_Course_Code) b0_1_Credits b0_1_Grade b0_1_Day b0_1_Sources b0_1_Bundle b0_1_Path)).Day ((qa.mk (qb.mk b0_1_Course_School b0_1_Course_Code) b0_1_Credits b0_1_Grade b0_1_Day b0_1_Sources b0_1_Bundle b0_1_Path)).Sources ((qa.mk (qb.mk b0_1_Course_School b0_1_Course_Code) b0_1_Credits b0_1_Grade b0_1_Day b0_1_Sources b0_1_Bundle b0_1_Path)).Bundle ((qa.mk (qb.mk b0_1_Course_School b0_1_Course_Code) b0_1_Credits b0_1_Grade b0_1_Day b0_1_Sources b0_1_Bundle b0_1_Path)).Path ((qa.mk (qb.mk b0_2_Course_School b0_2_Course_Code) b0_2_Credits b0_2_Grade b0_2_Day b0_2_Sources b0_2_Bundle b0_2_Path)).Course.School ((qa.mk (qb.mk b0_2_Course_School b0_2_Course_Code) b0_2_Credits b0_2_Grade b0_2_Day b0_2_Sources b0_2_Bundle b0_2_Path)).Course.Code ((qa.mk (qb.mk b0_2_Course_School b0_2_Course_Code) b0_2_Credits b0_2_Grade b0_2_Day b0_2_Sources b0_2_Bundle b0_2_Path)).Credits ((qa.mk (qb.mk b0_2_Course_School b0_2_Course_Code) b0_2_Credits b0_2_Grade b0_2_Day b0_2_Sources b0_2_Bundle b0_2_Path)).Grade ((qa.mk (qb.mk b0_2_Course_School b0_2_Course_Code) b0_2_Credits b0_2_Grade b0_2_Day b0_2_Sources b0_2_Bundle b0_2_Path)).Day ((qa.mk (qb.mk b0_2_Course_School b0_2_Course_Code) b0_2_Credits b0_2_Grade b0_2_Day b0_2_Sources b0_2_Bundle b0_2_Path)).Sources ((qa.mk (qb.mk b0_2_Course_School b0_2_Course_Code) b0_2_Credits b0_2_Grade b0_2_Day b0_2_Sources b0_2_Bundle b0_2_Path)).Bundle ((qa.mk (qb.mk b0_2_Course_School b0_2_Course_Code) b0_2_Credits b0_2_Grade b0_2_Day b0_2_Sources b0_2_Bundle b0_2_Path)).Path ((qe.mk s_Worst s_Best s_Pass)).Worst ((qe.mk s_Worst s_Best s_Pass)).Best ((qe.mk s_Worst s_Best s_Pass)).Pass k _ rfl
 first
  | exact h
  | (simp only[rL,dL,bR,bZ,Nat.reduceAdd] at h;exact h)
theorem ZZ:∀(left0_Course_School:Int) (left0_Course_Code:ByteArray) (left0_Credits left0_Grade left0_Day:Int) (left0_Sources:List Int) (left0_Bundle:Int) (left0_Path:List Int) (left1_Course_School:Int) (left1_Course_Code:ByteArray) (left1_Credits left1_Grade left1_Day:Int) (left1_Sources:List Int) (left1_Bundle:Int) (left1_Path:List Int) (left2_Course_School:Int) (left2_Course_Code:ByteArray) (left2_Credits left2_Grade left2_Day:Int) (left2_Sources:List Int) (left2_Bundle:Int) (left2_Path:List Int) (b0_0_Course_School:Int) (b0_0_Course_Code:ByteArray) (b0_0_Credits b0_0_Grade b0_0_Day:Int) (b0_0_Sources:List Int) (b0_0_Bundle:Int) (b0_0_Path:List Int) (b0_1_Course_School:Int) (b0_1_Course_Code:ByteArray) (b0_1_Credits b0_1_Grade b0_1_Day:Int) (b0_1_Sources:List Int) (b0_1_Bundle:Int) (b0_1_Path:List Int) (b0_2_Course_School:Int) (b0_2_Course_Code:ByteArray) (b0_2_Credits b0_2_Grade b0_2_Day:Int) (b0_2_Sources:List Int) (b0_2_Bundle:Int) (b0_2_Path:List Int) (s_Worst s_Best s_Pass k:Int),XL2 evo 11 1 9 ⟨[(6,rP 1),(10,rO 2 8 3),(13,rI k)],[(0,B.blk 52 [dI b0_0_Course_School,dS b0_0_Course_Code,dI b0_0_Credits,dI b0_0_Grade,dI b0_0_Day,dL 1 eI b0_0_Sources,dI b0_0_Bundle,dL 1 eI b0_0_Path,dI b0_1_Course_School,dS b0_1_Course_Code,dI b0_1_Credits,dI b0_1_Grade,dI b0_1_Day,dL 1 eI b0_1_Sources,dI b0_1_Bundle,dL 1 eI b0_1_Path,dI b0_2_Course_School,dS b0_2_Course_Code,dI b0_2_Credits,dI b0_2_Grade,dI b0_2_Day,dL 1 eI b0_2_Sources,dI b0_2_Bundle,dL 1 eI b0_2_Path]),(1,B.blk 30 [dI s_Worst,dI s_Best,dI s_Pass]),(2,B.row 52 8 [dI left0_Course_School,dS left0_Course_Code,dI left0_Credits,dI left0_Grade,dI left0_Day,dL 1 eI left0_Sources,dI left0_Bundle,dL 1 eI left0_Path,dI left1_Course_School,dS left1_Course_Code,dI left1_Credits,dI left1_Grade,dI left1_Day,dL 1 eI left1_Sources,dI left1_Bundle,dL 1 eI left1_Path,dI left2_Course_School,dS left2_Course_Code,dI left2_Credits,dI left2_Grade,dI left2_Day,dL 1 eI left2_Sources,dI left2_Bundle,dL 1 eI left2_Path])],3,53⟩=(qG (qk (qa.mk (qb.mk b0_0_Course_School b0_0_Course_Code) b0_0_Credits b0_0_Grade b0_0_Day b0_0_Sources b0_0_Bundle b0_0_Path) (qa.mk (qb.mk b0_1_Course_School b0_1_Course_Code) b0_1_Credits b0_1_Grade b0_1_Day b0_1_Sources b0_1_Bundle b0_1_Path) (qa.mk (qb.mk b0_2_Course_School b0_2_Course_Code) b0_2_Credits b0_2_Grade b0_2_Day b0_2_Sources b0_2_Bundle b0_2_Path) (qe.mk s_Worst s_Best s_Pass)) ([(qa.mk (qb.mk left0_Course_School left0_Course_Code) left0_Credits left0_Grade left0_Day left0_Sources left0_Bundle left0_Path),(qa.mk (qb.mk left1_Course_School left1_Course_Code) left1_Credits left1_Grade left1_Day left1_Sources left1_Bundle left1_Path),(qa.mk (qb.mk left2_Course_School left2_Course_Code) left2_Credits left2_Grade left2_Day left2_Sources left2_Bundle left2_Path)],k)).bind (fun(e:List qa)=>some (Exit.exit 2,⟨[(10,rO 1 8 e.length)],[(0,B.blk 52 [dI b0_0_Course_School,dS b0_0_Course_Code,dI b0_0_Credits,dI b0_0_Grade,dI b0_0_Day,dL 1 eI b0_0_Sources,dI b0_0_Bundle,dL 1 eI b0_0_Path,dI b0_1_Course_School,dS b0_1_Course_Code,dI b0_1_Credits,dI b0_1_Grade,dI b0_1_Day,dL 1 eI b0_1_Sources,dI b0_1_Bundle,dL 1 eI b0_1_Path,dI b0_2_Course_School,dS b0_2_Course_Code,dI b0_2_Credits,dI b0_2_Grade,dI b0_2_Day,dL 1 eI b0_2_Sources,dI b0_2_Bundle,dL 1 eI b0_2_Path]),(1,bR 52 8 qc e)],2,53⟩)):=by
 intro left0_Course_School left0_Course_Code left0_Credits left0_Grade left0_Day left0_Sources left0_Bundle left0_Path left1_Course_School left1_Course_Code left1_Credits left1_Grade left1_Day left1_Sources left1_Bundle left1_Path left2_Course_School left2_Course_Code left2_Credits left2_Grade left2_Day left2_Sources left2_Bundle left2_Path b0_0_Course_School b0_0_Course_Code b0_0_Credits b0_0_Grade b0_0_Day b0_0_Sources b0_0_Bundle b0_0_Path b0_1_Course_School b0_1_Course_Code b0_1_Credits b0_1_Grade b0_1_Day b0_1_Sources b0_1_Bundle b0_1_Path b0_2_Course_School b0_2_Course_Code b0_2_Credits b0_2_Grade b0_2_Day b0_2_Sources b0_2_Bundle b0_2_Path s_Worst s_Best s_Pass k;have h:=qS [(qa.mk (qb.mk left0_Course_School left0_Course_Code) left0_Credits left0_Grade left0_Day left0_Sources left0_Bundle left0_Path),(qa.mk (qb.mk left1_Course_School left1_Course_Code) left1_Credits left1_Grade left1_Day left1_Sources left1_Bundle left1_Path),(qa.mk (qb.mk left2_Course_School left2_Course_Code) left2_Credits left2_Grade left2_Day left2_Sources left2_Bundle left2_Path)] ((qa.mk (qb.mk b0_0_Course_School b0_0_Course_Code) b0_0_Credits b0_0_Grade b0_0_Day b0_0_Sources b0_0_Bundle b0_0_Path)).Course.School ((qa.mk (qb.mk b0_0_Course_School b0_0_Course_Code) b0_0_Credits b0_0_Grade b0_0_Day b0_0_Sources b0_0_Bundle b0_0_Path)).Course.Code ((qa.mk (qb.mk b0_0_Course_School b0_0_Course_Code) b0_0_Credits b0_0_Grade b0_0_Day b0_0_Sources b0_0_Bundle b0_0_Path)).Credits ((qa.mk (qb.mk b0_0_Course_School b0_0_Course_Code) b0_0_Credits b0_0_Grade b0_0_Day b0_0_Sources b0_0_Bundle b0_0_Path)).Grade ((qa.mk (qb.mk b0_0_Course_School b0_0_Course_Code) b0_0_Credits b0_0_Grade b0_0_Day b0_0_Sources b0_0_Bundle b0_0_Path)).Day ((qa.mk (qb.mk b0_0_Course_School b0_0_Course_Code) b0_0_Credits b0_0_Grade b0_0_Day b0_0_Sources b0_0_Bundle b0_0_Path)).Sources ((qa.mk (qb.mk b0_0_Course_School b0_0_Course_Code) b0_0_Credits b0_0_Grade b0_0_Day b0_0_Sources b0_0_Bundle b0_0_Path)).Bundle ((qa.mk (qb.mk b0_0_Course_School b0_0_Course_Code) b0_0_Credits b0_0_Grade b0_0_Day b0_0_Sources b0_0_Bundle b0_0_Path)).Path ((qa.mk (qb.mk b0_1_Course_School b0_1_Course_Code) b0_1_Credits b0_1_Grade b0_1_Day b0_1_Sources b0_1_Bundle b0_1_Path)).Course.School ((qa.mk (qb.mk b0_1_Course_School b0_1_Course_Code) b0_1_Credits b0_1_Grade b0_1_Day b0_1_Sources b0_1_Bundle b0_1_Path)).Course.Code ((qa.mk (qb.mk b0_1_Course_School b0_1_Course_Code) b0_1_Credits b0_1_Grade b0_1_Day b0_1_Sources b0_1_Bundle b0_1_Path)).Credits ((qa.mk (qb.mk b0_1_Course_School b0_1_Course_Code) b0_1_Credits b0_1_Grade b0_1_Day b0_1_Sources b0_1_Bundle b0_1_Path)).Grade ((qa.mk (qb.mk b0_1_Course_School b0_1_Course_Code) b0_1_Credits b0_1_Grade b0_1_Day b0_1_Sources b0_1_Bundle b0_1_Path)).Day ((qa.mk (qb.mk b0_1_Course_School b0_1_Course_Code) b0_1_Credits b0_1_Grade b0_1_Day b0_1_Sources b0_1_Bundle b0_1_Path)).Sources ((qa.mk (qb.mk b0_1_Course_School b0_1_Course_Code) b0_1_Credits b0_1_Grade b0_1_Day b0_1_Sources b0_1_Bundle b0_1_Path)).Bundle ((qa.mk (qb.mk b0_1_Course_School b0_1_Course_Code) b0_1_Credits b0_1_Grade b0_1_Day b0_1_Sources b0_1_Bundle b0_1_Path)).Path ((qa.mk (qb.mk b0_2_Course_School b0_2_Course_Code) b0_2_Credits b0_2_Grade b0_2_Day b0_2_Sources b0_2_Bundle b0_2_Path)).Course.School ((qa.mk (qb.mk b0_2_Course_School b0_2_Course_Code) b0_2_Credits b0_2_Grade b0_2_Day b0_2_Sources b0_2_Bundle b0_2_Path)).Course.Code ((qa.mk (qb.mk b0_2_Course_School b0_2_Course_Code) b0_2_Credits b0_2_Grade b0_2_Day b0_2_Sources b0_2_Bundle b0_2_Path)).Credits ((qa.mk (qb.mk b0_2_Course_School b0_2_Course_Code) b0_2_Credits b0_2_Grade b0_2_Day b0_2_Sources b0_2_Bundle b0_2_Path)).Grade ((qa.mk (qb.mk b0_2_Course_School b0_2_Course_Code) b0_2_Credits b0_2_Grade b0_2_Day b0_2_Sources b0_2_Bundle b0_2_Path)).Day ((qa.mk (qb.mk b0_2_Course_School b0_2_Course_Code) b0_2_Credits b0_2_Grade b0_2_Day b0_2_Sources b0_2_Bundle b0_2_Path)).Sources ((qa.mk (qb.mk b0_2_Course_School b0_2_Course_Code) b0_2_Credits b0_2_Grade b0_2_Day b0_2_Sources b0_2_Bundle b0_2_Path)).Bundle ((qa.mk (qb.mk b0_2_Course_School b0_2_Course_Code) b0_2_Credits b0_2_Grade b0_2_Day b0_2_Sources b0_2_Bundle b0_2_Path)).Path ((qe.mk s_Worst s_Best s_Pass)).Worst ((qe.mk s_Worst s_Best s_Pass)).Best ((qe.mk s_Worst s_Best s_Pass)).Pass k _ rfl
 first
  | exact h
  | (simp only[rL,dL,bR,bZ,Nat.reduceAdd] at h;exact h)
theorem ZS:∀(left0_Course_School:Int) (left0_Course_Code:ByteArray) (left0_Credits left0_Grade left0_Day:Int) (left0_Sources:List Int) (left0_Bundle:Int) (left0_Path:List Int) (left1_Course_School:Int) (left1_Course_Code:ByteArray) (left1_Credits left1_Grade left1_Day:Int) (left1_Sources:List Int) (left1_Bundle:Int) (left1_Path:List Int) (b0_0_Course_School:Int) (b0_0_Course_Code:ByteArray) (b0_0_Credits b0_0_Grade b0_0_Day:Int) (b0_0_Sources:List Int) (b0_0_Bundle:Int) (b0_0_Path:List Int) (b0_1_Course_School:Int) (b0_1_Course_Code:ByteArray) (b0_1_Credits b0_1_Grade b0_1_Day:Int) (b0_1_Sources:List Int) (b0_1_Bundle:Int) (b0_1_Path:List Int) (b0_2_Course_School:Int) (b0_2_Course_Code:ByteArray) (b0_2_Credits b0_2_Grade b0_2_Day:Int) (b0_2_Sources:List Int) (b0_2_Bundle:Int) (b0_2_Path:List Int) (s_Worst s_Best s_Pass k:Int),XL2 evo 11 1 9 ⟨[(6,rP 1),(10,rO 2 8 2),(13,rI k)],[(0,B.blk 52 [dI b0_0_Course_School,dS b0_0_Course_Code,dI b0_0_Credits,dI b0_0_Grade,dI b0_0_Day,dL 1 eI b0_0_Sources,dI b0_0_Bundle,dL 1 eI b0_0_Path,dI b0_1_Course_School,dS b0_1_Course_Code,dI b0_1_Credits,dI b0_1_Grade,dI b0_1_Day,dL 1 eI b0_1_Sources,dI b0_1_Bundle,dL 1 eI b0_1_Path,dI b0_2_Course_School,dS b0_2_Course_Code,dI b0_2_Credits,dI b0_2_Grade,dI b0_2_Day,dL 1 eI b0_2_Sources,dI b0_2_Bundle,dL 1 eI b0_2_Path]),(1,B.blk 30 [dI s_Worst,dI s_Best,dI s_Pass]),(2,B.row 52 8 [dI left0_Course_School,dS left0_Course_Code,dI left0_Credits,dI left0_Grade,dI left0_Day,dL 1 eI left0_Sources,dI left0_Bundle,dL 1 eI left0_Path,dI left1_Course_School,dS left1_Course_Code,dI left1_Credits,dI left1_Grade,dI left1_Day,dL 1 eI left1_Sources,dI left1_Bundle,dL 1 eI left1_Path])],3,53⟩=(qG (qk (qa.mk (qb.mk b0_0_Course_School b0_0_Course_Code) b0_0_Credits b0_0_Grade b0_0_Day b0_0_Sources b0_0_Bundle b0_0_Path) (qa.mk (qb.mk b0_1_Course_School b0_1_Course_Code) b0_1_Credits b0_1_Grade b0_1_Day b0_1_Sources b0_1_Bundle b0_1_Path) (qa.mk (qb.mk b0_2_Course_School b0_2_Course_Code) b0_2_Credits b0_2_Grade b0_2_Day b0_2_Sources b0_2_Bundle b0_2_Path) (qe.mk s_Worst s_Best s_Pass)) ([(qa.mk (qb.mk left0_Course_School left0_Course_Code) left0_Credits left0_Grade left0_Day left0_Sources left0_Bundle left0_Path),(qa.mk (qb.mk left1_Course_School left1_Course_Code) left1_Credits left1_Grade left1_Day left1_Sources left1_Bundle left1_Path)],k)).bind (fun(e:List qa)=>some (Exit.exit 2,⟨[(10,rO 1 8 e.length)],[(0,B.blk 52 [dI b0_0_Course_School,dS b0_0_Course_Code,dI b0_0_Credits,dI b0_0_Grade,dI b0_0_Day,dL 1 eI b0_0_Sources,dI b0_0_Bundle,dL 1 eI b0_0_Path,dI b0_1_Course_School,dS b0_1_Course_Code,dI b0_1_Credits,dI b0_1_Grade,dI b0_1_Day,dL 1 eI b0_1_Sources,dI b0_1_Bundle,dL 1 eI b0_1_Path,dI b0_2_Course_School,dS b0_2_Course_Code,dI b0_2_Credits,dI b0_2_Grade,dI b0_2_Day,dL 1 eI b0_2_Sources,dI b0_2_Bundle,dL 1 eI b0_2_Path]),(1,bR 52 8 qc e)],2,53⟩)):=by
 intro left0_Course_School left0_Course_Code left0_Credits left0_Grade left0_Day left0_Sources left0_Bundle left0_Path left1_Course_School left1_Course_Code left1_Credits left1_Grade left1_Day left1_Sources left1_Bundle left1_Path b0_0_Course_School b0_0_Course_Code b0_0_Credits b0_0_Grade b0_0_Day b0_0_Sources b0_0_Bundle b0_0_Path b0_1_Course_School b0_1_Course_Code b0_1_Credits b0_1_Grade b0_1_Day b0_1_Sources b0_1_Bundle b0_1_Path b0_2_Course_School b0_2_Course_Code b0_2_Credits b0_2_Grade b0_2_Day b0_2_Sources b0_2_Bundle b0_2_Path s_Worst s_Best s_Pass k;have h:=qS [(qa.mk (qb.mk left0_Course_School left0_Course_Code) left0_Credits left0_Grade left0_Day left0_Sources left0_Bundle left0_Path),(qa.mk (qb.mk left1_Course_School left1_Course_Code) left1_Credits left1_Grade left1_Day left1_Sources left1_Bundle left1_Path)] ((qa.mk (qb.mk b0_0_Course_School b0_0_Course_Code) b0_0_Credits b0_0_Grade b0_0_Day b0_0_Sources b0_0_Bundle b0_0_Path)).Course.School ((qa.mk (qb.mk b0_0_Course_School b0_0_Course_Code) b0_0_Credits b0_0_Grade b0_0_Day b0_0_Sources b0_0_Bundle b0_0_Path)).Course.Code ((qa.mk (qb.mk b0_0_Course_School b0_0_Course_Code) b0_0_Credits b0_0_Grade b0_0_Day b0_0_Sources b0_0_Bundle b0_0_Path)).Credits ((qa.mk (qb.mk b0_0_Course_School b0_0_Course_Code) b0_0_Credits b0_0_Grade b0_0_Day b0_0_Sources b0_0_Bundle b0_0_Path)).Grade ((qa.mk (qb.mk b0_0_Course_School b0_0_Course_Code) b0_0_Credits b0_0_Grade b0_0_Day b0_0_Sources b0_0_Bundle b0_0_Path)).Day ((qa.mk (qb.mk b0_0_Course_School b0_0_Course_Code) b0_0_Credits b0_0_Grade b0_0_Day b0_0_Sources b0_0_Bundle b0_0_Path)).Sources ((qa.mk (qb.mk b0_0_Course_School b0_0_Course_Code) b0_0_Credits b0_0_Grade b0_0_Day b0_0_Sources b0_0_Bundle b0_0_Path)).Bundle ((qa.mk (qb.mk b0_0_Course_School b0_0_Course_Code) b0_0_Credits b0_0_Grade b0_0_Day b0_0_Sources b0_0_Bundle b0_0_Path)).Path ((qa.mk (qb.mk b0_1_Course_School b0_1_Course_Code) b0_1_Credits b0_1_Grade b0_1_Day b0_1_Sources b0_1_Bundle b0_1_Path)).Course.School ((qa.mk (qb.mk b0_1_Course_School b0_1_Course_Code) b0_1_Credits b0_1_Grade b0_1_Day b0_1_Sources b0_1_Bundle b0_1_Path)).Course.Code ((qa.mk (qb.mk b0_1_Course_School b0_1_Course_Code) b0_1_Credits b0_1_Grade b0_1_Day b0_1_Sources b0_1_Bundle b0_1_Path)).Credits ((qa.mk (qb.mk b0_1_Course_School b0_1_Course_Code) b0_1_Credits b0_1_Grade b0_1_Day b0_1_Sources b0_1_Bundle b0_1_Path)).Grade ((qa.mk (qb.mk b0_1_Course_School b0_1_Course_Code) b0_1_Credits b0_1_Grade b0_1_Day b0_1_Sources b0_1_Bundle b0_1_Path)).Day ((qa.mk (qb.mk b0_1_Course_School b0_1_Course_Code) b0_1_Credits b0_1_Grade b0_1_Day b0_1_Sources b0_1_Bundle b0_1_Path)).Sources ((qa.mk (qb.mk b0_1_Course_School b0_1_Course_Code) b0_1_Credits b0_1_Grade b0_1_Day b0_1_Sources b0_1_Bundle b0_1_Path)).Bundle ((qa.mk (qb.mk b0_1_Course_School b0_1_Course_Code) b0_1_Credits b0_1_Grade b0_1_Day b0_1_Sources b0_1_Bundle b0_1_Path)).Path ((qa.mk (qb.mk b0_2_Course_School b0_2_Course_Code) b0_2_Credits b0_2_Grade b0_2_Day b0_2_Sources b0_2_Bundle b0_2_Path)).Course.School ((qa.mk (qb.mk b0_2_Course_School b0_2_Course_Code) b0_2_Credits b0_2_Grade b0_2_Day b0_2_Sources b0_2_Bundle b0_2_Path)).Course.Code ((qa.mk (qb.mk b0_2_Course_School b0_2_Course_Code) b0_2_Credits b0_2_Grade b0_2_Day b0_2_Sources b0_2_Bundle b0_2_Path)).Credits ((qa.mk (qb.mk b0_2_Course_School b0_2_Course_Code) b0_2_Credits b0_2_Grade b0_2_Day b0_2_Sources b0_2_Bundle b0_2_Path)).Grade ((qa.mk (qb.mk b0_2_Course_School b0_2_Course_Code) b0_2_Credits b0_2_Grade b0_2_Day b0_2_Sources b0_2_Bundle b0_2_Path)).Day ((qa.mk (qb.mk b0_2_Course_School b0_2_Course_Code) b0_2_Credits b0_2_Grade b0_2_Day b0_2_Sources b0_2_Bundle b0_2_Path)).Sources ((qa.mk (qb.mk b0_2_Course_School b0_2_Course_Code) b0_2_Credits b0_2_Grade b0_2_Day b0_2_Sources b0_2_Bundle b0_2_Path)).Bundle ((qa.mk (qb.mk b0_2_Course_School b0_2_Course_Code) b0_2_Credits b0_2_Grade b0_2_Day b0_2_Sources b0_2_Bundle b0_2_Path)).Path ((qe.mk s_Worst s_Best s_Pass)).Worst ((qe.mk s_Worst s_Best s_Pass)).Best ((qe.mk s_Worst s_Best s_Pass)).Pass k _ rfl
 first
  | exact h
  | (simp only[rL,dL,bR,bZ,Nat.reduceAdd] at h;exact h)
theorem ZR:∀(left0_Course_School:Int) (left0_Course_Code:ByteArray) (left0_Credits left0_Grade left0_Day:Int) (left0_Sources:List Int) (left0_Bundle:Int) (left0_Path:List Int) (b0_0_Course_School:Int) (b0_0_Course_Code:ByteArray) (b0_0_Credits b0_0_Grade b0_0_Day:Int) (b0_0_Sources:List Int) (b0_0_Bundle:Int) (b0_0_Path:List Int) (b0_1_Course_School:Int) (b0_1_Course_Code:ByteArray) (b0_1_Credits b0_1_Grade b0_1_Day:Int) (b0_1_Sources:List Int) (b0_1_Bundle:Int) (b0_1_Path:List Int) (b0_2_Course_School:Int) (b0_2_Course_Code:ByteArray) (b0_2_Credits b0_2_Grade b0_2_Day:Int) (b0_2_Sources:List Int) (b0_2_Bundle:Int) (b0_2_Path:List Int) (s_Worst s_Best s_Pass k:Int),XL2 evo 11 1 9 ⟨[(6,rP 1),(10,rO 2 8 1),(13,rI k)],[(0,B.blk 52 [dI b0_0_Course_School,dS b0_0_Course_Code,dI b0_0_Credits,dI b0_0_Grade,dI b0_0_Day,dL 1 eI b0_0_Sources,dI b0_0_Bundle,dL 1 eI b0_0_Path,dI b0_1_Course_School,dS b0_1_Course_Code,dI b0_1_Credits,dI b0_1_Grade,dI b0_1_Day,dL 1 eI b0_1_Sources,dI b0_1_Bundle,dL 1 eI b0_1_Path,dI b0_2_Course_School,dS b0_2_Course_Code,dI b0_2_Credits,dI b0_2_Grade,dI b0_2_Day,dL 1 eI b0_2_Sources,dI b0_2_Bundle,dL 1 eI b0_2_Path]),(1,B.blk 30 [dI s_Worst,dI s_Best,dI s_Pass]),(2,B.row 52 8 [dI left0_Course_School,dS left0_Course_Code,dI left0_Credits,dI left0_Grade,dI left0_Day,dL 1 eI left0_Sources,dI left0_Bundle,dL 1 eI left0_Path])],3,53⟩=(qG (qk (qa.mk (qb.mk b0_0_Course_School b0_0_Course_Code) b0_0_Credits b0_0_Grade b0_0_Day b0_0_Sources b0_0_Bundle b0_0_Path) (qa.mk (qb.mk b0_1_Course_School b0_1_Course_Code) b0_1_Credits b0_1_Grade b0_1_Day b0_1_Sources b0_1_Bundle b0_1_Path) (qa.mk (qb.mk b0_2_Course_School b0_2_Course_Code) b0_2_Credits b0_2_Grade b0_2_Day b0_2_Sources b0_2_Bundle b0_2_Path) (qe.mk s_Worst s_Best s_Pass)) ([(qa.mk (qb.mk left0_Course_School left0_Course_Code) left0_Credits left0_Grade left0_Day left0_Sources left0_Bundle left0_Path)],k)).bind (fun(e:List qa)=>some (Exit.exit 2,⟨[(10,rO 1 8 e.length)],[(0,B.blk 52 [dI b0_0_Course_School,dS b0_0_Course_Code,dI b0_0_Credits,dI b0_0_Grade,dI b0_0_Day,dL 1 eI b0_0_Sources,dI b0_0_Bundle,dL 1 eI b0_0_Path,dI b0_1_Course_School,dS b0_1_Course_Code,dI b0_1_Credits,dI b0_1_Grade,dI b0_1_Day,dL 1 eI b0_1_Sources,dI b0_1_Bundle,dL 1 eI b0_1_Path,dI b0_2_Course_School,dS b0_2_Course_Code,dI b0_2_Credits,dI b0_2_Grade,dI b0_2_Day,dL 1 eI b0_2_Sources,dI b0_2_Bundle,dL 1 eI b0_2_Path]),(1,bR 52 8 qc e)],2,53⟩)):=by
 intro left0_Course_School left0_Course_Code left0_Credits left0_Grade left0_Day left0_Sources left0_Bundle left0_Path b0_0_Course_School b0_0_Course_Code b0_0_Credits b0_0_Grade b0_0_Day b0_0_Sources b0_0_Bundle b0_0_Path b0_1_Course_School b0_1_Course_Code b0_1_Credits b0_1_Grade b0_1_Day b0_1_Sources b0_1_Bundle b0_1_Path b0_2_Course_School b0_2_Course_Code b0_2_Credits b0_2_Grade b0_2_Day b0_2_Sources b0_2_Bundle b0_2_Path s_Worst s_Best s_Pass k;have h:=qS [(qa.mk (qb.mk left0_Course_School left0_Course_Code) left0_Credits left0_Grade left0_Day left0_Sources left0_Bundle left0_Path)] ((qa.mk (qb.mk b0_0_Course_School b0_0_Course_Code) b0_0_Credits b0_0_Grade b0_0_Day b0_0_Sources b0_0_Bundle b0_0_Path)).Course.School ((qa.mk (qb.mk b0_0_Course_School b0_0_Course_Code) b0_0_Credits b0_0_Grade b0_0_Day b0_0_Sources b0_0_Bundle b0_0_Path)).Course.Code ((qa.mk (qb.mk b0_0_Course_School b0_0_Course_Code) b0_0_Credits b0_0_Grade b0_0_Day b0_0_Sources b0_0_Bundle b0_0_Path)).Credits ((qa.mk (qb.mk b0_0_Course_School b0_0_Course_Code) b0_0_Credits b0_0_Grade b0_0_Day b0_0_Sources b0_0_Bundle b0_0_Path)).Grade ((qa.mk (qb.mk b0_0_Course_School b0_0_Course_Code) b0_0_Credits b0_0_Grade b0_0_Day b0_0_Sources b0_0_Bundle b0_0_Path)).Day ((qa.mk (qb.mk b0_0_Course_School b0_0_Course_Code) b0_0_Credits b0_0_Grade b0_0_Day b0_0_Sources b0_0_Bundle b0_0_Path)).Sources ((qa.mk (qb.mk b0_0_Course_School b0_0_Course_Code) b0_0_Credits b0_0_Grade b0_0_Day b0_0_Sources b0_0_Bundle b0_0_Path)).Bundle ((qa.mk (qb.mk b0_0_Course_School b0_0_Course_Code) b0_0_Credits b0_0_Grade b0_0_Day b0_0_Sources b0_0_Bundle b0_0_Path)).Path ((qa.mk (qb.mk b0_1_Course_School b0_1_Course_Code) b0_1_Credits b0_1_Grade b0_1_Day b0_1_Sources b0_1_Bundle b0_1_Path)).Course.School ((qa.mk (qb.mk b0_1_Course_School b0_1_Course_Code) b0_1_Credits b0_1_Grade b0_1_Day b0_1_Sources b0_1_Bundle b0_1_Path)).Course.Code ((qa.mk (qb.mk b0_1_Course_School b0_1_Course_Code) b0_1_Credits b0_1_Grade b0_1_Day b0_1_Sources b0_1_Bundle b0_1_Path)).Credits ((qa.mk (qb.mk b0_1_Course_School b0_1_Course_Code) b0_1_Credits b0_1_Grade b0_1_Day b0_1_Sources b0_1_Bundle b0_1_Path)).Grade ((qa.mk (qb.mk b0_1_Course_School b0_1_Course_Code) b0_1_Credits b0_1_Grade b0_1_Day b0_1_Sources b0_1_Bundle b0_1_Path)).Day ((qa.mk (qb.mk b0_1_Course_School b0_1_Course_Code) b0_1_Credits b0_1_Grade b0_1_Day b0_1_Sources b0_1_Bundle b0_1_Path)).Sources ((qa.mk (qb.mk b0_1_Course_School b0_1_Course_Code) b0_1_Credits b0_1_Grade b0_1_Day b0_1_Sources b0_1_Bundle b0_1_Path)).Bundle ((qa.mk (qb.mk b0_1_Course_School b0_1_Course_Code) b0_1_Credits b0_1_Grade b0_1_Day b0_1_Sources b0_1_Bundle b0_1_Path)).Path ((qa.mk (qb.mk b0_2_Course_School b0_2_Course_Code) b0_2_Credits b0_2_Grade b0_2_Day b0_2_Sources b0_2_Bundle b0_2_Path)).Course.School ((qa.mk (qb.mk b0_2_Course_School b0_2_Course_Code) b0_2_Credits b0_2_Grade b0_2_Day b0_2_Sources b0_2_Bundle b0_2_Path)).Course.Code ((qa.mk (qb.mk b0_2_Course_School b0_2_Course_Code) b0_2_Credits b0_2_Grade b0_2_Day b0_2_Sources b0_2_Bundle b0_2_Path)).Credits ((qa.mk (qb.mk b0_2_Course_School b0_2_Course_Code) b0_2_Credits b0_2_Grade b0_2_Day b0_2_Sources b0_2_Bundle b0_2_Path)).Grade ((qa.mk (qb.mk b0_2_Course_School b0_2_Course_Code) b0_2_Credits b0_2_Grade b0_2_Day b0_2_Sources b0_2_Bundle b0_2_Path)).Day ((qa.mk (qb.mk b0_2_Course_School b0_2_Course_Code) b0_2_Credits b0_2_Grade b0_2_Day b0_2_Sources b0_2_Bundle b0_2_Path)).Sources ((qa.mk (qb.mk b0_2_Course_School b0_2_Course_Code) b0_2_Credits b0_2_Grade b0_2_Day b0_2_Sources b0_2_Bundle b0_2_Path)).Bundle ((qa.mk (qb.mk b0_2_Course_School b0_2_Course_Code) b0_2_Credits b0_2_Grade b0_2_Day b0_2_Sources b0_2_Bundle b0_2_Path)).Path ((qe.mk s_Worst s_Best s_Pass)).Worst ((qe.mk s_Worst s_Best s_Pass)).Best ((qe.mk s_Worst s_Best s_Pass)).Pass k _ rfl
 first
  | exact h
  | (simp only[rL,dL,bR,bZ,Nat.reduceAdd] at h;exact h)
theorem ZX:∀(left0_Course_School:Int) (left0_Course_Code:ByteArray) (left0_Credits left0_Grade left0_Day:Int) (left0_Sources:List Int) (left0_Bundle:Int) (left0_Path:List Int) (left1_Course_School:Int) (left1_Course_Code:ByteArray) (left1_Credits left1_Grade left1_Day:Int) (left1_Sources:List Int) (left1_Bundle:Int) (left1_Path:List Int) (left2_Course_School:Int) (left2_Course_Code:ByteArray) (left2_Credits left2_Grade left2_Day:Int) (left2_Sources:List Int) (left2_Bundle:Int) (left2_Path:List Int) (b0_0_Course_School:Int) (b0_0_Course_Code:ByteArray) (b0_0_Credits b0_0_Grade b0_0_Day:Int) (b0_0_Sources:List Int) (b0_0_Bundle:Int) (b0_0_Path:List Int) (b0_1_Course_School:Int) (b0_1_Course_Code:ByteArray) (b0_1_Credits b0_1_Grade b0_1_Day:Int) (b0_1_Sources:List Int) (b0_1_Bundle:Int) (b0_1_Path:List Int) (b0_2_Course_School:Int) (b0_2_Course_Code:ByteArray) (b0_2_Credits b0_2_Grade b0_2_Day:Int) (b0_2_Sources:List Int) (b0_2_Bundle:Int) (b0_2_Path:List Int) (s_Worst s_Best s_Pass k:Int),XL2 evo 11 1 9 ⟨[(6,rP 1),(10,rO 2 8 3),(13,rI k)],[(0,B.blk 52 [dI b0_0_Course_School,dS b0_0_Course_Code,dI b0_0_Credits,dI b0_0_Grade,dI b0_0_Day,dL 1 eI b0_0_Sources,dI b0_0_Bundle,dL 1 eI b0_0_Path,dI b0_1_Course_School,dS b0_1_Course_Code,dI b0_1_Credits,dI b0_1_Grade,dI b0_1_Day,dL 1 eI b0_1_Sources,dI b0_1_Bundle,dL 1 eI b0_1_Path,dI b0_2_Course_School,dS b0_2_Course_Code,dI b0_2_Credits,dI b0_2_Grade,dI b0_2_Day,dL 1 eI b0_2_Sources,dI b0_2_Bundle,dL 1 eI b0_2_Path]),(1,B.blk 30 [dI s_Worst,dI s_Best,dI s_Pass]),(2,B.row 52 8 [dI left0_Course_School,dS left0_Course_Code,dI left0_Credits,dI left0_Grade,dI left0_Day,dL 1 eI left0_Sources,dI left0_Bundle,dL 1 eI left0_Path,dI left1_Course_School,dS left1_Course_Code,dI left1_Credits,dI left1_Grade,dI left1_Day,dL 1 eI left1_Sources,dI left1_Bundle,dL 1 eI left1_Path,dI left2_Course_School,dS left2_Course_Code,dI left2_Credits,dI left2_Grade,dI left2_Day,dL 1 eI left2_Sources,dI left2_Bundle,dL 1 eI left2_Path])],3,53⟩=(qG (qk (qa.mk (qb.mk b0_0_Course_School b0_0_Course_Code) b0_0_Credits b0_0_Grade b0_0_Day b0_0_Sources b0_0_Bundle b0_0_Path) (qa.mk (qb.mk b0_1_Course_School b0_1_Course_Code) b0_1_Credits b0_1_Grade b0_1_Day b0_1_Sources b0_1_Bundle b0_1_Path) (qa.mk (qb.mk b0_2_Course_School b0_2_Course_Code) b0_2_Credits b0_2_Grade b0_2_Day b0_2_Sources b0_2_Bundle b0_2_Path) (qe.mk s_Worst s_Best s_Pass)) ([(qa.mk (qb.mk left0_Course_School left0_Course_Code) left0_Credits left0_Grade left0_Day left0_Sources left0_Bundle left0_Path),(qa.mk (qb.mk left1_Course_School left1_Course_Code) left1_Credits left1_Grade left1_Day left1_Sources left1_Bundle left1_Path),(qa.mk (qb.mk left2_Course_School left2_Course_Code) left2_Credits left2_Grade left2_Day left2_Sources left2_Bundle left2_Path)],k)).bind (fun(e:List qa)=>some (Exit.exit 2,⟨[(10,rO 1 8 e.length)],[(0,B.blk 52 [dI b0_0_Course_School,dS b0_0_Course_Code,dI b0_0_Credits,dI b0_0_Grade,dI b0_0_Day,dL 1 eI b0_0_Sources,dI b0_0_Bundle,dL 1 eI b0_0_Path,dI b0_1_Course_School,dS b0_1_Course_Code,dI b0_1_Credits,dI b0_1_Grade,dI b0_1_Day,dL 1 eI b0_1_Sources,dI b0_1_Bundle,dL 1 eI b0_1_Path,dI b0_2_Course_School,dS b0_2_Course_Code,dI b0_2_Credits,dI b0_2_Grade,dI b0_2_Day,dL 1 eI b0_2_Sources,dI b0_2_Bundle,dL 1 eI b0_2_Path]),(1,bR 52 8 qc e)],2,53⟩)):=by
 intro left0_Course_School left0_Course_Code left0_Credits left0_Grade left0_Day left0_Sources left0_Bundle left0_Path left1_Course_School left1_Course_Code left1_Credits left1_Grade left1_Day left1_Sources left1_Bundle left1_Path left2_Course_School left2_Course_Code left2_Credits left2_Grade left2_Day left2_Sources left2_Bundle left2_Path b0_0_Course_School b0_0_Course_Code b0_0_Credits b0_0_Grade b0_0_Day b0_0_Sources b0_0_Bundle b0_0_Path b0_1_Course_School b0_1_Course_Code b0_1_Credits b0_1_Grade b0_1_Day b0_1_Sources b0_1_Bundle b0_1_Path b0_2_Course_School b0_2_Course_Code b0_2_Credits b0_2_Grade b0_2_Day b0_2_Sources b0_2_Bundle b0_2_Path s_Worst s_Best s_Pass k;have h:=qS [(qa.mk (qb.mk left0_Course_School left0_Course_Code) left0_Credits left0_Grade left0_Day left0_Sources left0_Bundle left0_Path),(qa.mk (qb.mk left1_Course_School left1_Course_Code) left1_Credits left1_Grade left1_Day left1_Sources left1_Bundle left1_Path),(qa.mk (qb.mk left2_Course_School left2_Course_Code) left2_Credits left2_Grade left2_Day left2_Sources left2_Bundle left2_Path)] ((qa.mk (qb.mk b0_0_Course_School b0_0_Course_Code) b0_0_Credits b0_0_Grade b0_0_Day b0_0_Sources b0_0_Bundle b0_0_Path)).Course.School ((qa.mk (qb.mk b0_0_Course_School b0_0_Course_Code) b0_0_Credits b0_0_Grade b0_0_Day b0_0_Sources b0_0_Bundle b0_0_Path)).Course.Code ((qa.mk (qb.mk b0_0_Course_School b0_0_Course_Code) b0_0_Credits b0_0_Grade b0_0_Day b0_0_Sources b0_0_Bundle b0_0_Path)).Credits ((qa.mk (qb.mk b0_0_Course_School b0_0_Course_Code) b0_0_Credits b0_0_Grade b0_0_Day b0_0_Sources b0_0_Bundle b0_0_Path)).Grade ((qa.mk (qb.mk b0_0_Course_School b0_0_Course_Code) b0_0_Credits b0_0_Grade b0_0_Day b0_0_Sources b0_0_Bundle b0_0_Path)).Day ((qa.mk (qb.mk b0_0_Course_School b0_0_Course_Code) b0_0_Credits b0_0_Grade b0_0_Day b0_0_Sources b0_0_Bundle b0_0_Path)).Sources ((qa.mk (qb.mk b0_0_Course_School b0_0_Course_Code) b0_0_Credits b0_0_Grade b0_0_Day b0_0_Sources b0_0_Bundle b0_0_Path)).Bundle ((qa.mk (qb.mk b0_0_Course_School b0_0_Course_Code) b0_0_Credits b0_0_Grade b0_0_Day b0_0_Sources b0_0_Bundle b0_0_Path)).Path ((qa.mk (qb.mk b0_1_Course_School b0_1_Course_Code) b0_1_Credits b0_1_Grade b0_1_Day b0_1_Sources b0_1_Bundle b0_1_Path)).Course.School ((qa.mk (qb.mk b0_1_Course_School b0_1_Course_Code) b0_1_Credits b0_1_Grade b0_1_Day b0_1_Sources b0_1_Bundle b0_1_Path)).Course.Code ((qa.mk (qb.mk b0_1_Course_School b0_1_Course_Code) b0_1_Credits b0_1_Grade b0_1_Day b0_1_Sources b0_1_Bundle b0_1_Path)).Credits ((qa.mk (qb.mk b0_1_Course_School b0_1_Course_Code) b0_1_Credits b0_1_Grade b0_1_Day b0_1_Sources b0_1_Bundle b0_1_Path)).Grade ((qa.mk (qb.mk b0_1_Course_School b0_1_Course_Code) b0_1_Credits b0_1_Grade b0_1_Day b0_1_Sources b0_1_Bundle b0_1_Path)).Day ((qa.mk (qb.mk b0_1_Course_School b0_1_Course_Code) b0_1_Credits b0_1_Grade b0_1_Day b0_1_Sources b0_1_Bundle b0_1_Path)).Sources ((qa.mk (qb.mk b0_1_Course_School b0_1_Course_Code) b0_1_Credits b0_1_Grade b0_1_Day b0_1_Sources b0_1_Bundle b0_1_Path)).Bundle ((qa.mk (qb.mk b0_1_Course_School b0_1_Course_Code) b0_1_Credits b0_1_Grade b0_1_Day b0_1_Sources b0_1_Bundle b0_1_Path)).Path ((qa.mk (qb.mk b0_2_Course_School b0_2_Course_Code) b0_2_Credits b0_2_Grade b0_2_Day b0_2_Sources b0_2_Bundle b0_2_Path)).Course.School ((qa.mk (qb.mk b0_2_Course_School b0_2_Course_Code) b0_2_Credits b0_2_Grade b0_2_Day b0_2_Sources b0_2_Bundle b0_2_Path)).Course.Code ((qa.mk (qb.mk b0_2_Course_School b0_2_Course_Code) b0_2_Credits b0_2_Grade b0_2_Day b0_2_Sources b0_2_Bundle b0_2_Path)).Credits ((qa.mk (qb.mk b0_2_Course_School b0_2_Course_Code) b0_2_Credits b0_2_Grade b0_2_Day b0_2_Sources b0_2_Bundle b0_2_Path)).Grade ((qa.mk (qb.mk b0_2_Course_School b0_2_Course_Code) b0_2_Credits b0_2_Grade b0_2_Day b0_2_Sources b0_2_Bundle b0_2_Path)).Day ((qa.mk (qb.mk b0_2_Course_School b0_2_Course_Code) b0_2_Credits b0_2_Grade b0_2_Day b0_2_Sources b0_2_Bundle b0_2_Path)).Sources ((qa.mk (qb.mk b0_2_Course_School b0_2_Course_Code) b0_2_Credits b0_2_Grade b0_2_Day b0_2_Sources b0_2_Bundle b0_2_Path)).Bundle ((qa.mk (qb.mk b0_2_Course_School b0_2_Course_Code) b0_2_Credits b0_2_Grade b0_2_Day b0_2_Sources b0_2_Bundle b0_2_Path)).Path ((qe.mk s_Worst s_Best s_Pass)).Worst ((qe.mk s_Worst s_Best s_Pass)).Best ((qe.mk s_Worst s_Best s_Pass)).Pass k _ rfl
 first
  | exact h
  | (simp only[rL,dL,bR,bZ,Nat.reduceAdd] at h;exact h)
theorem J0:∀(left0_Course_School:Int) (left0_Course_Code:ByteArray) (left0_Credits left0_Grade left0_Day:Int) (left0_Sources:List Int) (left0_Bundle:Int) (left0_Path:List Int) (left1_Course_School:Int) (left1_Course_Code:ByteArray) (left1_Credits left1_Grade left1_Day:Int) (left1_Sources:List Int) (left1_Bundle:Int) (left1_Path:List Int) (b0_0_Course_School:Int) (b0_0_Course_Code:ByteArray) (b0_0_Credits b0_0_Grade b0_0_Day:Int) (b0_0_Sources:List Int) (b0_0_Bundle:Int) (b0_0_Path:List Int) (b0_1_Course_School:Int) (b0_1_Course_Code:ByteArray) (b0_1_Credits b0_1_Grade b0_1_Day:Int) (b0_1_Sources:List Int) (b0_1_Bundle:Int) (b0_1_Path:List Int) (b0_2_Course_School:Int) (b0_2_Course_Code:ByteArray) (b0_2_Credits b0_2_Grade b0_2_Day:Int) (b0_2_Sources:List Int) (b0_2_Bundle:Int) (b0_2_Path:List Int) (s_Worst s_Best s_Pass k:Int),XL2 evo 11 1 9 ⟨[(6,rP 1),(10,rO 2 8 2),(13,rI k)],[(0,B.blk 52 [dI b0_0_Course_School,dS b0_0_Course_Code,dI b0_0_Credits,dI b0_0_Grade,dI b0_0_Day,dL 1 eI b0_0_Sources,dI b0_0_Bundle,dL 1 eI b0_0_Path,dI b0_1_Course_School,dS b0_1_Course_Code,dI b0_1_Credits,dI b0_1_Grade,dI b0_1_Day,dL 1 eI b0_1_Sources,dI b0_1_Bundle,dL 1 eI b0_1_Path,dI b0_2_Course_School,dS b0_2_Course_Code,dI b0_2_Credits,dI b0_2_Grade,dI b0_2_Day,dL 1 eI b0_2_Sources,dI b0_2_Bundle,dL 1 eI b0_2_Path]),(1,B.blk 30 [dI s_Worst,dI s_Best,dI s_Pass]),(2,B.row 52 8 [dI left0_Course_School,dS left0_Course_Code,dI left0_Credits,dI left0_Grade,dI left0_Day,dL 1 eI left0_Sources,dI left0_Bundle,dL 1 eI left0_Path,dI left1_Course_School,dS left1_Course_Code,dI left1_Credits,dI left1_Grade,dI left1_Day,dL 1 eI left1_Sources,dI left1_Bundle,dL 1 eI left1_Path])],3,53⟩=(qG (qk (qa.mk (qb.mk b0_0_Course_School b0_0_Course_Code) b0_0_Credits b0_0_Grade b0_0_Day b0_0_Sources b0_0_Bundle b0_0_Path) (qa.mk (qb.mk b0_1_Course_School b0_1_Course_Code) b0_1_Credits b0_1_Grade b0_1_Day b0_1_Sources b0_1_Bundle b0_1_Path) (qa.mk (qb.mk b0_2_Course_School b0_2_Course_Code) b0_2_Credits b0_2_Grade b0_2_Day b0_2_Sources b0_2_Bundle b0_2_Path) (qe.mk s_Worst s_Best s_Pass)) ([(qa.mk (qb.mk left0_Course_School left0_Course_Code) left0_Credits left0_Grade left0_Day left0_Sources left0_Bundle left0_Path),(qa.mk (qb.mk left1_Course_School left1_Course_Code) left1_Credits left1_Grade left1_Day left1_Sources left1_Bundle left1_Path)],k)).bind (fun(e:List qa)=>some (Exit.exit 2,⟨[(10,rO 1 8 e.length)],[(0,B.blk 52 [dI b0_0_Course_School,dS b0_0_Course_Code,dI b0_0_Credits,dI b0_0_Grade,dI b0_0_Day,dL 1 eI b0_0_Sources,dI b0_0_Bundle,dL 1 eI b0_0_Path,dI b0_1_Course_School,dS b0_1_Course_Code,dI b0_1_Credits,dI b0_1_Grade,dI b0_1_Day,dL 1 eI b0_1_Sources,dI b0_1_Bundle,dL 1 eI b0_1_Path,dI b0_2_Course_School,dS b0_2_Course_Code,dI b0_2_Credits,dI b0_2_Grade,dI b0_2_Day,dL 1 eI b0_2_Sources,dI b0_2_Bundle,dL 1 eI b0_2_Path]),(1,bR 52 8 qc e)],2,53⟩)):=by
 intro left0_Course_School left0_Course_Code left0_Credits left0_Grade left0_Day left0_Sources left0_Bundle left0_Path left1_Course_School left1_Course_Code left1_Credits left1_Grade left1_Day left1_Sources left1_Bundle left1_Path b0_0_Course_School b0_0_Course_Code b0_0_Credits b0_0_Grade b0_0_Day b0_0_Sources b0_0_Bundle b0_0_Path b0_1_Course_School b0_1_Course_Code b0_1_Credits b0_1_Grade b0_1_Day b0_1_Sources b0_1_Bundle b0_1_Path b0_2_Course_School b0_2_Course_Code b0_2_Credits b0_2_Grade b0_2_Day b0_2_Sources b0_2_Bundle b0_2_Path s_Worst s_Best s_Pass k;have h:=qS [(qa.mk (qb.mk left0_Course_School left0_Course_Code) left0_Credits left0_Grade left0_Day left0_Sources left0_Bundle left0_Path),(qa.mk (qb.mk left1_Course_School left1_Course_Code) left1_Credits left1_Grade left1_Day left1_Sources left1_Bundle left1_Path)] ((qa.mk (qb.mk b0_0_Course_School b0_0_Course_Code) b0_0_Credits b0_0_Grade b0_0_Day b0_0_Sources b0_0_Bundle b0_0_Path)).Course.School ((qa.mk (qb.mk b0_0_Course_School b0_0_Course_Code) b0_0_Credits b0_0_Grade b0_0_Day b0_0_Sources b0_0_Bundle b0_0_Path)).Course.Code ((qa.mk (qb.mk b0_0_Course_School b0_0_Course_Code) b0_0_Credits b0_0_Grade b0_0_Day b0_0_Sources b0_0_Bundle b0_0_Path)).Credits ((qa.mk (qb.mk b0_0_Course_School b0_0_Course_Code) b0_0_Credits b0_0_Grade b0_0_Day b0_0_Sources b0_0_Bundle b0_0_Path)).Grade ((qa.mk (qb.mk b0_0_Course_School b0_0_Course_Code) b0_0_Credits b0_0_Grade b0_0_Day b0_0_Sources b0_0_Bundle b0_0_Path)).Day ((qa.mk (qb.mk b0_0_Course_School b0_0_Course_Code) b0_0_Credits b0_0_Grade b0_0_Day b0_0_Sources b0_0_Bundle b0_0_Path)).Sources ((qa.mk (qb.mk b0_0_Course_School b0_0_Course_Code) b0_0_Credits b0_0_Grade b0_0_Day b0_0_Sources b0_0_Bundle b0_0_Path)).Bundle ((qa.mk (qb.mk b0_0_Course_School b0_0_Course_Code) b0_0_Credits b0_0_Grade b0_0_Day b0_0_Sources b0_0_Bundle b0_0_Path)).Path ((qa.mk (qb.mk b0_1_Course_School b0_1_Course_Code) b0_1_Credits b0_1_Grade b0_1_Day b0_1_Sources b0_1_Bundle b0_1_Path)).Course.School ((qa.mk (qb.mk b0_1_Course_School b0_1_Course_Code) b0_1_Credits b0_1_Grade b0_1_Day b0_1_Sources b0_1_Bundle b0_1_Path)).Course.Code ((qa.mk (qb.mk b0_1_Course_School b0_1_Course_Code) b0_1_Credits b0_1_Grade b0_1_Day b0_1_Sources b0_1_Bundle b0_1_Path)).Credits ((qa.mk (qb.mk b0_1_Course_School b0_1_Course_Code) b0_1_Credits b0_1_Grade b0_1_Day b0_1_Sources b0_1_Bundle b0_1_Path)).Grade ((qa.mk (qb.mk b0_1_Course_School b0_1_Course_Code) b0_1_Credits b0_1_Grade b0_1_Day b0_1_Sources b0_1_Bundle b0_1_Path)).Day ((qa.mk (qb.mk b0_1_Course_School b0_1_Course_Code) b0_1_Credits b0_1_Grade b0_1_Day b0_1_Sources b0_1_Bundle b0_1_Path)).Sources ((qa.mk (qb.mk b0_1_Course_School b0_1_Course_Code) b0_1_Credits b0_1_Grade b0_1_Day b0_1_Sources b0_1_Bundle b0_1_Path)).Bundle ((qa.mk (qb.mk b0_1_Course_School b0_1_Course_Code) b0_1_Credits b0_1_Grade b0_1_Day b0_1_Sources b0_1_Bundle b0_1_Path)).Path ((qa.mk (qb.mk b0_2_Course_School b0_2_Course_Code) b0_2_Credits b0_2_Grade b0_2_Day b0_2_Sources b0_2_Bundle b0_2_Path)).Course.School ((qa.mk (qb.mk b0_2_Course_School b0_2_Course_Code) b0_2_Credits b0_2_Grade b0_2_Day b0_2_Sources b0_2_Bundle b0_2_Path)).Course.Code ((qa.mk (qb.mk b0_2_Course_School b0_2_Course_Code) b0_2_Credits b0_2_Grade b0_2_Day b0_2_Sources b0_2_Bundle b0_2_Path)).Credits ((qa.mk (qb.mk b0_2_Course_School b0_2_Course_Code) b0_2_Credits b0_2_Grade b0_2_Day b0_2_Sources b0_2_Bundle b0_2_Path)).Grade ((qa.mk (qb.mk b0_2_Course_School b0_2_Course_Code) b0_2_Credits b0_2_Grade b0_2_Day b0_2_Sources b0_2_Bundle b0_2_Path)).Day ((qa.mk (qb.mk b0_2_Course_School b0_2_Course_Code) b0_2_Credits b0_2_Grade b0_2_Day b0_2_Sources b0_2_Bundle b0_2_Path)).Sources ((qa.mk (qb.mk b0_2_Course_School b0_2_Course_Code) b0_2_Credits b0_2_Grade b0_2_Day b0_2_Sources b0_2_Bundle b0_2_Path)).Bundle ((qa.mk (qb.mk b0_2_Course_School b0_2_Course_Code) b0_2_Credits b0_2_Grade b0_2_Day b0_2_Sources b0_2_Bundle b0_2_Path)).Path ((qe.mk s_Worst s_Best s_Pass)).Worst ((qe.mk s_Worst s_Best s_Pass)).Best ((qe.mk s_Worst s_Best s_Pass)).Pass k _ rfl
 first
  | exact h
  | (simp only[rL,dL,bR,bZ,Nat.reduceAdd] at h;exact h)
theorem ZV:∀(left0_Course_School:Int) (left0_Course_Code:ByteArray) (left0_Credits left0_Grade left0_Day:Int) (left0_Sources:List Int) (left0_Bundle:Int) (left0_Path:List Int) (b0_0_Course_School:Int) (b0_0_Course_Code:ByteArray) (b0_0_Credits b0_0_Grade b0_0_Day:Int) (b0_0_Sources:List Int) (b0_0_Bundle:Int) (b0_0_Path:List Int) (b0_1_Course_School:Int) (b0_1_Course_Code:ByteArray) (b0_1_Credits b0_1_Grade b0_1_Day:Int) (b0_1_Sources:List Int) (b0_1_Bundle:Int) (b0_1_Path:List Int) (b0_2_Course_School:Int) (b0_2_Course_Code:ByteArray) (b0_2_Credits b0_2_Grade b0_2_Day:Int) (b0_2_Sources:List Int) (b0_2_Bundle:Int) (b0_2_Path:List Int) (s_Worst s_Best s_Pass k:Int),XL2 evo 11 1 9 ⟨[(6,rP 1),(10,rO 2 8 1),(13,rI k)],[(0,B.blk 52 [dI b0_0_Course_School,dS b0_0_Course_Code,dI b0_0_Credits,dI b0_0_Grade,dI b0_0_Day,dL 1 eI b0_0_Sources,dI b0_0_Bundle,dL 1 eI b0_0_Path,dI b0_1_Course_School,dS b0_1_Course_Code,dI b0_1_Credits,dI b0_1_Grade,dI b0_1_Day,dL 1 eI b0_1_Sources,dI b0_1_Bundle,dL 1 eI b0_1_Path,dI b0_2_Course_School,dS b0_2_Course_Code,dI b0_2_Credits,dI b0_2_Grade,dI b0_2_Day,dL 1 eI b0_2_Sources,dI b0_2_Bundle,dL 1 eI b0_2_Path]),(1,B.blk 30 [dI s_Worst,dI s_Best,dI s_Pass]),(2,B.row 52 8 [dI left0_Course_School,dS left0_Course_Code,dI left0_Credits,dI left0_Grade,dI left0_Day,dL 1 eI left0_Sources,dI left0_Bundle,dL 1 eI left0_Path])],3,53⟩=(qG (qk (qa.mk (qb.mk b0_0_Course_School b0_0_Course_Code) b0_0_Credits b0_0_Grade b0_0_Day b0_0_Sources b0_0_Bundle b0_0_Path) (qa.mk (qb.mk b0_1_Course_School b0_1_Course_Code) b0_1_Credits b0_1_Grade b0_1_Day b0_1_Sources b0_1_Bundle b0_1_Path) (qa.mk (qb.mk b0_2_Course_School b0_2_Course_Code) b0_2_Credits b0_2_Grade b0_2_Day b0_2_Sources b0_2_Bundle b0_2_Path) (qe.mk s_Worst s_Best s_Pass)) ([(qa.mk (qb.mk left0_Course_School left0_Course_Code) left0_Credits left0_Grade left0_Day left0_Sources left0_Bundle left0_Path)],k)).bind (fun(e:List qa)=>some (Exit.exit 2,⟨[(10,rO 1 8 e.length)],[(0,B.blk 52 [dI b0_0_Course_School,dS b0_0_Course_Code,dI b0_0_Credits,dI b0_0_Grade,dI b0_0_Day,dL 1 eI b0_0_Sources,dI b0_0_Bundle,dL 1 eI b0_0_Path,dI b0_1_Course_School,dS b0_1_Course_Code,dI b0_1_Credits,dI b0_1_Grade,dI b0_1_Day,dL 1 eI b0_1_Sources,dI b0_1_Bundle,dL 1 eI b0_1_Path,dI b0_2_Course_School,dS b0_2_Course_Code,dI b0_2_Credits,dI b0_2_Grade,dI b0_2_Day,dL 1 eI b0_2_Sources,dI b0_2_Bundle,dL 1 eI b0_2_Path]),(1,bR 52 8 qc e)],2,53⟩)):=by
 intro left0_Course_School left0_Course_Code left0_Credits left0_Grade left0_Day left0_Sources left0_Bundle left0_Path b0_0_Course_School b0_0_Course_Code b0_0_Credits b0_0_Grade b0_0_Day b0_0_Sources b0_0_Bundle b0_0_Path b0_1_Course_School b0_1_Course_Code b0_1_Credits b0_1_Grade b0_1_Day b0_1_Sources b0_1_Bundle b0_1_Path b0_2_Course_School b0_2_Course_Code b0_2_Credits b0_2_Grade b0_2_Day b0_2_Sources b0_2_Bundle b0_2_Path s_Worst s_Best s_Pass k;have h:=qS [(qa.mk (qb.mk left0_Course_School left0_Course_Code) left0_Credits left0_Grade left0_Day left0_Sources left0_Bundle left0_Path)] ((qa.mk (qb.mk b0_0_Course_School b0_0_Course_Code) b0_0_Credits b0_0_Grade b0_0_Day b0_0_Sources b0_0_Bundle b0_0_Path)).Course.School ((qa.mk (qb.mk b0_0_Course_School b0_0_Course_Code) b0_0_Credits b0_0_Grade b0_0_Day b0_0_Sources b0_0_Bundle b0_0_Path)).Course.Code ((qa.mk (qb.mk b0_0_Course_School b0_0_Course_Code) b0_0_Credits b0_0_Grade b0_0_Day b0_0_Sources b0_0_Bundle b0_0_Path)).Credits ((qa.mk (qb.mk b0_0_Course_School b0_0_Course_Code) b0_0_Credits b0_0_Grade b0_0_Day b0_0_Sources b0_0_Bundle b0_0_Path)).Grade ((qa.mk (qb.mk b0_0_Course_School b0_0_Course_Code) b0_0_Credits b0_0_Grade b0_0_Day b0_0_Sources b0_0_Bundle b0_0_Path)).Day ((qa.mk (qb.mk b0_0_Course_School b0_0_Course_Code) b0_0_Credits b0_0_Grade b0_0_Day b0_0_Sources b0_0_Bundle b0_0_Path)).Sources ((qa.mk (qb.mk b0_0_Course_School b0_0_Course_Code) b0_0_Credits b0_0_Grade b0_0_Day b0_0_Sources b0_0_Bundle b0_0_Path)).Bundle ((qa.mk (qb.mk b0_0_Course_School b0_0_Course_Code) b0_0_Credits b0_0_Grade b0_0_Day b0_0_Sources b0_0_Bundle b0_0_Path)).Path ((qa.mk (qb.mk b0_1_Course_School b0_1_Course_Code) b0_1_Credits b0_1_Grade b0_1_Day b0_1_Sources b0_1_Bundle b0_1_Path)).Course.School ((qa.mk (qb.mk b0_1_Course_School b0_1_Course_Code) b0_1_Credits b0_1_Grade b0_1_Day b0_1_Sources b0_1_Bundle b0_1_Path)).Course.Code ((qa.mk (qb.mk b0_1_Course_School b0_1_Course_Code) b0_1_Credits b0_1_Grade b0_1_Day b0_1_Sources b0_1_Bundle b0_1_Path)).Credits ((qa.mk (qb.mk b0_1_Course_School b0_1_Course_Code) b0_1_Credits b0_1_Grade b0_1_Day b0_1_Sources b0_1_Bundle b0_1_Path)).Grade ((qa.mk (qb.mk b0_1_Course_School b0_1_Course_Code) b0_1_Credits b0_1_Grade b0_1_Day b0_1_Sources b0_1_Bundle b0_1_Path)).Day ((qa.mk (qb.mk b0_1_Course_School b0_1_Course_Code) b0_1_Credits b0_1_Grade b0_1_Day b0_1_Sources b0_1_Bundle b0_1_Path)).Sources ((qa.mk (qb.mk b0_1_Course_School b0_1_Course_Code) b0_1_Credits b0_1_Grade b0_1_Day b0_1_Sources b0_1_Bundle b0_1_Path)).Bundle ((qa.mk (qb.mk b0_1_Course_School b0_1_Course_Code) b0_1_Credits b0_1_Grade b0_1_Day b0_1_Sources b0_1_Bundle b0_1_Path)).Path ((qa.mk (qb.mk b0_2_Course_School b0_2_Course_Code) b0_2_Credits b0_2_Grade b0_2_Day b0_2_Sources b0_2_Bundle b0_2_Path)).Course.School ((qa.mk (qb.mk b0_2_Course_School b0_2_Course_Code) b0_2_Credits b0_2_Grade b0_2_Day b0_2_Sources b0_2_Bundle b0_2_Path)).Course.Code ((qa.mk (qb.mk b0_2_Course_School b0_2_Course_Code) b0_2_Credits b0_2_Grade b0_2_Day b0_2_Sources b0_2_Bundle b0_2_Path)).Credits ((qa.mk (qb.mk b0_2_Course_School b0_2_Course_Code) b0_2_Credits b0_2_Grade b0_2_Day b0_2_Sources b0_2_Bundle b0_2_Path)).Grade ((qa.mk (qb.mk b0_2_Course_School b0_2_Course_Code) b0_2_Credits b0_2_Grade b0_2_Day b0_2_Sources b0_2_Bundle b0_2_Path)).Day ((qa.mk (qb.mk b0_2_Course_School b0_2_Course_Code) b0_2_Credits b0_2_Grade b0_2_Day b0_2_Sources b0_2_Bundle b0_2_Path)).Sources ((qa.mk (qb.mk b0_2_Course_School b0_2_Course_Code) b0_2_Credits b0_2_Grade b0_2_Day b0_2_Sources b0_2_Bundle b0_2_Path)).Bundle ((qa.mk (qb.mk b0_2_Course_School b0_2_Course_Code) b0_2_Credits b0_2_Grade b0_2_Day b0_2_Sources b0_2_Bundle b0_2_Path)).Path ((qe.mk s_Worst s_Best s_Pass)).Worst ((qe.mk s_Worst s_Best s_Pass)).Best ((qe.mk s_Worst s_Best s_Pass)).Pass k _ rfl
 first
  | exact h
  | (simp only[rL,dL,bR,bZ,Nat.reduceAdd] at h;exact h)
def zY (l_n:Nat) (p:qf) (s:qe) (day:Int) (l_0:qa) (l_1:qa) (l_2:qa):Option (List qa×Int):=if 0<((l_n:Nat):Int) then if 0<((l_n:Nat):Int) then Option.bind (qD p l_0 day) fun(a:Bool)=>if(!a)=Bool.true then Option.bind (qv l_0) fun(a2:Unit)=>if 1≤maxLen then if 1<((l_n:Nat):Int) then if 1<((l_n:Nat):Int) then Option.bind (qD p l_1 day) fun(a3:Bool)=>if(!a3)=Bool.true then Option.bind (qv l_1) fun(a4:Unit)=>if 2≤maxLen then if 2<((l_n:Nat):Int) then if 2<((l_n:Nat):Int) then Option.bind (qD p l_2 day) fun(a5:Bool)=>if(!a5)=Bool.true then Option.bind (qv l_2) fun(a6:Unit)=>if 3≤maxLen then if 3<((l_n:Nat):Int) then none else Option.bind (qG (qk l_0 l_1 l_2 s) ([l_0,l_1,l_2],2)) fun(a7:List qa)=>if 10<((a7.length:Nat):Int) then some ([],2) else some (a7,0) else none else if 3<((l_n:Nat):Int) then none else Option.bind (qG (qk l_0 l_1 l_2 s) ([l_0,l_1],1)) fun(a8:List qa)=>if 10<((a8.length:Nat):Int) then some ([],2) else some (a8,0) else none else Option.bind (qG (qk l_0 l_1 l_2 s) ([l_0,l_1],1)) fun(a9:List qa)=>if 10<((a9.length:Nat):Int) then some ([],2) else some (a9,0) else none else if 2<((l_n:Nat):Int) then if 2<((l_n:Nat):Int) then Option.bind (qD p l_2 day) fun(a10:Bool)=>if(!a10)=Bool.true then Option.bind (qv l_2) fun(a11:Unit)=>if 2≤maxLen then if 3<((l_n:Nat):Int) then none else Option.bind (qG (qk l_0 l_1 l_2 s) ([l_0,l_2],1)) fun(a12:List qa)=>if 10<((a12.length:Nat):Int) then some ([],2) else some (a12,0) else none else if 3<((l_n:Nat):Int) then none else Option.bind (qG (qk l_0 l_1 l_2 s) ([l_0],0)) fun(a13:List qa)=>if 10<((a13.length:Nat):Int) then some ([],2) else some (a13,0) else none else Option.bind (qG (qk l_0 l_1 l_2 s) ([l_0],0)) fun(a14:List qa)=>if 10<((a14.length:Nat):Int) then some ([],2) else some (a14,0) else none else Option.bind (qG (qk l_0 l_1 l_2 s) ([l_0],0)) fun(a15:List qa)=>if 10<((a15.length:Nat):Int) then some ([],2) else some (a15,0) else none else if 1<((l_n:Nat):Int) then if 1<((l_n:Nat):Int) then Option.bind (qD p l_1 day) fun(a16:Bool)=>if(!a16)=Bool.true then Option.bind (qv l_1) fun(a17:Unit)=>if 1≤maxLen then if 2<((l_n:Nat):Int) then if 2<((l_n:Nat):Int) then Option.bind (qD p l_2 day) fun(a18:Bool)=>if(!a18)=Bool.true then Option.bind (qv l_2) fun(a19:Unit)=>if 2≤maxLen then if 3<((l_n:Nat):Int) then none else Option.bind (qG (qk l_0 l_1 l_2 s) ([l_1,l_2],1)) fun(a20:List qa)=>if 10<((a20.length:Nat):Int) then some ([],2) else some (a20,0) else none else if 3<((l_n:Nat):Int) then none else Option.bind (qG (qk l_0 l_1 l_2 s) ([l_1],0)) fun(a21:List qa)=>if 10<((a21.length:Nat):Int) then some ([],2) else some (a21,0) else none else Option.bind (qG (qk l_0 l_1 l_2 s) ([l_1],0)) fun(a22:List qa)=>if 10<((a22.length:Nat):Int) then some ([],2) else some (a22,0) else none else if 2<((l_n:Nat):Int) then if 2<((l_n:Nat):Int) then Option.bind (qD p l_2 day) fun(a23:Bool)=>if(!a23)=Bool.true then Option.bind (qv l_2) fun(a24:Unit)=>if 1≤maxLen then if 3<((l_n:Nat):Int) then none else Option.bind (qG (qk l_0 l_1 l_2 s) ([l_2],0)) fun(a25:List qa)=>if 10<((a25.length:Nat):Int) then some ([],2) else some (a25,0) else none else if 3<((l_n:Nat):Int) then none else Option.bind (qG (qk l_0 l_1 l_2 s) ([],(-1))) fun(a26:List qa)=>if 10<((a26.length:Nat):Int) then some ([],2) else some (a26,0) else none else Option.bind (qG (qk l_0 l_1 l_2 s) ([],(-1))) fun(a27:List qa)=>if 10<((a27.length:Nat):Int) then some ([],2) else some (a27,0) else none else Option.bind (qG (qk l_0 l_1 l_2 s) ([],(-1))) fun(a28:List qa)=>if 10<((a28.length:Nat):Int) then some ([],2) else some (a28,0) else none else Option.bind (qG (qk l_0 l_1 l_2 s) ([],(-1))) fun(a29:List qa)=>if 10<((a29.length:Nat):Int) then some ([],2) else some (a29,0)
theorem q0V:∀(l_n:Nat) (p_School p_Id p_Version p_From:Int) (p_Name:ByteArray) (p_Need_Kind p_Need_N p_Need_Min:Int) (p_Need_Set:List qb) (p_Need_L:List qg) (p_Total p_Own p_Age:Int) (p_Exclude:List (QF qb)) (s_Worst s_Best s_Pass day l_0_Course_School:Int) (l_0_Course_Code:ByteArray) (l_0_Credits l_0_Grade l_0_Day:Int) (l_0_Sources:List Int) (l_0_Bundle:Int) (l_0_Path:List Int) (l_1_Course_School:Int) (l_1_Course_Code:ByteArray) (l_1_Credits l_1_Grade l_1_Day:Int) (l_1_Sources:List Int) (l_1_Bundle:Int) (l_1_Path:List Int) (l_2_Course_School:Int) (l_2_Course_Code:ByteArray) (l_2_Credits l_2_Grade l_2_Day:Int) (l_2_Sources:List Int) (l_2_Bundle:Int) (l_2_Path:List Int),ev 11 1 [rO 0 8 l_n,R.agg [dI p_School,dI p_Id,dI p_Version,dI p_From,dS p_Name,dI p_Need_Kind,dI p_Need_N,dI p_Need_Min,dL 2 qj p_Need_Set,dL 5 qq p_Need_L,dI p_Total,dI p_Own,dI p_Age,dL 4 (eA2 qj) p_Exclude],R.agg [dI s_Worst,dI s_Best,dI s_Pass],rI day] [(0,B.blk 52 [dI l_0_Course_School,dS l_0_Course_Code,dI l_0_Credits,dI l_0_Grade,dI l_0_Day,dL 1 eI l_0_Sources,dI l_0_Bundle,dL 1 eI l_0_Path,dI l_1_Course_School,dS l_1_Course_Code,dI l_1_Credits,dI l_1_Grade,dI l_1_Day,dL 1 eI l_1_Sources,dI l_1_Bundle,dL 1 eI l_1_Path,dI l_2_Course_School,dS l_2_Course_Code,dI l_2_Credits,dI l_2_Grade,dI l_2_Day,dL 1 eI l_2_Sources,dI l_2_Bundle,dL 1 eI l_2_Path])]=(zY l_n (qf.mk p_School p_Id p_Version p_From p_Name (qg.mk p_Need_Kind p_Need_N p_Need_Min p_Need_Set p_Need_L) p_Total p_Own p_Age p_Exclude) (qe.mk s_Worst s_Best s_Pass) day (qa.mk (qb.mk l_0_Course_School l_0_Course_Code) l_0_Credits l_0_Grade l_0_Day l_0_Sources l_0_Bundle l_0_Path) (qa.mk (qb.mk l_1_Course_School l_1_Course_Code) l_1_Credits l_1_Grade l_1_Day l_1_Sources l_1_Bundle l_1_Path) (qa.mk (qb.mk l_2_Course_School l_2_Course_Code) l_2_Credits l_2_Grade l_2_Day l_2_Sources l_2_Bundle l_2_Path)).bind (fun(e:List qa×Int)=>some (R.tup [rL 8 qc e.1,rI e.2],[(0,B.blk 52 [dI l_0_Course_School,dS l_0_Course_Code,dI l_0_Credits,dI l_0_Grade,dI l_0_Day,dL 1 eI l_0_Sources,dI l_0_Bundle,dL 1 eI l_0_Path,dI l_1_Course_School,dS l_1_Course_Code,dI l_1_Credits,dI l_1_Grade,dI l_1_Day,dL 1 eI l_1_Sources,dI l_1_Bundle,dL 1 eI l_1_Path,dI l_2_Course_School,dS l_2_Course_Code,dI l_2_Credits,dI l_2_Grade,dI l_2_Day,dL 1 eI l_2_Sources,dI l_2_Bundle,dL 1 eI l_2_Path])])):=
 fun l_n p_School p_Id p_Version p_From p_Name p_Need_Kind p_Need_N p_Need_Min p_Need_Set p_Need_L p_Total p_Own p_Age p_Exclude s_Worst s_Best s_Pass day l_0_Course_School l_0_Course_Code l_0_Credits l_0_Grade l_0_Day l_0_Sources l_0_Bundle l_0_Path l_1_Course_School l_1_Course_Code l_1_Credits l_1_Grade l_1_Day l_1_Sources l_1_Bundle l_1_Path l_2_Course_School l_2_Course_Code l_2_Credits l_2_Grade l_2_Day l_2_Sources l_2_Bundle l_2_Path=>by
  rw[qL qjl qoF.2.2.2 qnQ]
  have:=qnw;have:=@JY;have:=@ZP;have:=@J9;have:=@ZZ;have:=@ZS;have:=@ZR;have:=@zY.eq_1;have:=fun(E:Orc) (k:Nat) (s:S)=>q71 (E:=E) (k:=k) (s:=s) qg7 qfF;have:=@q7O.eq_1;have:=@q3A;have:=@q79;have:=@qcX;have:=@q6H;have:=@qcN;have:=@q72;have:=@q9X;exact gA
theorem JS:∀(p_School p_Id p_Version p_From:Int) (p_Name:ByteArray) (p_Need_Kind p_Need_N p_Need_Min p_Total p_Own p_Age l_0_Course_School:Int) (l_0_Course_Code:ByteArray) (l_0_Credits l_0_Grade l_0_Day l_0_Sources0 l_0_Bundle l_1_Course_School:Int) (l_1_Course_Code:ByteArray) (l_1_Credits l_1_Grade l_1_Day l_1_Sources0 l_1_Bundle l_2_Course_School:Int) (l_2_Course_Code:ByteArray) (l_2_Credits l_2_Grade l_2_Day l_2_Sources0 l_2_Bundle:Int) (l_n:Nat) (s_Worst s_Best s_Pass day:Int),ev 11 1 [rO 0 8 l_n,R.agg [dI p_School,dI p_Id,dI p_Version,dI p_From,dS p_Name,dI p_Need_Kind,dI p_Need_N,dI p_Need_Min,C.d (D.sl 2 0 []),C.d (D.sl 5 0 []),dI p_Total,dI p_Own,dI p_Age,C.d (D.sl 4 0 [])],R.agg [dI s_Worst,dI s_Best,dI s_Pass],rI day] [(0,B.blk 52 [dI l_0_Course_School,dS l_0_Course_Code,dI l_0_Credits,dI l_0_Grade,dI l_0_Day,C.d (D.sl 1 1 [D.int .i64 l_0_Sources0]),dI l_0_Bundle,C.d (D.sl 1 0 []),dI l_1_Course_School,dS l_1_Course_Code,dI l_1_Credits,dI l_1_Grade,dI l_1_Day,C.d (D.sl 1 1 [D.int .i64 l_1_Sources0]),dI l_1_Bundle,C.d (D.sl 1 0 []),dI l_2_Course_School,dS l_2_Course_Code,dI l_2_Credits,dI l_2_Grade,dI l_2_Day,C.d (D.sl 1 1 [D.int .i64 l_2_Sources0]),dI l_2_Bundle,C.d (D.sl 1 0 [])])]=(zY l_n (qf.mk p_School p_Id p_Version p_From p_Name (qg.mk p_Need_Kind p_Need_N p_Need_Min [] []) p_Total p_Own p_Age []) (qe.mk s_Worst s_Best s_Pass) day (qa.mk (qb.mk l_0_Course_School l_0_Course_Code) l_0_Credits l_0_Grade l_0_Day [l_0_Sources0] l_0_Bundle []) (qa.mk (qb.mk l_1_Course_School l_1_Course_Code) l_1_Credits l_1_Grade l_1_Day [l_1_Sources0] l_1_Bundle []) (qa.mk (qb.mk l_2_Course_School l_2_Course_Code) l_2_Credits l_2_Grade l_2_Day [l_2_Sources0] l_2_Bundle [])).bind (fun(e:List qa×Int)=>some (R.tup [rL 8 qc e.1,rI e.2],[(0,B.blk 52 [dI l_0_Course_School,dS l_0_Course_Code,dI l_0_Credits,dI l_0_Grade,dI l_0_Day,C.d (D.sl 1 [l_0_Sources0].length ([l_0_Sources0].flatMap eI)),dI l_0_Bundle,C.d (D.sl 1 ([]:List Int).length (([]:List Int).flatMap eI)),dI l_1_Course_School,dS l_1_Course_Code,dI l_1_Credits,dI l_1_Grade,dI l_1_Day,C.d (D.sl 1 [l_1_Sources0].length ([l_1_Sources0].flatMap eI)),dI l_1_Bundle,C.d (D.sl 1 ([]:List Int).length (([]:List Int).flatMap eI)),dI l_2_Course_School,dS l_2_Course_Code,dI l_2_Credits,dI l_2_Grade,dI l_2_Day,C.d (D.sl 1 [l_2_Sources0].length ([l_2_Sources0].flatMap eI)),dI l_2_Bundle,C.d (D.sl 1 ([]:List Int).length (([]:List Int).flatMap eI))])])):=by
 intro p_School p_Id p_Version p_From p_Name p_Need_Kind p_Need_N p_Need_Min p_Total p_Own p_Age l_0_Course_School l_0_Course_Code l_0_Credits l_0_Grade l_0_Day l_0_Sources0 l_0_Bundle l_1_Course_School l_1_Course_Code l_1_Credits l_1_Grade l_1_Day l_1_Sources0 l_1_Bundle l_2_Course_School l_2_Course_Code l_2_Credits l_2_Grade l_2_Day l_2_Sources0 l_2_Bundle l_n s_Worst s_Best s_Pass day;have h:=q0V l_n ((qf.mk p_School p_Id p_Version p_From p_Name (qg.mk p_Need_Kind p_Need_N p_Need_Min [] []) p_Total p_Own p_Age [])).School ((qf.mk p_School p_Id p_Version p_From p_Name (qg.mk p_Need_Kind p_Need_N p_Need_Min [] []) p_Total p_Own p_Age [])).Id ((qf.mk p_School p_Id p_Version p_From p_Name (qg.mk p_Need_Kind p_Need_N p_Need_Min [] []) p_Total p_Own p_Age [])).Version ((qf.mk p_School p_Id p_Version p_From p_Name (qg.mk p_Need_Kind p_Need_N p_Need_Min [] []) p_Total p_Own p_Age [])).From ((qf.mk p_School p_Id p_Version p_From p_Name (qg.mk p_Need_Kind p_Need_N p_Need_Min [] []) p_Total p_Own p_Age [])).Name ((qf.mk p_School p_Id p_Version p_From p_Name (qg.mk p_Need_Kind p_Need_N p_Need_Min [] []) p_Total p_Own p_Age [])).Need.Kind ((qf.mk p_School p_Id p_Version p_From p_Name (qg.mk p_Need_Kind p_Need_N p_Need_Min [] []) p_Total p_Own p_Age [])).Need.N ((qf.mk p_School p_Id p_Version p_From p_Name (qg.mk p_Need_Kind p_Need_N p_Need_Min [] []) p_Total p_Own p_Age [])).Need.Min ((qf.mk p_School p_Id p_Version p_From p_Name (qg.mk p_Need_Kind p_Need_N p_Need_Min [] []) p_Total p_Own p_Age [])).Need.Set ((qf.mk p_School p_Id p_Version p_From p_Name (qg.mk p_Need_Kind p_Need_N p_Need_Min [] []) p_Total p_Own p_Age [])).Need.L ((qf.mk p_School p_Id p_Version p_From p_Name (qg.mk p_Need_Kind p_Need_N p_Need_Min [] []) p_Total p_Own p_Age [])).Total ((qf.mk p_School p_Id p_Version p_From p_Name (qg.mk p_Need_Kind p_Need_N p_Need_Min [] []) p_Total p_Own p_Age [])).Own ((qf.mk p_School p_Id p_Version p_From p_Name (qg.mk p_Need_Kind p_Need_N p_Need_Min [] []) p_Total p_Own p_Age [])).Age ((qf.mk p_School p_Id p_Version p_From p_Name (qg.mk p_Need_Kind p_Need_N p_Need_Min [] []) p_Total p_Own p_Age [])).Exclude ((qe.mk s_Worst s_Best s_Pass)).Worst ((qe.mk s_Worst s_Best s_Pass)).Best ((qe.mk s_Worst s_Best s_Pass)).Pass day ((qa.mk (qb.mk l_0_Course_School l_0_Course_Code) l_0_Credits l_0_Grade l_0_Day [l_0_Sources0] l_0_Bundle [])).Course.School ((qa.mk (qb.mk l_0_Course_School l_0_Course_Code) l_0_Credits l_0_Grade l_0_Day [l_0_Sources0] l_0_Bundle [])).Course.Code ((qa.mk (qb.mk l_0_Course_School l_0_Course_Code) l_0_Credits l_0_Grade l_0_Day [l_0_Sources0] l_0_Bundle [])).Credits ((qa.mk (qb.mk l_0_Course_School l_0_Course_Code) l_0_Credits l_0_Grade l_0_Day [l_0_Sources0] l_0_Bundle [])).Grade ((qa.mk (qb.mk l_0_Course_School l_0_Course_Code) l_0_Credits l_0_Grade l_0_Day [l_0_Sources0] l_0_Bundle [])).Day ((qa.mk (qb.mk l_0_Course_School l_0_Course_Code) l_0_Credits l_0_Grade l_0_Day [l_0_Sources0] l_0_Bundle [])).Sources ((qa.mk (qb.mk l_0_Course_School l_0_Course_Code) l_0_Credits l_0_Grade l_0_Day [l_0_Sources0] l_0_Bundle [])).Bundle ((qa.mk (qb.mk l_0_Course_School l_0_Course_Code) l_0_Credits l_0_Grade l_0_Day [l_0_Sources0] l_0_Bundle [])).Path ((qa.mk (qb.mk l_1_Course_School l_1_Course_Code) l_1_Credits l_1_Grade l_1_Day [l_1_Sources0] l_1_Bundle [])).Course.School ((qa.mk (qb.mk l_1_Course_School l_1_Course_Code) l_1_Credits l_1_Grade l_1_Day [l_1_Sources0] l_1_Bundle [])).Course.Code ((qa.mk (qb.mk l_1_Course_School l_1_Course_Code) l_1_Credits l_1_Grade l_1_Day [l_1_Sources0] l_1_Bundle [])).Credits ((qa.mk (qb.mk l_1_Course_School l_1_Course_Code) l_1_Credits l_1_Grade l_1_Day [l_1_Sources0] l_1_Bundle [])).Grade ((qa.mk (qb.mk l_1_Course_School l_1_Course_Code) l_1_Credits l_1_Grade l_1_Day [l_1_Sources0] l_1_Bundle [])).Day ((qa.mk (qb.mk l_1_Course_School l_1_Course_Code) l_1_Credits l_1_Grade l_1_Day [l_1_Sources0] l_1_Bundle [])).Sources ((qa.mk (qb.mk l_1_Course_School l_1_Course_Code) l_1_Credits l_1_Grade l_1_Day [l_1_Sources0] l_1_Bundle [])).Bundle ((qa.mk (qb.mk l_1_Course_School l_1_Course_Code) l_1_Credits l_1_Grade l_1_Day [l_1_Sources0] l_1_Bundle [])).Path ((qa.mk (qb.mk l_2_Course_School l_2_Course_Code) l_2_Credits l_2_Grade l_2_Day [l_2_Sources0] l_2_Bundle [])).Course.School ((qa.mk (qb.mk l_2_Course_School l_2_Course_Code) l_2_Credits l_2_Grade l_2_Day [l_2_Sources0] l_2_Bundle [])).Course.Code ((qa.mk (qb.mk l_2_Course_School l_2_Course_Code) l_2_Credits l_2_Grade l_2_Day [l_2_Sources0] l_2_Bundle [])).Credits ((qa.mk (qb.mk l_2_Course_School l_2_Course_Code) l_2_Credits l_2_Grade l_2_Day [l_2_Sources0] l_2_Bundle [])).Grade ((qa.mk (qb.mk l_2_Course_School l_2_Course_Code) l_2_Credits l_2_Grade l_2_Day [l_2_Sources0] l_2_Bundle [])).Day ((qa.mk (qb.mk l_2_Course_School l_2_Course_Code) l_2_Credits l_2_Grade l_2_Day [l_2_Sources0] l_2_Bundle [])).Sources ((qa.mk (qb.mk l_2_Course_School l_2_Course_Code) l_2_Credits l_2_Grade l_2_Day [l_2_Sources0] l_2_Bundle [])).Bundle ((qa.mk (qb.mk l_2_Course_School l_2_Course_Code) l_2_Credits l_2_Grade l_2_Day [l_2_Sources0] l_2_Bundle [])).Path
 first
  | exact h
  | (simp only[rL,dL,bR,bZ,Nat.reduceAdd] at h;exact h)
def qp (w1:List Int) (b0_0:qa) (b0_1:qa) (b0_2_Course_School:Int) (b0_2_Course_Code:ByteArray) (b0_2_Credits:Int) (b0_2_Grade:Int) (b0_2_Day:Int) (b0_2_Bundle:Int) (b0_2_Path:List Int) (s:qe):(List qa×Int)→Option ((List qa×Int)⊕(List qa))|(left,k)=>if 0≤k then Option.bind (zU left s k) fun(a:Bool)=>if a=Bool.true then Option.bind (qm k (w64 (k+1)) left) fun(a2:List qa)=>some (Sum.inl (a2,w64 (((a2.length:Nat):Int)-1))) else some (Sum.inl (left,w64 (k-1))) else some (Sum.inr left)
theorem Qm:∀(w1:List Int) (left:List qa) (b0_0_Course_School:Int) (b0_0_Course_Code:ByteArray) (b0_0_Credits b0_0_Grade b0_0_Day:Int) (b0_0_Sources:List Int) (b0_0_Bundle:Int) (b0_0_Path:List Int) (b0_1_Course_School:Int) (b0_1_Course_Code:ByteArray) (b0_1_Credits b0_1_Grade b0_1_Day:Int) (b0_1_Sources:List Int) (b0_1_Bundle:Int) (b0_1_Path:List Int) (b0_2_Course_School:Int) (b0_2_Course_Code:ByteArray) (b0_2_Credits b0_2_Grade b0_2_Day b0_2_Bundle:Int) (b0_2_Path:List Int) (s_Worst s_Best s_Pass k:Int) (ZM w1_len:Nat),ZM=left.length→w1_len=w1.length→XL2 evo 11 1 9 ⟨[(6,rP 2),(10,rO 3 8 ZM),(13,rI k)],[(0,B.blk 52 [dI b0_0_Course_School,dS b0_0_Course_Code,dI b0_0_Credits,dI b0_0_Grade,dI b0_0_Day,dL 1 eI b0_0_Sources,dI b0_0_Bundle,dL 1 eI b0_0_Path,dI b0_1_Course_School,dS b0_1_Course_Code,dI b0_1_Credits,dI b0_1_Grade,dI b0_1_Day,dL 1 eI b0_1_Sources,dI b0_1_Bundle,dL 1 eI b0_1_Path,dI b0_2_Course_School,dS b0_2_Course_Code,dI b0_2_Credits,dI b0_2_Grade,dI b0_2_Day,dO 1 1 w1_len,dI b0_2_Bundle,dL 1 eI b0_2_Path]),(1,bR 3 1 eI w1),(2,B.blk 30 [dI s_Worst,dI s_Best,dI s_Pass]),(3,bR 52 8 qc left)],4,53⟩=(qG (qp w1 (qa.mk (qb.mk b0_0_Course_School b0_0_Course_Code) b0_0_Credits b0_0_Grade b0_0_Day b0_0_Sources b0_0_Bundle b0_0_Path) (qa.mk (qb.mk b0_1_Course_School b0_1_Course_Code) b0_1_Credits b0_1_Grade b0_1_Day b0_1_Sources b0_1_Bundle b0_1_Path) b0_2_Course_School b0_2_Course_Code b0_2_Credits b0_2_Grade b0_2_Day b0_2_Bundle b0_2_Path (qe.mk s_Worst s_Best s_Pass)) (left,k)).bind (fun(e:List qa)=>some (Exit.exit 2,⟨[(10,rO 2 8 e.length)],[(0,B.blk 52 [dI b0_0_Course_School,dS b0_0_Course_Code,dI b0_0_Credits,dI b0_0_Grade,dI b0_0_Day,dL 1 eI b0_0_Sources,dI b0_0_Bundle,dL 1 eI b0_0_Path,dI b0_1_Course_School,dS b0_1_Course_Code,dI b0_1_Credits,dI b0_1_Grade,dI b0_1_Day,dL 1 eI b0_1_Sources,dI b0_1_Bundle,dL 1 eI b0_1_Path,dI b0_2_Course_School,dS b0_2_Course_Code,dI b0_2_Credits,dI b0_2_Grade,dI b0_2_Day,dO 1 1 w1.length,dI b0_2_Bundle,dL 1 eI b0_2_Path]),(1,bR 3 1 eI w1),(2,bR 52 8 qc e)],3,53⟩)):=
 by
 intro w1 left b0_0_Course_School b0_0_Course_Code b0_0_Credits b0_0_Grade b0_0_Day b0_0_Sources b0_0_Bundle b0_0_Path b0_1_Course_School b0_1_Course_Code b0_1_Credits b0_1_Grade b0_1_Day b0_1_Sources b0_1_Bundle b0_1_Path b0_2_Course_School b0_2_Course_Code b0_2_Credits b0_2_Grade b0_2_Day b0_2_Bundle b0_2_Path s_Worst s_Best s_Pass k ZM w1_len h0 h1
 subst h0 h1
 revert k;revert left;exact q9h qfJ qgm (fun e=>by exact⟨_,rfl,fun h=>by cases h⟩) fun left k=>by
  have:=qnw;have:=@q7R.eq_1;have:=@ZL;have:=@qU;have:=@qp.eq_1;exact gA
theorem ZY:∀  (w1:List Int) (b0_0_Course_School:Int) (b0_0_Course_Code:ByteArray) (b0_0_Credits b0_0_Grade b0_0_Day:Int) (b0_0_Sources:List Int) (b0_0_Bundle:Int) (b0_0_Path:List Int) (b0_1_Course_School:Int) (b0_1_Course_Code:ByteArray) (b0_1_Credits b0_1_Grade b0_1_Day:Int) (b0_1_Sources:List Int) (b0_1_Bundle:Int) (b0_1_Path:List Int) (b0_2_Course_School:Int) (b0_2_Course_Code:ByteArray) (b0_2_Credits b0_2_Grade b0_2_Day b0_2_Bundle:Int) (b0_2_Path:List Int) (s_Worst s_Best s_Pass k:Int) (w1_len:Nat),w1_len=w1.length→XL2 evo 11 1 9 ⟨[(6,rP 2),(10,rO 3 8 0),(13,rI k)],[(0,B.blk 52 [dI b0_0_Course_School,dS b0_0_Course_Code,dI b0_0_Credits,dI b0_0_Grade,dI b0_0_Day,dL 1 eI b0_0_Sources,dI b0_0_Bundle,dL 1 eI b0_0_Path,dI b0_1_Course_School,dS b0_1_Course_Code,dI b0_1_Credits,dI b0_1_Grade,dI b0_1_Day,dL 1 eI b0_1_Sources,dI b0_1_Bundle,dL 1 eI b0_1_Path,dI b0_2_Course_School,dS b0_2_Course_Code,dI b0_2_Credits,dI b0_2_Grade,dI b0_2_Day,dO 1 1 w1_len,dI b0_2_Bundle,dL 1 eI b0_2_Path]),(1,bR 3 1 eI w1),(2,B.blk 30 [dI s_Worst,dI s_Best,dI s_Pass]),(3,B.row 52 8 [])],4,53⟩=(qG (qp w1 (qa.mk (qb.mk b0_0_Course_School b0_0_Course_Code) b0_0_Credits b0_0_Grade b0_0_Day b0_0_Sources b0_0_Bundle b0_0_Path) (qa.mk (qb.mk b0_1_Course_School b0_1_Course_Code) b0_1_Credits b0_1_Grade b0_1_Day b0_1_Sources b0_1_Bundle b0_1_Path) b0_2_Course_School b0_2_Course_Code b0_2_Credits b0_2_Grade b0_2_Day b0_2_Bundle b0_2_Path (qe.mk s_Worst s_Best s_Pass)) ([],k)).bind (fun(e:List qa)=>some (Exit.exit 2,⟨[(10,rO 2 8 e.length)],[(0,B.blk 52 [dI b0_0_Course_School,dS b0_0_Course_Code,dI b0_0_Credits,dI b0_0_Grade,dI b0_0_Day,dL 1 eI b0_0_Sources,dI b0_0_Bundle,dL 1 eI b0_0_Path,dI b0_1_Course_School,dS b0_1_Course_Code,dI b0_1_Credits,dI b0_1_Grade,dI b0_1_Day,dL 1 eI b0_1_Sources,dI b0_1_Bundle,dL 1 eI b0_1_Path,dI b0_2_Course_School,dS b0_2_Course_Code,dI b0_2_Credits,dI b0_2_Grade,dI b0_2_Day,dO 1 1 w1.length,dI b0_2_Bundle,dL 1 eI b0_2_Path]),(1,bR 3 1 eI w1),(2,bR 52 8 qc e)],3,53⟩)):=by
 intro w1 b0_0_Course_School b0_0_Course_Code b0_0_Credits b0_0_Grade b0_0_Day b0_0_Sources b0_0_Bundle b0_0_Path b0_1_Course_School b0_1_Course_Code b0_1_Credits b0_1_Grade b0_1_Day b0_1_Sources b0_1_Bundle b0_1_Path b0_2_Course_School b0_2_Course_Code b0_2_Credits b0_2_Grade b0_2_Day b0_2_Bundle b0_2_Path s_Worst s_Best s_Pass k w1_len h0;subst h0;have h:=Qm w1 [] ((qa.mk (qb.mk b0_0_Course_School b0_0_Course_Code) b0_0_Credits b0_0_Grade b0_0_Day b0_0_Sources b0_0_Bundle b0_0_Path)).Course.School ((qa.mk (qb.mk b0_0_Course_School b0_0_Course_Code) b0_0_Credits b0_0_Grade b0_0_Day b0_0_Sources b0_0_Bundle b0_0_Path)).Course.Code ((qa.mk (qb.mk b0_0_Course_School b0_0_Course_Code) b0_0_Credits b0_0_Grade b0_0_Day b0_0_Sources b0_0_Bundle b0_0_Path)).Credits ((qa.mk (qb.mk b0_0_Course_School b0_0_Course_Code) b0_0_Credits b0_0_Grade b0_0_Day b0_0_Sources b0_0_Bundle b0_0_Path)).Grade ((qa.mk (qb.mk b0_0_Course_School b0_0_Course_Code) b0_0_Credits b0_0_Grade b0_0_Day b0_0_Sources b0_0_Bundle b0_0_Path)).Day ((qa.mk (qb.mk b0_0_Course_School b0_0_Course_Code) b0_0_Credits b0_0_Grade b0_0_Day b0_0_Sources b0_0_Bundle b0_0_Path)).Sources ((qa.mk (qb.mk b0_0_Course_School b0_0_Course_Code) b0_0_Credits b0_0_Grade b0_0_Day b0_0_Sources b0_0_Bundle b0_0_Path)).Bundle ((qa.mk (qb.mk b0_0_Course_School b0_0_Course_Code) b0_0_Credits b0_0_Grade b0_0_Day b0_0_Sources b0_0_Bundle b0_0_Path)).Path ((qa.mk (qb.mk b0_1_Course_School b0_1_Course_Code) b0_1_Credits b0_1_Grade b0_1_Day b0_1_Sources b0_1_Bundle b0_1_Path)).Course.School ((qa.mk (qb.mk b0_1_Course_School b0_1_Course_Code) b0_1_Credits b0_1_Grade b0_1_Day b0_1_Sources b0_1_Bundle b0_1_Path)).Course.Code ((qa.mk (qb.mk b0_1_Course_School b0_1_Course_Code) b0_1_Credits b0_1_Grade b0_1_Day b0_1_Sources b0_1_Bundle b0_1_Path)).Credits ((qa.mk (qb.mk b0_1_Course_School b0_1_Course_Code) b0_1_Credits b0_1_Grade b0_1_Day b0_1_Sources b0_1_Bundle b0_1_Path)).Grade ((qa.mk (qb.mk b0_1_Course_School b0_1_Course_Code) b0_1_Credits b0_1_Grade b0_1_Day b0_1_Sources b0_1_Bundle b0_1_Path)).Day ((qa.mk (qb.mk b0_1_Course_School b0_1_Course_Code) b0_1_Credits b0_1_Grade b0_1_Day b0_1_Sources b0_1_Bundle b0_1_Path)).Sources ((qa.mk (qb.mk b0_1_Course_School b0_1_Course_Code) b0_1_Credits b0_1_Grade b0_1_Day b0_1_Sources b0_1_Bundle b0_1_Path)).Bundle ((qa.mk (qb.mk b0_1_Course_School b0_1_Course_Code) b0_1_Credits b0_1_Grade b0_1_Day b0_1_Sources b0_1_Bundle b0_1_Path)).Path b0_2_Course_School b0_2_Course_Code b0_2_Credits b0_2_Grade b0_2_Day b0_2_Bundle b0_2_Path ((qe.mk s_Worst s_Best s_Pass)).Worst ((qe.mk s_Worst s_Best s_Pass)).Best ((qe.mk s_Worst s_Best s_Pass)).Pass k _ _ rfl rfl
 first
  | exact h
  | (simp only[rL,dL,bR,bZ,Nat.reduceAdd] at h;exact h)
theorem J1:∀(left0_Course_School:Int) (left0_Course_Code:ByteArray) (left0_Credits left0_Grade left0_Day:Int) (left0_Sources:List Int) (left0_Bundle:Int) (left0_Path:List Int) (left1_Course_School:Int) (left1_Course_Code:ByteArray) (left1_Credits left1_Grade left1_Day:Int) (left1_Sources:List Int) (left1_Bundle:Int) (left1_Path w1:List Int) (b0_0_Course_School:Int) (b0_0_Course_Code:ByteArray) (b0_0_Credits b0_0_Grade b0_0_Day:Int) (b0_0_Sources:List Int) (b0_0_Bundle:Int) (b0_0_Path:List Int) (b0_1_Course_School:Int) (b0_1_Course_Code:ByteArray) (b0_1_Credits b0_1_Grade b0_1_Day:Int) (b0_1_Sources:List Int) (b0_1_Bundle:Int) (b0_1_Path:List Int) (b0_2_Course_School:Int) (b0_2_Course_Code:ByteArray) (b0_2_Credits b0_2_Grade b0_2_Day b0_2_Bundle:Int) (b0_2_Path:List Int) (s_Worst s_Best s_Pass k:Int) (w1_len:Nat),w1_len=w1.length→XL2 evo 11 1 9 ⟨[(6,rP 2),(10,rO 3 8 2),(13,rI k)],[(0,B.blk 52 [dI b0_0_Course_School,dS b0_0_Course_Code,dI b0_0_Credits,dI b0_0_Grade,dI b0_0_Day,dL 1 eI b0_0_Sources,dI b0_0_Bundle,dL 1 eI b0_0_Path,dI b0_1_Course_School,dS b0_1_Course_Code,dI b0_1_Credits,dI b0_1_Grade,dI b0_1_Day,dL 1 eI b0_1_Sources,dI b0_1_Bundle,dL 1 eI b0_1_Path,dI b0_2_Course_School,dS b0_2_Course_Code,dI b0_2_Credits,dI b0_2_Grade,dI b0_2_Day,dO 1 1 w1_len,dI b0_2_Bundle,dL 1 eI b0_2_Path]),(1,bR 3 1 eI w1),(2,B.blk 30 [dI s_Worst,dI s_Best,dI s_Pass]),(3,B.row 52 8 [dI left0_Course_School,dS left0_Course_Code,dI left0_Credits,dI left0_Grade,dI left0_Day,dL 1 eI left0_Sources,dI left0_Bundle,dL 1 eI left0_Path,dI left1_Course_School,dS left1_Course_Code,dI left1_Credits,dI left1_Grade,dI left1_Day,dL 1 eI left1_Sources,dI left1_Bundle,dL 1 eI left1_Path])],4,53⟩=(qG (qp w1 (qa.mk (qb.mk b0_0_Course_School b0_0_Course_Code) b0_0_Credits b0_0_Grade b0_0_Day b0_0_Sources b0_0_Bundle b0_0_Path) (qa.mk (qb.mk b0_1_Course_School b0_1_Course_Code) b0_1_Credits b0_1_Grade b0_1_Day b0_1_Sources b0_1_Bundle b0_1_Path) b0_2_Course_School b0_2_Course_Code b0_2_Credits b0_2_Grade b0_2_Day b0_2_Bundle b0_2_Path (qe.mk s_Worst s_Best s_Pass)) ([(qa.mk (qb.mk left0_Course_School left0_Course_Code) left0_Credits left0_Grade left0_Day left0_Sources left0_Bundle left0_Path),(qa.mk (qb.mk left1_Course_School left1_Course_Code) left1_Credits left1_Grade left1_Day left1_Sources left1_Bundle left1_Path)],k)).bind (fun(e:List qa)=>some (Exit.exit 2,⟨[(10,rO 2 8 e.length)],[(0,B.blk 52 [dI b0_0_Course_School,dS b0_0_Course_Code,dI b0_0_Credits,dI b0_0_Grade,dI b0_0_Day,dL 1 eI b0_0_Sources,dI b0_0_Bundle,dL 1 eI b0_0_Path,dI b0_1_Course_School,dS b0_1_Course_Code,dI b0_1_Credits,dI b0_1_Grade,dI b0_1_Day,dL 1 eI b0_1_Sources,dI b0_1_Bundle,dL 1 eI b0_1_Path,dI b0_2_Course_School,dS b0_2_Course_Code,dI b0_2_Credits,dI b0_2_Grade,dI b0_2_Day,dO 1 1 w1.length,dI b0_2_Bundle,dL 1 eI b0_2_Path]),(1,bR 3 1 eI w1),(2,bR 52 8 qc e)],3,53⟩)):=by
 intro left0_Course_School left0_Course_Code left0_Credits left0_Grade left0_Day left0_Sources left0_Bundle left0_Path left1_Course_School left1_Course_Code left1_Credits left1_Grade left1_Day left1_Sources left1_Bundle left1_Path w1 b0_0_Course_School b0_0_Course_Code b0_0_Credits b0_0_Grade b0_0_Day b0_0_Sources b0_0_Bundle b0_0_Path b0_1_Course_School b0_1_Course_Code b0_1_Credits b0_1_Grade b0_1_Day b0_1_Sources b0_1_Bundle b0_1_Path b0_2_Course_School b0_2_Course_Code b0_2_Credits b0_2_Grade b0_2_Day b0_2_Bundle b0_2_Path s_Worst s_Best s_Pass k w1_len h0;subst h0;have h:=Qm w1 [(qa.mk (qb.mk left0_Course_School left0_Course_Code) left0_Credits left0_Grade left0_Day left0_Sources left0_Bundle left0_Path),(qa.mk (qb.mk left1_Course_School left1_Course_Code) left1_Credits left1_Grade left1_Day left1_Sources left1_Bundle left1_Path)] ((qa.mk (qb.mk b0_0_Course_School b0_0_Course_Code) b0_0_Credits b0_0_Grade b0_0_Day b0_0_Sources b0_0_Bundle b0_0_Path)).Course.School ((qa.mk (qb.mk b0_0_Course_School b0_0_Course_Code) b0_0_Credits b0_0_Grade b0_0_Day b0_0_Sources b0_0_Bundle b0_0_Path)).Course.Code ((qa.mk (qb.mk b0_0_Course_School b0_0_Course_Code) b0_0_Credits b0_0_Grade b0_0_Day b0_0_Sources b0_0_Bundle b0_0_Path)).Credits ((qa.mk (qb.mk b0_0_Course_School b0_0_Course_Code) b0_0_Credits b0_0_Grade b0_0_Day b0_0_Sources b0_0_Bundle b0_0_Path)).Grade ((qa.mk (qb.mk b0_0_Course_School b0_0_Course_Code) b0_0_Credits b0_0_Grade b0_0_Day b0_0_Sources b0_0_Bundle b0_0_Path)).Day ((qa.mk (qb.mk b0_0_Course_School b0_0_Course_Code) b0_0_Credits b0_0_Grade b0_0_Day b0_0_Sources b0_0_Bundle b0_0_Path)).Sources ((qa.mk (qb.mk b0_0_Course_School b0_0_Course_Code) b0_0_Credits b0_0_Grade b0_0_Day b0_0_Sources b0_0_Bundle b0_0_Path)).Bundle ((qa.mk (qb.mk b0_0_Course_School b0_0_Course_Code) b0_0_Credits b0_0_Grade b0_0_Day b0_0_Sources b0_0_Bundle b0_0_Path)).Path ((qa.mk (qb.mk b0_1_Course_School b0_1_Course_Code) b0_1_Credits b0_1_Grade b0_1_Day b0_1_Sources b0_1_Bundle b0_1_Path)).Course.School ((qa.mk (qb.mk b0_1_Course_School b0_1_Course_Code) b0_1_Credits b0_1_Grade b0_1_Day b0_1_Sources b0_1_Bundle b0_1_Path)).Course.Code ((qa.mk (qb.mk b0_1_Course_School b0_1_Course_Code) b0_1_Credits b0_1_Grade b0_1_Day b0_1_Sources b0_1_Bundle b0_1_Path)).Credits ((qa.mk (qb.mk b0_1_Course_School b0_1_Course_Code) b0_1_Credits b0_1_Grade b0_1_Day b0_1_Sources b0_1_Bundle b0_1_Path)).Grade ((qa.mk (qb.mk b0_1_Course_School b0_1_Course_Code) b0_1_Credits b0_1_Grade b0_1_Day b0_1_Sources b0_1_Bundle b0_1_Path)).Day ((qa.mk (qb.mk b0_1_Course_School b0_1_Course_Code) b0_1_Credits b0_1_Grade b0_1_Day b0_1_Sources b0_1_Bundle b0_1_Path)).Sources ((qa.mk (qb.mk b0_1_Course_School b0_1_Course_Code) b0_1_Credits b0_1_Grade b0_1_Day b0_1_Sources b0_1_Bundle b0_1_Path)).Bundle ((qa.mk (qb.mk b0_1_Course_School b0_1_Course_Code) b0_1_Credits b0_1_Grade b0_1_Day b0_1_Sources b0_1_Bundle b0_1_Path)).Path b0_2_Course_School b0_2_Course_Code b0_2_Credits b0_2_Grade b0_2_Day b0_2_Bundle b0_2_Path ((qe.mk s_Worst s_Best s_Pass)).Worst ((qe.mk s_Worst s_Best s_Pass)).Best ((qe.mk s_Worst s_Best s_Pass)).Pass k _ _ rfl rfl
 first
  | exact h
  | (simp only[rL,dL,bR,bZ,Nat.reduceAdd] at h;exact h)
theorem ZT:∀(left0_Course_School:Int) (left0_Course_Code:ByteArray) (left0_Credits left0_Grade left0_Day:Int) (left0_Sources:List Int) (left0_Bundle:Int) (left0_Path w1:List Int) (b0_0_Course_School:Int) (b0_0_Course_Code:ByteArray) (b0_0_Credits b0_0_Grade b0_0_Day:Int) (b0_0_Sources:List Int) (b0_0_Bundle:Int) (b0_0_Path:List Int) (b0_1_Course_School:Int) (b0_1_Course_Code:ByteArray) (b0_1_Credits b0_1_Grade b0_1_Day:Int) (b0_1_Sources:List Int) (b0_1_Bundle:Int) (b0_1_Path:List Int) (b0_2_Course_School:Int) (b0_2_Course_Code:ByteArray) (b0_2_Credits b0_2_Grade b0_2_Day b0_2_Bundle:Int) (b0_2_Path:List Int) (s_Worst s_Best s_Pass k:Int) (w1_len:Nat),w1_len=w1.length→XL2 evo 11 1 9 ⟨[(6,rP 2),(10,rO 3 8 1),(13,rI k)],[(0,B.blk 52 [dI b0_0_Course_School,dS b0_0_Course_Code,dI b0_0_Credits,dI b0_0_Grade,dI b0_0_Day,dL 1 eI b0_0_Sources,dI b0_0_Bundle,dL 1 eI b0_0_Path,dI b0_1_Course_School,dS b0_1_Course_Code,dI b0_1_Credits,dI b0_1_Grade,dI b0_1_Day,dL 1 eI b0_1_Sources,dI b0_1_Bundle,dL 1 eI b0_1_Path,dI b0_2_Course_School,dS b0_2_Course_Code,dI b0_2_Credits,dI b0_2_Grade,dI b0_2_Day,dO 1 1 w1_len,dI b0_2_Bundle,dL 1 eI b0_2_Path]),(1,bR 3 1 eI w1),(2,B.blk 30 [dI s_Worst,dI s_Best,dI s_Pass]),(3,B.row 52 8 [dI left0_Course_School,dS left0_Course_Code,dI left0_Credits,dI left0_Grade,dI left0_Day,dL 1 eI left0_Sources,dI left0_Bundle,dL 1 eI left0_Path])],4,53⟩=(qG (qp w1 (qa.mk (qb.mk b0_0_Course_School b0_0_Course_Code) b0_0_Credits b0_0_Grade b0_0_Day b0_0_Sources b0_0_Bundle b0_0_Path) (qa.mk (qb.mk b0_1_Course_School b0_1_Course_Code) b0_1_Credits b0_1_Grade b0_1_Day b0_1_Sources b0_1_Bundle b0_1_Path) b0_2_Course_School b0_2_Course_Code b0_2_Credits b0_2_Grade b0_2_Day b0_2_Bundle b0_2_Path (qe.mk s_Worst s_Best s_Pass)) ([(qa.mk (qb.mk left0_Course_School left0_Course_Code) left0_Credits left0_Grade left0_Day left0_Sources left0_Bundle left0_Path)],k)).bind (fun(e:List qa)=>some (Exit.exit 2,⟨[(10,rO 2 8 e.length)],[(0,B.blk 52 [dI b0_0_Course_School,dS b0_0_Course_Code,dI b0_0_Credits,dI b0_0_Grade,dI b0_0_Day,dL 1 eI b0_0_Sources,dI b0_0_Bundle,dL 1 eI b0_0_Path,dI b0_1_Course_School,dS b0_1_Course_Code,dI b0_1_Credits,dI b0_1_Grade,dI b0_1_Day,dL 1 eI b0_1_Sources,dI b0_1_Bundle,dL 1 eI b0_1_Path,dI b0_2_Course_School,dS b0_2_Course_Code,dI b0_2_Credits,dI b0_2_Grade,dI b0_2_Day,dO 1 1 w1.length,dI b0_2_Bundle,dL 1 eI b0_2_Path]),(1,bR 3 1 eI w1),(2,bR 52 8 qc e)],3,53⟩)):=by
 intro left0_Course_School left0_Course_Code left0_Credits left0_Grade left0_Day left0_Sources left0_Bundle left0_Path w1 b0_0_Course_School b0_0_Course_Code b0_0_Credits b0_0_Grade b0_0_Day b0_0_Sources b0_0_Bundle b0_0_Path b0_1_Course_School b0_1_Course_Code b0_1_Credits b0_1_Grade b0_1_Day b0_1_Sources b0_1_Bundle b0_1_Path b0_2_Course_School b0_2_Course_Code b0_2_Credits b0_2_Grade b0_2_Day b0_2_Bundle b0_2_Path s_Worst s_Best s_Pass k w1_len h0;subst h0;have h:=Qm w1 [(qa.mk (qb.mk left0_Course_School left0_Course_Code) left0_Credits left0_Grade left0_Day left0_Sources left0_Bundle left0_Path)] ((qa.mk (qb.mk b0_0_Course_School b0_0_Course_Code) b0_0_Credits b0_0_Grade b0_0_Day b0_0_Sources b0_0_Bundle b0_0_Path)).Course.School ((qa.mk (qb.mk b0_0_Course_School b0_0_Course_Code) b0_0_Credits b0_0_Grade b0_0_Day b0_0_Sources b0_0_Bundle b0_0_Path)).Course.Code ((qa.mk (qb.mk b0_0_Course_School b0_0_Course_Code) b0_0_Credits b0_0_Grade b0_0_Day b0_0_Sources b0_0_Bundle b0_0_Path)).Credits ((qa.mk (qb.mk b0_0_Course_School b0_0_Course_Code) b0_0_Credits b0_0_Grade b0_0_Day b0_0_Sources b0_0_Bundle b0_0_Path)).Grade ((qa.mk (qb.mk b0_0_Course_School b0_0_Course_Code) b0_0_Credits b0_0_Grade b0_0_Day b0_0_Sources b0_0_Bundle b0_0_Path)).Day ((qa.mk (qb.mk b0_0_Course_School b0_0_Course_Code) b0_0_Credits b0_0_Grade b0_0_Day b0_0_Sources b0_0_Bundle b0_0_Path)).Sources ((qa.mk (qb.mk b0_0_Course_School b0_0_Course_Code) b0_0_Credits b0_0_Grade b0_0_Day b0_0_Sources b0_0_Bundle b0_0_Path)).Bundle ((qa.mk (qb.mk b0_0_Course_School b0_0_Course_Code) b0_0_Credits b0_0_Grade b0_0_Day b0_0_Sources b0_0_Bundle b0_0_Path)).Path ((qa.mk (qb.mk b0_1_Course_School b0_1_Course_Code) b0_1_Credits b0_1_Grade b0_1_Day b0_1_Sources b0_1_Bundle b0_1_Path)).Course.School ((qa.mk (qb.mk b0_1_Course_School b0_1_Course_Code) b0_1_Credits b0_1_Grade b0_1_Day b0_1_Sources b0_1_Bundle b0_1_Path)).Course.Code ((qa.mk (qb.mk b0_1_Course_School b0_1_Course_Code) b0_1_Credits b0_1_Grade b0_1_Day b0_1_Sources b0_1_Bundle b0_1_Path)).Credits ((qa.mk (qb.mk b0_1_Course_School b0_1_Course_Code) b0_1_Credits b0_1_Grade b0_1_Day b0_1_Sources b0_1_Bundle b0_1_Path)).Grade ((qa.mk (qb.mk b0_1_Course_School b0_1_Course_Code) b0_1_Credits b0_1_Grade b0_1_Day b0_1_Sources b0_1_Bundle b0_1_Path)).Day ((qa.mk (qb.mk b0_1_Course_School b0_1_Course_Code) b0_1_Credits b0_1_Grade b0_1_Day b0_1_Sources b0_1_Bundle b0_1_Path)).Sources ((qa.mk (qb.mk b0_1_Course_School b0_1_Course_Code) b0_1_Credits b0_1_Grade b0_1_Day b0_1_Sources b0_1_Bundle b0_1_Path)).Bundle ((qa.mk (qb.mk b0_1_Course_School b0_1_Course_Code) b0_1_Credits b0_1_Grade b0_1_Day b0_1_Sources b0_1_Bundle b0_1_Path)).Path b0_2_Course_School b0_2_Course_Code b0_2_Credits b0_2_Grade b0_2_Day b0_2_Bundle b0_2_Path ((qe.mk s_Worst s_Best s_Pass)).Worst ((qe.mk s_Worst s_Best s_Pass)).Best ((qe.mk s_Worst s_Best s_Pass)).Pass k _ _ rfl rfl
 first
  | exact h
  | (simp only[rL,dL,bR,bZ,Nat.reduceAdd] at h;exact h)
end
noncomputable section
open Go.RowKit
set_option maxRecDepth 20000
set_option maxHeartbeats 8000000
def zZ (l_n:Nat) (p:qf) (s:qe) (day:Int) (w1:List Int) (l_0:qa) (l_1:qa) (l_2_Course_School:Int) (l_2_Course_Code:ByteArray) (l_2_Credits:Int) (l_2_Grade:Int) (l_2_Day:Int) (l_2_Bundle:Int) (l_2_Path:List Int):Option ((List qa×Int×qa)⊕(List qa×Int)):=if 0<((l_n:Nat):Int) then if 0<((l_n:Nat):Int) then Option.bind (qD p l_0 day) fun(a:Bool)=>if(!a)=Bool.true then Option.bind (qv l_0) fun(a2:Unit)=>if 1≤maxLen then if 1<((l_n:Nat):Int) then if 1<((l_n:Nat):Int) then Option.bind (qD p l_1 day) fun(a3:Bool)=>if(!a3)=Bool.true then Option.bind (qv l_1) fun(a4:Unit)=>if 2≤maxLen then if 2<((l_n:Nat):Int) then if 2<((l_n:Nat):Int) then Option.bind (qD p (qa.mk (qb.mk l_2_Course_School l_2_Course_Code) l_2_Credits l_2_Grade l_2_Day w1 l_2_Bundle l_2_Path) day) fun(a5:Bool)=>if(!a5)=Bool.true then Option.bind (qv (qa.mk (qb.mk l_2_Course_School l_2_Course_Code) l_2_Credits l_2_Grade l_2_Day w1 l_2_Bundle l_2_Path)) fun(a6:Unit)=>if 3≤maxLen then if 3<((l_n:Nat):Int) then none else Option.bind (qG (qk l_0 l_1 (qa.mk (qb.mk l_2_Course_School l_2_Course_Code) l_2_Credits l_2_Grade l_2_Day w1 l_2_Bundle l_2_Path) s) ([l_0,l_1,qa.mk (qb.mk l_2_Course_School l_2_Course_Code) l_2_Credits l_2_Grade l_2_Day w1 l_2_Bundle l_2_Path],2)) fun(a7:List qa)=>if 10<((a7.length:Nat):Int) then some (Sum.inl ([],2,qa.mk (qb.mk l_2_Course_School l_2_Course_Code) l_2_Credits l_2_Grade l_2_Day w1 l_2_Bundle l_2_Path)) else some (Sum.inl (a7,0,qa.mk (qb.mk l_2_Course_School l_2_Course_Code) l_2_Credits l_2_Grade l_2_Day w1 l_2_Bundle l_2_Path)) else none else if 3<((l_n:Nat):Int) then none else Option.bind (qG (qp w1 l_0 l_1 l_2_Course_School l_2_Course_Code l_2_Credits l_2_Grade l_2_Day l_2_Bundle l_2_Path s) ([l_0,l_1],1)) fun(a8:List qa)=>if 10<((a8.length:Nat):Int) then some (Sum.inr ([],2)) else some (Sum.inr (a8,0)) else none else Option.bind (qG (qp w1 l_0 l_1 l_2_Course_School l_2_Course_Code l_2_Credits l_2_Grade l_2_Day l_2_Bundle l_2_Path s) ([l_0,l_1],1)) fun(a9:List qa)=>if 10<((a9.length:Nat):Int) then some (Sum.inr ([],2)) else some (Sum.inr (a9,0)) else none else if 2<((l_n:Nat):Int) then if 2<((l_n:Nat):Int) then Option.bind (qD p (qa.mk (qb.mk l_2_Course_School l_2_Course_Code) l_2_Credits l_2_Grade l_2_Day w1 l_2_Bundle l_2_Path) day) fun(a10:Bool)=>if(!a10)=Bool.true then Option.bind (qv (qa.mk (qb.mk l_2_Course_School l_2_Course_Code) l_2_Credits l_2_Grade l_2_Day w1 l_2_Bundle l_2_Path)) fun(a11:Unit)=>if 2≤maxLen then if 3<((l_n:Nat):Int) then none else Option.bind (qG (qk l_0 l_1 (qa.mk (qb.mk l_2_Course_School l_2_Course_Code) l_2_Credits l_2_Grade l_2_Day w1 l_2_Bundle l_2_Path) s) ([l_0,qa.mk (qb.mk l_2_Course_School l_2_Course_Code) l_2_Credits l_2_Grade l_2_Day w1 l_2_Bundle l_2_Path],1)) fun(a12:List qa)=>if 10<((a12.length:Nat):Int) then some (Sum.inl ([],2,qa.mk (qb.mk l_2_Course_School l_2_Course_Code) l_2_Credits l_2_Grade l_2_Day w1 l_2_Bundle l_2_Path)) else some (Sum.inl (a12,0,qa.mk (qb.mk l_2_Course_School l_2_Course_Code) l_2_Credits l_2_Grade l_2_Day w1 l_2_Bundle l_2_Path)) else none else if 3<((l_n:Nat):Int) then none else Option.bind (qG (qp w1 l_0 l_1 l_2_Course_School l_2_Course_Code l_2_Credits l_2_Grade l_2_Day l_2_Bundle l_2_Path s) ([l_0],0)) fun(a13:List qa)=>if 10<((a13.length:Nat):Int) then some (Sum.inr ([],2)) else some (Sum.inr (a13,0)) else none else Option.bind (qG (qp w1 l_0 l_1 l_2_Course_School l_2_Course_Code l_2_Credits l_2_Grade l_2_Day l_2_Bundle l_2_Path s) ([l_0],0)) fun(a14:List qa)=>if 10<((a14.length:Nat):Int) then some (Sum.inr ([],2)) else some (Sum.inr (a14,0)) else none else Option.bind (qG (qp w1 l_0 l_1 l_2_Course_School l_2_Course_Code l_2_Credits l_2_Grade l_2_Day l_2_Bundle l_2_Path s) ([l_0],0)) fun(a15:List qa)=>if 10<((a15.length:Nat):Int) then some (Sum.inr ([],2)) else some (Sum.inr (a15,0)) else none else if 1<((l_n:Nat):Int) then if 1<((l_n:Nat):Int) then Option.bind (qD p l_1 day) fun(a16:Bool)=>if(!a16)=Bool.true then Option.bind (qv l_1) fun(a17:Unit)=>if 1≤maxLen then if 2<((l_n:Nat):Int) then if 2<((l_n:Nat):Int) then Option.bind (qD p (qa.mk (qb.mk l_2_Course_School l_2_Course_Code) l_2_Credits l_2_Grade l_2_Day w1 l_2_Bundle l_2_Path) day) fun(a18:Bool)=>if(!a18)=Bool.true then Option.bind (qv (qa.mk (qb.mk l_2_Course_School l_2_Course_Code) l_2_Credits l_2_Grade l_2_Day w1 l_2_Bundle l_2_Path)) fun(a19:Unit)=>if 2≤maxLen then if 3<((l_n:Nat):Int) then none else Option.bind (qG (qk l_0 l_1 (qa.mk (qb.mk l_2_Course_School l_2_Course_Code) l_2_Credits l_2_Grade l_2_Day w1 l_2_Bundle l_2_Path) s) ([l_1,qa.mk (qb.mk l_2_Course_School l_2_Course_Code) l_2_Credits l_2_Grade l_2_Day w1 l_2_Bundle l_2_Path],1)) fun(a20:List qa)=>if 10<((a20.length:Nat):Int) then some (Sum.inl ([],2,qa.mk (qb.mk l_2_Course_School l_2_Course_Code) l_2_Credits l_2_Grade l_2_Day w1 l_2_Bundle l_2_Path)) else some (Sum.inl (a20,0,qa.mk (qb.mk l_2_Course_School l_2_Course_Code) l_2_Credits l_2_Grade l_2_Day w1 l_2_Bundle l_2_Path)) else none else if 3<((l_n:Nat):Int) then none else Option.bind (qG (qp w1 l_0 l_1 l_2_Course_School l_2_Course_Code l_2_Credits l_2_Grade l_2_Day l_2_Bundle l_2_Path s) ([l_1],0)) fun(a21:List qa)=>if 10<((a21.length:Nat):Int) then some (Sum.inr ([],2)) else some (Sum.inr (a21,0)) else none else Option.bind (qG (qp w1 l_0 l_1 l_2_Course_School l_2_Course_Code l_2_Credits l_2_Grade l_2_Day l_2_Bundle l_2_Path s) ([l_1],0)) fun(a22:List qa)=>if 10<((a22.length:Nat):Int) then some (Sum.inr ([],2)) else some (Sum.inr (a22,0)) else none else if 2<((l_n:Nat):Int) then if 2<((l_n:Nat):Int) then Option.bind (qD p (qa.mk (qb.mk l_2_Course_School l_2_Course_Code) l_2_Credits l_2_Grade l_2_Day w1 l_2_Bundle l_2_Path) day) fun(a23:Bool)=>if(!a23)=Bool.true then Option.bind (qv (qa.mk (qb.mk l_2_Course_School l_2_Course_Code) l_2_Credits l_2_Grade l_2_Day w1 l_2_Bundle l_2_Path)) fun(a24:Unit)=>if 1≤maxLen then if 3<((l_n:Nat):Int) then none else Option.bind (qG (qk l_0 l_1 (qa.mk (qb.mk l_2_Course_School l_2_Course_Code) l_2_Credits l_2_Grade l_2_Day w1 l_2_Bundle l_2_Path) s) ([qa.mk (qb.mk l_2_Course_School l_2_Course_Code) l_2_Credits l_2_Grade l_2_Day w1 l_2_Bundle l_2_Path],0)) fun(a25:List qa)=>if 10<((a25.length:Nat):Int) then some (Sum.inl ([],2,qa.mk (qb.mk l_2_Course_School l_2_Course_Code) l_2_Credits l_2_Grade l_2_Day w1 l_2_Bundle l_2_Path)) else some (Sum.inl (a25,0,qa.mk (qb.mk l_2_Course_School l_2_Course_Code) l_2_Credits l_2_Grade l_2_Day w1 l_2_Bundle l_2_Path)) else none else if 3<((l_n:Nat):Int) then none else Option.bind (qG (qp w1 l_0 l_1 l_2_Course_School l_2_Course_Code l_2_Credits l_2_Grade l_2_Day l_2_Bundle l_2_Path s) ([],(-1))) fun(a26:List qa)=>if 10<((a26.length:Nat):Int) then some (Sum.inr ([],2)) else some (Sum.inr (a26,0)) else none else Option.bind (qG (qp w1 l_0 l_1 l_2_Course_School l_2_Course_Code l_2_Credits l_2_Grade l_2_Day l_2_Bundle l_2_Path s) ([],(-1))) fun(a27:List qa)=>if 10<((a27.length:Nat):Int) then some (Sum.inr ([],2)) else some (Sum.inr (a27,0)) else none else Option.bind (qG (qp w1 l_0 l_1 l_2_Course_School l_2_Course_Code l_2_Credits l_2_Grade l_2_Day l_2_Bundle l_2_Path s) ([],(-1))) fun(a28:List qa)=>if 10<((a28.length:Nat):Int) then some (Sum.inr ([],2)) else some (Sum.inr (a28,0)) else none else Option.bind (qG (qp w1 l_0 l_1 l_2_Course_School l_2_Course_Code l_2_Credits l_2_Grade l_2_Day l_2_Bundle l_2_Path s) ([],(-1))) fun(a29:List qa)=>if 10<((a29.length:Nat):Int) then some (Sum.inr ([],2)) else some (Sum.inr (a29,0))
theorem q17:∀(l_n:Nat) (p_School p_Id p_Version p_From:Int) (p_Name:ByteArray) (p_Need_Kind p_Need_N p_Need_Min:Int) (p_Need_Set:List qb) (p_Need_L:List qg) (p_Total p_Own p_Age:Int) (p_Exclude:List (QF qb)) (s_Worst s_Best s_Pass day:Int) (w1:List Int) (l_0_Course_School:Int) (l_0_Course_Code:ByteArray) (l_0_Credits l_0_Grade l_0_Day:Int) (l_0_Sources:List Int) (l_0_Bundle:Int) (l_0_Path:List Int) (l_1_Course_School:Int) (l_1_Course_Code:ByteArray) (l_1_Credits l_1_Grade l_1_Day:Int) (l_1_Sources:List Int) (l_1_Bundle:Int) (l_1_Path:List Int) (l_2_Course_School:Int) (l_2_Course_Code:ByteArray) (l_2_Credits l_2_Grade l_2_Day l_2_Bundle:Int) (l_2_Path:List Int) (w1_len:Nat),w1_len=w1.length→ev 11 1 [rO 0 8 l_n,R.agg [dI p_School,dI p_Id,dI p_Version,dI p_From,dS p_Name,dI p_Need_Kind,dI p_Need_N,dI p_Need_Min,dL 2 qj p_Need_Set,dL 5 qq p_Need_L,dI p_Total,dI p_Own,dI p_Age,dL 4 (eA2 qj) p_Exclude],R.agg [dI s_Worst,dI s_Best,dI s_Pass],rI day] [(0,B.blk 52 [dI l_0_Course_School,dS l_0_Course_Code,dI l_0_Credits,dI l_0_Grade,dI l_0_Day,dL 1 eI l_0_Sources,dI l_0_Bundle,dL 1 eI l_0_Path,dI l_1_Course_School,dS l_1_Course_Code,dI l_1_Credits,dI l_1_Grade,dI l_1_Day,dL 1 eI l_1_Sources,dI l_1_Bundle,dL 1 eI l_1_Path,dI l_2_Course_School,dS l_2_Course_Code,dI l_2_Credits,dI l_2_Grade,dI l_2_Day,dO 1 1 w1_len,dI l_2_Bundle,dL 1 eI l_2_Path]),(1,bR 3 1 eI w1)]=(zZ l_n (qf.mk p_School p_Id p_Version p_From p_Name (qg.mk p_Need_Kind p_Need_N p_Need_Min p_Need_Set p_Need_L) p_Total p_Own p_Age p_Exclude) (qe.mk s_Worst s_Best s_Pass) day w1 (qa.mk (qb.mk l_0_Course_School l_0_Course_Code) l_0_Credits l_0_Grade l_0_Day l_0_Sources l_0_Bundle l_0_Path) (qa.mk (qb.mk l_1_Course_School l_1_Course_Code) l_1_Credits l_1_Grade l_1_Day l_1_Sources l_1_Bundle l_1_Path) l_2_Course_School l_2_Course_Code l_2_Credits l_2_Grade l_2_Day l_2_Bundle l_2_Path).bind (Sum.elim (fun(e:List qa×Int×qa)=>some (R.tup [rL 8 qc e.1,rI e.2.1],[(0,B.blk 52 [dI l_0_Course_School,dS l_0_Course_Code,dI l_0_Credits,dI l_0_Grade,dI l_0_Day,dL 1 eI l_0_Sources,dI l_0_Bundle,dL 1 eI l_0_Path,dI l_1_Course_School,dS l_1_Course_Code,dI l_1_Credits,dI l_1_Grade,dI l_1_Day,dL 1 eI l_1_Sources,dI l_1_Bundle,dL 1 eI l_1_Path,dI e.2.2.Course.School,dS e.2.2.Course.Code,dI e.2.2.Credits,dI e.2.2.Grade,dI e.2.2.Day,dL 1 eI e.2.2.Sources,dI e.2.2.Bundle,dL 1 eI e.2.2.Path])])) (fun(e:List qa×Int)=>some (R.tup [rL 8 qc e.1,rI e.2],[(0,B.blk 52 [dI l_0_Course_School,dS l_0_Course_Code,dI l_0_Credits,dI l_0_Grade,dI l_0_Day,dL 1 eI l_0_Sources,dI l_0_Bundle,dL 1 eI l_0_Path,dI l_1_Course_School,dS l_1_Course_Code,dI l_1_Credits,dI l_1_Grade,dI l_1_Day,dL 1 eI l_1_Sources,dI l_1_Bundle,dL 1 eI l_1_Path,dI l_2_Course_School,dS l_2_Course_Code,dI l_2_Credits,dI l_2_Grade,dI l_2_Day,dO 1 1 w1.length,dI l_2_Bundle,dL 1 eI l_2_Path]),(1,bR 3 1 eI w1)]))):=
 by
 intro l_n p_School p_Id p_Version p_From p_Name p_Need_Kind p_Need_N p_Need_Min p_Need_Set p_Need_L p_Total p_Own p_Age p_Exclude s_Worst s_Best s_Pass day w1 l_0_Course_School l_0_Course_Code l_0_Credits l_0_Grade l_0_Day l_0_Sources l_0_Bundle l_0_Path l_1_Course_School l_1_Course_Code l_1_Credits l_1_Grade l_1_Day l_1_Sources l_1_Bundle l_1_Path l_2_Course_School l_2_Course_Code l_2_Credits l_2_Grade l_2_Day l_2_Bundle l_2_Path w1_len h0
 subst h0
 rw[qL qjl qoF.2.2.2 qnQ]
 have:=qnw;have:=@JY;have:=@ZY;have:=@J9;have:=@ZX;have:=@J1;have:=@J0;have:=@ZT;have:=@ZV;have:=@zZ.eq_1;have:=fun(E:Orc) (k:Nat) (s:S)=>q71 (E:=E) (k:=k) (s:=s) qg7 qfF;have:=@q7O.eq_1;have:=@q3A;have:=@q79;have:=@qcX;have:=@q6H;have:=@qcN;have:=@q72;have:=@q9X;exact gA
theorem JM:∀(p_School p_Id p_Version p_From:Int) (p_Name:ByteArray) (p_Need_Kind p_Need_N p_Need_Min p_Total p_Own p_Age w10 l_0_Course_School:Int) (l_0_Course_Code:ByteArray) (l_0_Credits l_0_Grade l_0_Day l_0_Sources0 l_0_Bundle l_1_Course_School:Int) (l_1_Course_Code:ByteArray) (l_1_Credits l_1_Grade l_1_Day l_1_Sources0 l_1_Bundle:Int) (l_n:Nat) (s_Worst s_Best s_Pass day l_2_Course_School:Int) (l_2_Course_Code:ByteArray) (l_2_Credits l_2_Grade l_2_Day l_2_Bundle:Int),ev 11 1 [rO 0 8 l_n,R.agg [dI p_School,dI p_Id,dI p_Version,dI p_From,dS p_Name,dI p_Need_Kind,dI p_Need_N,dI p_Need_Min,C.d (D.sl 2 0 []),C.d (D.sl 5 0 []),dI p_Total,dI p_Own,dI p_Age,C.d (D.sl 4 0 [])],R.agg [dI s_Worst,dI s_Best,dI s_Pass],rI day] [(0,B.blk 52 [dI l_0_Course_School,dS l_0_Course_Code,dI l_0_Credits,dI l_0_Grade,dI l_0_Day,C.d (D.sl 1 1 [D.int .i64 l_0_Sources0]),dI l_0_Bundle,C.d (D.sl 1 0 []),dI l_1_Course_School,dS l_1_Course_Code,dI l_1_Credits,dI l_1_Grade,dI l_1_Day,C.d (D.sl 1 1 [D.int .i64 l_1_Sources0]),dI l_1_Bundle,C.d (D.sl 1 0 []),dI l_2_Course_School,dS l_2_Course_Code,dI l_2_Credits,dI l_2_Grade,dI l_2_Day,dO 1 1 1,dI l_2_Bundle,C.d (D.sl 1 0 [])]),(1,B.row 3 1 [dI w10])]=(zZ l_n (qf.mk p_School p_Id p_Version p_From p_Name (qg.mk p_Need_Kind p_Need_N p_Need_Min ([]:List qb) ([]:List qg)) p_Total p_Own p_Age ([]:List (QF qb))) (qe.mk s_Worst s_Best s_Pass) day [w10] (qa.mk (qb.mk l_0_Course_School l_0_Course_Code) l_0_Credits l_0_Grade l_0_Day [l_0_Sources0] l_0_Bundle ([]:List Int)) (qa.mk (qb.mk l_1_Course_School l_1_Course_Code) l_1_Credits l_1_Grade l_1_Day [l_1_Sources0] l_1_Bundle ([]:List Int)) l_2_Course_School l_2_Course_Code l_2_Credits l_2_Grade l_2_Day l_2_Bundle ([]:List Int)).bind (Sum.elim (fun(e:List qa×Int×qa)=>some (R.tup [rL 8 qc e.1,rI e.2.1],[(0,B.blk 52 [dI l_0_Course_School,dS l_0_Course_Code,dI l_0_Credits,dI l_0_Grade,dI l_0_Day,C.d (D.sl 1 [l_0_Sources0].length ([l_0_Sources0].flatMap eI)),dI l_0_Bundle,C.d (D.sl 1 ([]:List Int).length (([]:List Int).flatMap eI)),dI l_1_Course_School,dS l_1_Course_Code,dI l_1_Credits,dI l_1_Grade,dI l_1_Day,C.d (D.sl 1 [l_1_Sources0].length ([l_1_Sources0].flatMap eI)),dI l_1_Bundle,C.d (D.sl 1 ([]:List Int).length (([]:List Int).flatMap eI)),dI e.2.2.Course.School,dS e.2.2.Course.Code,dI e.2.2.Credits,dI e.2.2.Grade,dI e.2.2.Day,dL 1 eI e.2.2.Sources,dI e.2.2.Bundle,dL 1 eI e.2.2.Path])])) (fun(e:List qa×Int)=>some (R.tup [rL 8 qc e.1,rI e.2],[(0,B.blk 52 [dI l_0_Course_School,dS l_0_Course_Code,dI l_0_Credits,dI l_0_Grade,dI l_0_Day,C.d (D.sl 1 [l_0_Sources0].length ([l_0_Sources0].flatMap eI)),dI l_0_Bundle,C.d (D.sl 1 ([]:List Int).length (([]:List Int).flatMap eI)),dI l_1_Course_School,dS l_1_Course_Code,dI l_1_Credits,dI l_1_Grade,dI l_1_Day,C.d (D.sl 1 [l_1_Sources0].length ([l_1_Sources0].flatMap eI)),dI l_1_Bundle,C.d (D.sl 1 ([]:List Int).length (([]:List Int).flatMap eI)),dI l_2_Course_School,dS l_2_Course_Code,dI l_2_Credits,dI l_2_Grade,dI l_2_Day,C.own 1 1 0 [w10].length,dI l_2_Bundle,C.d (D.sl 1 ([]:List Int).length (([]:List Int).flatMap eI))]),(1,B.row 3 1 (([w10].flatMap eI).map C.d))]))):=by
 intro p_School p_Id p_Version p_From p_Name p_Need_Kind p_Need_N p_Need_Min p_Total p_Own p_Age w10 l_0_Course_School l_0_Course_Code l_0_Credits l_0_Grade l_0_Day l_0_Sources0 l_0_Bundle l_1_Course_School l_1_Course_Code l_1_Credits l_1_Grade l_1_Day l_1_Sources0 l_1_Bundle l_n s_Worst s_Best s_Pass day l_2_Course_School l_2_Course_Code l_2_Credits l_2_Grade l_2_Day l_2_Bundle;have h:=q17 l_n ((qf.mk p_School p_Id p_Version p_From p_Name (qg.mk p_Need_Kind p_Need_N p_Need_Min ([]:List qb) ([]:List qg)) p_Total p_Own p_Age ([]:List (QF qb)))).School ((qf.mk p_School p_Id p_Version p_From p_Name (qg.mk p_Need_Kind p_Need_N p_Need_Min ([]:List qb) ([]:List qg)) p_Total p_Own p_Age ([]:List (QF qb)))).Id ((qf.mk p_School p_Id p_Version p_From p_Name (qg.mk p_Need_Kind p_Need_N p_Need_Min ([]:List qb) ([]:List qg)) p_Total p_Own p_Age ([]:List (QF qb)))).Version ((qf.mk p_School p_Id p_Version p_From p_Name (qg.mk p_Need_Kind p_Need_N p_Need_Min ([]:List qb) ([]:List qg)) p_Total p_Own p_Age ([]:List (QF qb)))).From ((qf.mk p_School p_Id p_Version p_From p_Name (qg.mk p_Need_Kind p_Need_N p_Need_Min ([]:List qb) ([]:List qg)) p_Total p_Own p_Age ([]:List (QF qb)))).Name ((qf.mk p_School p_Id p_Version p_From p_Name (qg.mk p_Need_Kind p_Need_N p_Need_Min ([]:List qb) ([]:List qg)) p_Total p_Own p_Age ([]:List (QF qb)))).Need.Kind ((qf.mk p_School p_Id p_Version p_From p_Name (qg.mk p_Need_Kind p_Need_N p_Need_Min ([]:List qb) ([]:List qg)) p_Total p_Own p_Age ([]:List (QF qb)))).Need.N ((qf.mk p_School p_Id p_Version p_From p_Name (qg.mk p_Need_Kind p_Need_N p_Need_Min ([]:List qb) ([]:List qg)) p_Total p_Own p_Age ([]:List (QF qb)))).Need.Min ((qf.mk p_School p_Id p_Version p_From p_Name (qg.mk p_Need_Kind p_Need_N p_Need_Min ([]:List qb) ([]:List qg)) p_Total p_Own p_Age ([]:List (QF qb)))).Need.Set ((qf.mk p_School p_Id p_Version p_From p_Name (qg.mk p_Need_Kind p_Need_N p_Need_Min ([]:List qb) ([]:List qg)) p_Total p_Own p_Age ([]:List (QF qb)))).Need.L ((qf.mk p_School p_Id p_Version p_From p_Name (qg.mk p_Need_Kind p_Need_N p_Need_Min ([]:List qb) ([]:List qg)) p_Total p_Own p_Age ([]:List (QF qb)))).Total ((qf.mk p_School p_Id p_Version p_From p_Name (qg.mk p_Need_Kind p_Need_N p_Need_Min ([]:List qb) ([]:List qg)) p_Total p_Own p_Age ([]:List (QF qb)))).Own ((qf.mk p_School p_Id p_Version p_From p_Name (qg.mk p_Need_Kind p_Need_N p_Need_Min ([]:List qb) ([]:List qg)) p_Total p_Own p_Age ([]:List (QF qb)))).Age ((qf.mk p_School p_Id p_Version p_From p_Name (qg.mk p_Need_Kind p_Need_N p_Need_Min ([]:List qb) ([]:List qg)) p_Total p_Own p_Age ([]:List (QF qb)))).Exclude ((qe.mk s_Worst s_Best s_Pass)).Worst ((qe.mk s_Worst s_Best s_Pass)).Best ((qe.mk s_Worst s_Best s_Pass)).Pass day [w10] ((qa.mk (qb.mk l_0_Course_School l_0_Course_Code) l_0_Credits l_0_Grade l_0_Day [l_0_Sources0] l_0_Bundle ([]:List Int))).Course.School ((qa.mk (qb.mk l_0_Course_School l_0_Course_Code) l_0_Credits l_0_Grade l_0_Day [l_0_Sources0] l_0_Bundle ([]:List Int))).Course.Code ((qa.mk (qb.mk l_0_Course_School l_0_Course_Code) l_0_Credits l_0_Grade l_0_Day [l_0_Sources0] l_0_Bundle ([]:List Int))).Credits ((qa.mk (qb.mk l_0_Course_School l_0_Course_Code) l_0_Credits l_0_Grade l_0_Day [l_0_Sources0] l_0_Bundle ([]:List Int))).Grade ((qa.mk (qb.mk l_0_Course_School l_0_Course_Code) l_0_Credits l_0_Grade l_0_Day [l_0_Sources0] l_0_Bundle ([]:List Int))).Day ((qa.mk (qb.mk l_0_Course_School l_0_Course_Code) l_0_Credits l_0_Grade l_0_Day [l_0_Sources0] l_0_Bundle ([]:List Int))).Sources ((qa.mk (qb.mk l_0_Course_School l_0_Course_Code) l_0_Credits l_0_Grade l_0_Day [l_0_Sources0] l_0_Bundle ([]:List Int))).Bundle ((qa.mk (qb.mk l_0_Course_School l_0_Course_Code) l_0_Credits l_0_Grade l_0_Day [l_0_Sources0] l_0_Bundle ([]:List Int))).Path ((qa.mk (qb.mk l_1_Course_School l_1_Course_Code) l_1_Credits l_1_Grade l_1_Day [l_1_Sources0] l_1_Bundle ([]:List Int))).Course.School ((qa.mk (qb.mk l_1_Course_School l_1_Course_Code) l_1_Credits l_1_Grade l_1_Day [l_1_Sources0] l_1_Bundle ([]:List Int))).Course.Code ((qa.mk (qb.mk l_1_Course_School l_1_Course_Code) l_1_Credits l_1_Grade l_1_Day [l_1_Sources0] l_1_Bundle ([]:List Int))).Credits ((qa.mk (qb.mk l_1_Course_School l_1_Course_Code) l_1_Credits l_1_Grade l_1_Day [l_1_Sources0] l_1_Bundle ([]:List Int))).Grade ((qa.mk (qb.mk l_1_Course_School l_1_Course_Code) l_1_Credits l_1_Grade l_1_Day [l_1_Sources0] l_1_Bundle ([]:List Int))).Day ((qa.mk (qb.mk l_1_Course_School l_1_Course_Code) l_1_Credits l_1_Grade l_1_Day [l_1_Sources0] l_1_Bundle ([]:List Int))).Sources ((qa.mk (qb.mk l_1_Course_School l_1_Course_Code) l_1_Credits l_1_Grade l_1_Day [l_1_Sources0] l_1_Bundle ([]:List Int))).Bundle ((qa.mk (qb.mk l_1_Course_School l_1_Course_Code) l_1_Credits l_1_Grade l_1_Day [l_1_Sources0] l_1_Bundle ([]:List Int))).Path l_2_Course_School l_2_Course_Code l_2_Credits l_2_Grade l_2_Day l_2_Bundle ([]:List Int) _ rfl
 first
  | exact h
  | (simp only[rL,dL,bR,bZ,Nat.reduceAdd] at h;exact h)
theorem qr2:okL 18 q7x:=qM (qi qnV) (by kernel_rfl) (by kernel_rfl)
def qrb:=JA_ @q7x.eq_1 (JA_ @Try.f18.eq_1 @qnV)
theorem qmu:lbO 18 4=qa4:=Q0 (qi qnV) rfl
theorem ql1:okL 18 qa4:=zo qr2 (qug (i:=0) (by kernel_rfl))
def zg (a:List (List Int)) (b:List (List Int)):Int→Option (Int⊕(Unit⊕Unit))|k=>if k<((a.length:Nat):Int) then if 0≤k∧k<((a.length:Nat):Int) then Option.bind a[Int.toNat k]? fun(a2:List Int)=>if 0≤k∧k<((b.length:Nat):Int) then Option.bind b[Int.toNat k]? fun(a3:List Int)=>Option.bind (Qk a2 a3) fun(a4:Bool)=>if(!a4)=Bool.true then some (Sum.inr (Sum.inl ())) else some (Sum.inl (w64 (k+1))) else none else none else some (Sum.inr (Sum.inr ()))
theorem Jh:∀(a b:List (List Int)) (k:Int),XL2 evo 18 0 4 ⟨[(0,rL 1 (eL 1 eI) a),(1,rL 1 (eL 1 eI) b),(5,rI k)],[],0,29⟩=(qG (zg a b) k).bind (Sum.elim (fun(e:Unit)=>some (Exit.ret,⟨[(4,rB Bool.false)],[],0,29⟩)) (fun(e:Unit)=>some (Exit.exit 0,⟨[(4,R.any)],[],0,29⟩))):=
 fun a b k=>by
  revert k;exact qb5 qmu ql1 (fun e=>by rcases e with _|_<;>exact⟨_,rfl,fun h=>by cases h⟩) fun x=>by
   have:=qrb;have:=@qa4.eq_1;have:=@q16;have:=@zg.eq_1;exact gA
def zq (a:List (List Int)) (b:List (List Int)):Option Bool:=if(((a.length:Nat):Int) != ((b.length:Nat):Int))=Bool.true then some Bool.false else Option.bind (qG (zg a b) 0) fun(a2:Sum Unit Unit)=>Sum.elim (fun(a3:Unit)=>some Bool.false) (fun(a4:Unit)=>some Bool.true) a2
theorem q0n:∀(a b:List (List Int)),ev 18 0 [rL 1 (eL 1 eI) a,rL 1 (eL 1 eI) b] []=(zq a b).bind (fun(e:Bool)=>some (rB e,[])):=
 fun a b=>by
  rw[qL qnV qs7.2.2.2 qr2]
  have:=qrb;have:=@Jh;have:=@zq.eq_1;exact gA
theorem Ja:∀(b00 b01 b02 b10:Int) (a:List (List Int)),ev 18 0 [rL 1 (eL 1 eI) a,R.c (C.d (D.sl 1 2 [D.sl 1 3 [D.int .i64 b00,D.int .i64 b01,D.int .i64 b02],D.sl 1 1 [D.int .i64 b10]]))] []=(zq a [[b00,b01,b02],[b10]]).bind (fun(e:Bool)=>some (rB e,[])):=by
 intro b00 b01 b02 b10 a;have h:=q0n a [[b00,b01,b02],[b10]]
 first
  | exact h
  | (simp only[rL,dL,bR,bZ,Nat.reduceAdd] at h;exact h)
def QH:Option Bool:=Option.bind (zY 3 (qf.mk 1 0 0 0 (ByteArray.mk (List.toArray [])) (qg.mk 0 0 0 [] []) 0 0 0 []) (qe.mk 0 100 50) 100 (qa.mk (qb.mk 1 (ByteArray.mk (List.toArray [65,49]))) 5 60 5 [(1:Int)] 0 []) (qa.mk (qb.mk 1 (ByteArray.mk (List.toArray [65,49]))) 5 70 9 [(2:Int)] 0 []) (qa.mk (qb.mk 1 (ByteArray.mk (List.toArray [66,49]))) 5 50 0 [(3:Int)] 0 [])) fun(a:Prod (List qa) Int)=>Option.bind (zZ 3 (qf.mk 1 0 0 0 (ByteArray.mk (List.toArray [])) (qg.mk 0 0 0 [] []) 0 0 0 []) (qe.mk 0 100 50) 100 [(2:Int)] (qa.mk (qb.mk 1 (ByteArray.mk (List.toArray [65,49]))) 5 60 5 [(1:Int)] 0 []) (qa.mk (qb.mk 1 (ByteArray.mk (List.toArray [65,49]))) 5 70 9 [(2:Int)] 0 []) 1 (ByteArray.mk (List.toArray [66,49])) 5 50 0 1 []) fun(a2:Sum (Prod (List qa) (Prod Int qa)) (Prod (List qa) Int))=>Sum.elim (fun(a3:Prod (List qa) (Prod Int qa))=>if(a.2 != 0)=Bool.true then some Bool.false else if(a3.2.1 != 0)=Bool.true then some Bool.false else if(((a.1.length:Nat):Int) != 2)=Bool.true then some Bool.false else if 0<((a.1.length:Nat):Int) then Option.bind a.1[0]? fun(a5:qa)=>if(a5.Grade != 70)=Bool.true then some Bool.false else if 1<((a.1.length:Nat):Int) then Option.bind a.1[1]? fun(a6:qa)=>if(!(ByteArray.toList a6.Course.Code==ByteArray.toList (ByteArray.mk (List.toArray [66,49]))))=Bool.true then some Bool.false else if(((a3.1.length:Nat):Int) != 3)=Bool.true then some Bool.false else Option.bind (zO [qa.mk (qb.mk 1 (ByteArray.mk (List.toArray [65,49]))) 5 60 0 [(1:Int)] 0 [],qa.mk (qb.mk 1 (ByteArray.mk (List.toArray [66,49]))) 10 60 0 [(3:Int)] 0 [],qa.mk (qb.mk 1 (ByteArray.mk (List.toArray [65,49]))) 6 60 0 [(2:Int)] 0 []]) fun(a7:Prod Int Int)=>if(a7.2==0)=Bool.true then if(a7.1==16)=Bool.true then Option.bind (zl [qa.mk (qb.mk 1 (ByteArray.mk (List.toArray [65,49]))) 5 60 0 [(1:Int)] 0 [],qa.mk (qb.mk 1 (ByteArray.mk (List.toArray [66,49]))) 10 60 0 [(3:Int)] 0 [],qa.mk (qb.mk 1 (ByteArray.mk (List.toArray [65,49]))) 6 60 0 [(2:Int)] 0 [],qa.mk (qb.mk 1 (ByteArray.mk (List.toArray [67,49]))) 5 60 0 [(2:Int)] 1 []]) fun(a8:List (List Int))=>Option.bind (zq a8 [[(0:Int),2,3],[(1:Int)]]) fun(e0:Bool)=>some e0 else some Bool.false else some Bool.false else none else none) (fun(a4:Prod (List qa) Int)=>if(a.2 != 0)=Bool.true then some Bool.false else if(a4.2 != 0)=Bool.true then some Bool.false else if(((a.1.length:Nat):Int) != 2)=Bool.true then some Bool.false else if 0<((a.1.length:Nat):Int) then Option.bind a.1[0]? fun(a9:qa)=>if(a9.Grade != 70)=Bool.true then some Bool.false else if 1<((a.1.length:Nat):Int) then Option.bind a.1[1]? fun(a10:qa)=>if(!(ByteArray.toList a10.Course.Code==ByteArray.toList (ByteArray.mk (List.toArray [66,49]))))=Bool.true then some Bool.false else if(((a4.1.length:Nat):Int) != 3)=Bool.true then some Bool.false else Option.bind (zO [qa.mk (qb.mk 1 (ByteArray.mk (List.toArray [65,49]))) 5 60 0 [(1:Int)] 0 [],qa.mk (qb.mk 1 (ByteArray.mk (List.toArray [66,49]))) 10 60 0 [(3:Int)] 0 [],qa.mk (qb.mk 1 (ByteArray.mk (List.toArray [65,49]))) 6 60 0 [(2:Int)] 0 []]) fun(a11:Prod Int Int)=>if(a11.2==0)=Bool.true then if(a11.1==16)=Bool.true then Option.bind (zl [qa.mk (qb.mk 1 (ByteArray.mk (List.toArray [65,49]))) 5 60 0 [(1:Int)] 0 [],qa.mk (qb.mk 1 (ByteArray.mk (List.toArray [66,49]))) 10 60 0 [(3:Int)] 0 [],qa.mk (qb.mk 1 (ByteArray.mk (List.toArray [65,49]))) 6 60 0 [(2:Int)] 0 [],qa.mk (qb.mk 1 (ByteArray.mk (List.toArray [67,49]))) 5 60 0 [(2:Int)] 1 []]) fun(a12:List (List Int))=>Option.bind (zq a12 [[(0:Int),2,3],[(1:Int)]]) fun(e02:Bool)=>some e02 else some Bool.false else some Bool.false else none else none) a2
theorem q1N:ev 8 0 [] []=(QH).bind (fun(e:Bool)=>some (rB e,[])):=
 by
  rw[qL bd8 pw8.2.2.2 lo8]
  have:=cx8;have:=@q48;have:=@q1y;have:=@JS;have:=@JM;have:=@q1b;have:=@q0B;have:=@Ja;have:=@QH.eq_1;exact gA
end

noncomputable section
open Go.RowKit
structure QV (d:qd):Prop where
 lo:0≤d.At
 hi:d.At≤d.L.length
 len:d.L.length≤9223372036854775807
theorem Jf {d:qd} (h:QV d) {most:Int} (h0:0<most) (h1:most≤1000000):∃v d',qh most d=some (v,d')∧0≤v∧v<most∧QV d':=by
 obtain⟨a,b,c⟩:=h
 unfold qh
 by_cases he:(d.L.length:Int)≤d.At
 ·exact⟨0,d,if_pos he,Int.le_refl _,h0,⟨a,b,c⟩⟩
 ·obtain⟨x,hx⟩:∃x,d.L[Int.toNat d.At]?=some x:=⟨_,quh (by omega)⟩
  have e1:=Int.tmod_lt_of_pos x h0
  have e2 : -most<Int.tmod x most:=by
   have:=Int.tmod_lt_of_pos (-x) h0
   rw[Int.neg_tmod] at this;omega
  have e3:w64 (Int.tmod x most+most)=Int.tmod x most+most:=Q9 (by omega) (by omega)
  have e4:=Int.tmod_lt_of_pos (Int.tmod x most+most) h0
  have e5:0≤Int.tmod (Int.tmod x most+most) most:=Int.tmod_nonneg _ (by omega)
  have e6:w64 (d.At+1)=d.At+1:=Q9 (by omega) (by omega)
  refine⟨Int.tmod (Int.tmod x most+most) most,⟨d.L,d.At+1⟩,?_,e5,e4,⟨by show 0≤d.At+1;omega,by show d.At+1≤d.L.length;omega,c⟩⟩
  rw[if_neg he,if_pos ⟨a,by omega⟩,hx,quf,if_neg (by omega),if_neg (by omega),e3,e6]
def q2L:List Int:=[1,1,1,2,2,3]
def qbR (c:qb):Prop:=c.School∈q2L∧c.Code∈qt
theorem qdO {α:Type} (l:List α) (i:Int) (h0:0≤i) (h1:i<l.length):∃x,l[Int.toNat i]?=some x∧x∈l:=⟨l[Int.toNat i],quh (by omega),qv7 _⟩
theorem q6L {d:qd} (h:QV d):∃c d',Q7 d=some (c,d')∧qbR c∧QV d':=by
 obtain⟨v,d1,e1,a1,b1,h1⟩:=Jf h (most:=6) (by omega) (by omega)
 obtain⟨w,d2,e2,a2,b2,h2⟩:=Jf h1 (most:=((qt.length:Nat):Int)) (by unfold qt;simp) (by unfold qt;simp)
 obtain⟨x,hx,mx⟩:=qdO q2L v a1 (by simpa [q2L] using b1)
 obtain⟨y,hy,my⟩:=qdO qt w a2 b2
 refine⟨⟨x,y⟩,d2,?_,⟨mx,my⟩,h2⟩
 unfold Q7
 rw[e1,quf,if_pos ⟨a1,b1⟩]
 unfold q2L at hx
 rw[hx,quf,e2,quf,if_pos ⟨a2,b2⟩,hy,quf]
def q6W (a b:qb):Bool:=zm a b
def ceq (a b:qb):Bool:=(a.School==b.School)&&(a.Code.toList==b.Code.toList)
def qjf {α:Type} (l:List α) (k:Nat) (c:α):List α:=l.take k++c::l.drop k
theorem qfN {α:Type}:∀(ys l:List α) (k:Nat),k+ys.length≤l.length→spl l k ys=l.take k++(ys++l.drop (k+ys.length))
 | [],l,k,_=>by rw[spl,quZ,Nat.add_zero,quA,qv4]
 | x::ys,l,k,h=>by
  simp only[qur] at h ⊢
  rw[spl,qfN ys (l.set k x) (k+1) (by rw[qv1];omega)]
  have e:l.set k x=l.take k++x::l.drop (k+1):=by rw[List.set_eq_take_append_cons_drop,if_pos (by omega)]
  have hl:(l.take k).length=k:=by rw[quJ];omega
  have e1:(l.set k x).take (k+1)=l.take k++[x]:=by
   rw[e,List.take_append,hl,qvl (by omega),show k+1-k=1 by omega];rfl
  have e2:(l.set k x).drop (k+1+ys.length)=l.drop (k+(ys.length+1)):=by
   rw[e,List.drop_append,hl,quW (by omega),quA,show k+1+ys.length-k=ys.length+1 by omega,List.drop_succ_cons,qv3]
   congr 1;omega
  rw[e1,e2,quV]
  rfl
theorem qgo {α:Type} (l:List α) (z c:α) (k:Nat) (h:k<l.length):List.set (spl (l++[z]) (k+1) (List.take (min (l.length+1-k) (l.length+1-(k+1))) (List.take (l.length+1-k) (List.drop k (l++[z]))))) k c=qjf l k c:=by
 have e1:List.take (min (l.length+1-k) (l.length+1-(k+1))) (List.take (l.length+1-k) (List.drop k (l++[z])))=l.drop k:=by
  rw[List.take_take,List.drop_append_of_le_length (by omega),show min (min (l.length+1-k) (l.length+1-(k+1))) (l.length+1-k)=l.length-k by omega,List.take_append_of_le_length (by rw[qv2];omega),qvl (by rw[qv2];omega)]
 rw[e1,qfN _ _ _ (by rw[qv2,qum,quy];omega)]
 unfold qjf
 have e2:List.drop (k+1+(l.length-k)) (l++[z])=[]:=quW (by rw[qum,quy];omega)
 rw[qv2,e2,quB,List.take_append_of_le_length (by omega)]
 rw[List.take_add_one,quh h,Option.toList_some,quV,List.set_append_right _ _ (by rw[quJ];omega),quJ,Nat.min_eq_left (by omega),Nat.sub_self]
 rfl
theorem qef {α:Type} (l:List α) (z c:α):List.set (l++[z]) l.length c=qjf l l.length c:=by
 unfold qjf
 rw[List.set_append_right _ _ (quw _),Nat.sub_self,List.take_length,List.drop_length]
 rfl
def atF (l:List qb) (c:qb):Nat:=(l.takeWhile fun x=>q6W x c).length
theorem qgg (l:List qb) (c:qb):atF l c≤l.length:=by
 unfold atF
 induction l with
 | nil=>simp
 | cons x l ih=>rw[List.takeWhile_cons];split<;>simp<;>omega
theorem qhr (out:List qb) (hl:out.length≤1000000) (d:qd) (c:qb) (many k:Int):qG (Q6 out d c many k) 0=some ((atF out c:Nat):Int):=by
 have h1:=q9L (ε:=Int) (step:=Q6 out d c many k) out (fun(_:Unit) i=>(i:Int)) (fun i _ x=>if q6W x c=true then .inl () else .inr (i:Int)) (fun _=>(out.length:Int)) (fun _ i x hx=>by
   have hi:=Qq hx
   unfold Q6
   rw[if_pos (by omega),if_pos ⟨by omega,by omega⟩,qui,hx,quf,q4E hi (by omega)]
   show(if q6W x c=true then _ else _)=_
   cases q6W x c<;>simp) (fun _=>by
   unfold Q6
   rw[if_neg (by omega)]) ()
 rw[show((0:Nat):Int)=0 from rfl] at h1
 rw[h1]
 congr 1
 have:∀(l:List qb) (i:Nat) (n:Nat),i+l.length=n→q6t (ε:=Int) (fun i (_:Unit) (x:qb)=>if q6W x c=true then .inl () else .inr (i:Int)) (fun _=>(n:Int)) l i ()=((i+atF l c:Nat):Int):=by
  intro l
  induction l with
  | nil=>intro i n h;simp at h;unfold q6t atF;simp[h]
  | cons x l ih=>
   intro i n h
   simp only[qur] at h
   unfold q6t
   by_cases hx:q6W x c=true
   ·have e:atF (x::l) c=atF l c+1:=by unfold atF;rw[List.takeWhile_cons,if_pos hx];rfl
    simp only[hx,if_true]
    rw[ih (i+1) n (by omega),e]
    omega
   ·have e:atF (x::l) c=0:=by unfold atF;rw[List.takeWhile_cons,if_neg hx];rfl
    have hx':q6W x c=false:=by simpa using hx
    simp only[hx',Bool.false_eq_true,if_false]
    rw[e];rfl
 have:=this out 0 out.length (by simp)
 simpa using this
def qjg (l:List qb) (c:qb):List qb:=if(l[atF l c]?).any (fun x=>ceq x c)=true then l else qjf l (atF l c) c
theorem qgt (l:List qb) (c:qb):l.length≤(qjg l c).length∧(qjg l c).length≤l.length+1∧1≤(qjg l c).length:=by
 have h:=qgg l c
 unfold qjg
 split
 ·rename_i h2
  refine⟨quw _,by omega,?_⟩
  cases l with
  | nil=>simp at h2
  | cons x l=>simp
 ·unfold qjf
  simp only[qum,qur,quJ,qv2]
  omega
theorem qbr (out:List qb) (hl:out.length≤1000) {d:qd} (hd:QV d) (many:Int) (k:Nat) (hk:(k:Int)<many) (hk2:k≤1000):∃c d',qbR c∧QV d'∧zy many (out,d,(k:Int))=some (.inl (qjg out c,d',((k+1:Nat):Int))):=by
 obtain⟨c,d',h1,h2,h3⟩:=q6L hd
 refine⟨c,d',h2,h3,?_⟩
 have hML:100000≤maxLen:=by unfold maxLen;omega
 have hat:=qgg out c
 unfold zy
 simp only
 rw[if_pos hk,h1,quf]
 simp only
 rw[qhr out (by omega),quf]
 have hwk:w64 ((k:Int)+1)=((k+1:Nat):Int):=by rw[Q9 (by omega) (by omega)];omega
 have hwa:w64 (((atF out c:Nat):Int)+1)=((atF out c+1:Nat):Int):=by rw[Q9 (by omega) (by omega)];omega
 rw[hwk,hwa]
 simp only[qui,quJ,qv2,qum,qur,quZ]
 unfold qjg
 by_cases hlt:atF out c<out.length
 ·obtain⟨x,hx⟩:∃x,out[atF out c]?=some x:=⟨_,quh hlt⟩
  rw[if_pos (by omega),if_pos ⟨by omega,by omega⟩,hx,quf]
  simp only[Option.any_some]
  by_cases hc:ceq x c=true
  ·have hc2:=hc
   unfold ceq at hc2
   simp only[quM] at hc2
   rw[if_pos hc2,if_pos hc]
  ·have hc2:¬ ((x.School==c.School)=true∧(x.Code.toList==c.Code.toList)=true):=fun h=>hc (by unfold ceq;rw[h.1,h.2];rfl)
   rw[if_neg hc2,if_neg hc]
   repeat (first|rw[if_pos (by omega)]|rw[if_neg (by omega)])
   rw[qgo _ _ _ _ hlt]
 ·have he:atF out c=out.length:=by omega
  have hnone:out[out.length]?=none:=quO (quw _)
  rw[he,hnone]
  simp only[Option.any_none,Bool.false_eq_true,if_false]
  repeat (first|rw[if_pos (by omega)]|rw[if_neg (by omega)])
  rw[qef]
theorem qrQ {d:qd} (hd:QV d):∃S d',zI d=some (S,d')∧QV d':=by
 obtain⟨v,d1,e1,a1,b1,h1⟩:=Jf hd (most:=3) (by omega) (by omega)
 obtain⟨m,rfl⟩:∃m:Nat,v=(m:Int):=⟨v.toNat,by omega⟩
 have hw:w64 (1+(m:Int))=((m+1:Nat):Int):=by rw[Q9 (by omega) (by omega)];omega
 have key:∀(j k:Nat) (out:List qb) (d:qd),j+k=m+1→QV d→out.length≤k→∃S d',qG (zy ((m+1:Nat):Int)) (out,d,(k:Int))=some (S,d')∧QV d':=by
  intro j
  induction j with
  | zero=>
   intro k out d hk hd hl1
   refine⟨out,d,zn ?_,hd⟩
   unfold zy
   simp only
   rw[if_neg (by omega)]
  | succ j ih=>
   intro k out d hk hd hl1
   obtain⟨c,d',g1,g2,g3⟩:=qbr out (by omega) hd ((m+1:Nat):Int) k (by omega) (by omega)
   obtain⟨p1,p2,p3⟩:=qgt out c
   rw[Qa g3]
   exact ih (k+1) _ d' (by omega) g2 (by omega)
 obtain⟨S,d',g1,g2⟩:=key (m+1) 0 [] d1 (by omega) h1 (by simp)
 refine⟨S,d',?_,g2⟩
 unfold zI
 rw[e1,quf,hw]
 rw[show((0:Nat):Int)=0 from rfl] at g1
 simp only
 rw[g1,quf]
def qaO (d:qd):Option (qg×qd):=Option.bind (qh (3:Int) d) fun a3=>if(a3.1==(0:Int))=Bool.true then Option.bind (qh (12:Int) a3.2) fun a4=>Option.bind (qh (3:Int) a4.2) fun a5=>if(0:Int)≤a5.1∧a5.1<(3:Int) then Option.bind [(0:Int),(50:Int),(60:Int)][Int.toNat a5.1]? fun a6=>Option.bind (zI a5.2) fun a7=>some (qg.mk (2:Int) (w64 ((1:Int)+a4.1)) a6 a7.1 [],a7.2) else none else Option.bind (qh (4:Int) a3.2) fun a8=>if(0:Int)≤a8.1∧a8.1<(4:Int) then Option.bind [(0:Int),(50:Int),(60:Int),(80:Int)][Int.toNat a8.1]? fun a9=>Option.bind (zI a8.2) fun a10=>some (qg.mk (1:Int) (0:Int) a9 a10.1 [],a10.2) else none
theorem q8H {d:qd} (hd:QV d):∃n d',qaO d=some (n,d')∧QV d':=by
 obtain⟨v,d1,e1,a1,b1,h1⟩:=Jf hd (most:=3) (by omega) (by omega)
 unfold qaO
 rw[e1,quf]
 simp only
 by_cases hv:v=0
 ·obtain⟨w,d2,e2,a2,b2,h2⟩:=Jf h1 (most:=12) (by omega) (by omega)
  obtain⟨u,d3,e3,a3,b3,h3⟩:=Jf h2 (most:=3) (by omega) (by omega)
  obtain⟨x,hx,mx⟩:=qdO [(0:Int),50,60] u a3 (by simpa using b3)
  obtain⟨S,d4,e4,h4⟩:=qrQ h3
  have hw:w64 (1+w)=1+w:=Q9 (by omega) (by omega)
  refine⟨⟨2,1+w,x,S,[]⟩,d4,?_,h4⟩
  rw[if_pos (by simp[hv]),e2,quf]
  simp only
  rw[e3,quf]
  simp only
  rw[if_pos ⟨a3,b3⟩,hx,quf,e4,quf,hw]
 ·obtain⟨u,d3,e3,a3,b3,h3⟩:=Jf h1 (most:=4) (by omega) (by omega)
  obtain⟨x,hx,mx⟩:=qdO [(0:Int),50,60,80] u a3 (by simpa using b3)
  obtain⟨S,d4,e4,h4⟩:=qrQ h3
  refine⟨⟨1,0,x,S,[]⟩,d4,?_,h4⟩
  rw[if_neg (by simpa using hv),e3,quf]
  simp only
  rw[if_pos ⟨a3,b3⟩,hx,quf,e4,quf]
theorem q2n (rF:(Int×Int×qd)→Option (qg×qd)) (x1 x2:Int) (v:qd):Qv rF (x1,x2,v)=(qh 6 v).bind fun a2=>
  if x1≤0 then qaO a2.2 else if x2<2 then qaO a2.2 else if a2.1<2 then qaO a2.2 else
  Option.bind (qh (min (3:Int) x2) a2.2) fun a27=>
  Option.bind (qG (z8 rF (0:Int) (0:Int) (0:Int) (3:Int) (0:Int) (0:Int) x1 x2 a2.1 (w64 ((1:Int)+a27.1))) ([],(a27.2,(0:Int)))) fun a28=>
  if(3:Int)<a2.1 then Option.bind (qh (w64 ((1:Int)+a27.1)) a28.2) fun a29=>
   some (qg.mk (4:Int) (w64 ((1:Int)+a29.1)) (0:Int) [] a28.1,a29.2)
  else some (qg.mk (3:Int) (0:Int) (0:Int) [] a28.1,a28.2):=rfl
theorem qa5:∀(deep leaves:Nat) (d:qd),deep≤10→leaves≤100→QV d→∃n d',zu ((deep:Int),(leaves:Int),d)=some (n,d')∧QV d':=by
 intro deep
 induction deep with
 | zero=>
  intro leaves d _ _ hd
  obtain⟨v,d1,e1,a1,b1,h1⟩:=Jf hd (most:=6) (by omega) (by omega)
  obtain⟨n,d',g1,g3⟩:=q8H h1
  refine⟨n,d',?_,g3⟩
  rw[q05,q2n,e1,quf,if_pos (by omega)]
  exact g1
 | succ deep ih=>
  intro leaves d hdp hlv hd
  obtain⟨v,d1,e1,a1,b1,h1⟩:=Jf hd (most:=6) (by omega) (by omega)
  obtain⟨n0,d0,g1,g3⟩:=q8H h1
  rw[q05,q2n,e1,quf,if_neg (by omega)]
  by_cases hl:leaves<2
  ·exact⟨n0,d0,by rw[if_pos (by omega)];exact g1,g3⟩
  ·rw[if_neg (by omega)]
   by_cases hv:v<2
   ·exact⟨n0,d0,by rw[if_pos hv];exact g1,g3⟩
   ·rw[if_neg hv]
    clear g1 g3 n0 d0
    obtain⟨w,d2,e2,a2,b2,h2⟩:=Jf h1 (most:=min 3 (leaves:Int)) (by omega) (by omega)
    simp only
    rw[e2,quf]
    simp only
    obtain⟨m,hm⟩:∃m:Nat,(m:Int)=1+w:=⟨(1+w).toNat,by omega⟩
    have hw:w64 (1+w)=(m:Int):=by rw[Q9 (by omega) (by omega)];omega
    rw[hw]
    have hm1:1≤m:=by omega
    have hm3:m≤3:=by omega
    have hml:m≤leaves:=by omega
    obtain⟨q,hq⟩:∃q,q=leaves / m:=⟨_,rfl⟩
    have hq1:1≤q:=by rw[hq];exact(Nat.le_div_iff_mul_le (by omega)).2 (by omega)
    have hqm:m*q≤leaves:=by rw[hq];exact Nat.mul_div_le _ _
    have hq2:q≤leaves:=by rw[hq];exact Nat.div_le_self _ _
    have hML:100000≤maxLen:=by unfold maxLen;omega
    have hdiv:w64 (Int.tdiv (leaves:Int) (m:Int))=(q:Int):=by
     rw[←Int.ofNat_tdiv,←hq,Q9 (by omega) (by omega)]
    have hdeep:w64 (((deep+1:Nat):Int)-1)=(deep:Int):=by rw[Q9 (by omega) (by omega)];omega
    have key:∀(j i:Nat) (l:List qg) (d:qd),j+i=m→l.length=i→QV d→∃l' d',qG (z8 zu 0 0 0 3 0 0 ((deep+1:Nat):Int) (leaves:Int) v (m:Int)) (l,d,(i:Int))=some (l',d')∧l'.length=m∧QV d':=by
     intro j
     induction j with
     | zero=>
      intro i l d hi hl hd
      refine⟨l,d,zn ?_,by omega,hd⟩
      unfold z8
      simp only
      rw[if_neg (by omega)]
     | succ j ihj=>
      intro i l d hi hl hd
      obtain⟨n,d',q1,q3⟩:=ih q d (by omega) (by omega) hd
      have hs:z8 zu 0 0 0 3 0 0 ((deep+1:Nat):Int) (leaves:Int) v (m:Int) (l,d,(i:Int))=some (.inl (l++[n],d',((i+1:Nat):Int))):=by
       unfold z8
       simp only
       rw[if_pos (by omega),if_neg (by omega),hdiv,hdeep,q1,quf]
       simp only
       rw[if_pos ⟨by omega,by omega⟩,Q9 (by omega) (by omega)]
       rfl
      rw[Qa hs]
      exact ihj (i+1) (l++[n]) d' (by omega) (by simp[hl]) q3
    obtain⟨l,d3,q1,q2,q4⟩:=key m 0 [] d2 (by omega) rfl h2
    rw[show((0:Nat):Int)=0 from rfl] at q1
    rw[q1,quf]
    by_cases hv3:(3:Int)<v
    ·obtain⟨u,d4,e4,a4,b4,h4⟩:=Jf q4 (most:=(m:Int)) (by omega) (by omega)
     have hwu:w64 (1+u)=1+u:=Q9 (by omega) (by omega)
     simp only
     rw[if_pos hv3,e4,quf,hwu]
     exact⟨_,d4,rfl,h4⟩
    ·simp only
     rw[if_neg hv3]
     exact⟨_,d3,rfl,q4⟩
abbrev nmL:List ByteArray:=[ByteArray.mk (List.toArray [77,117,115,105,99]),ByteArray.mk (List.toArray [76,97,119]),ByteArray.mk (List.toArray [79,108,100,32,109,97,112,115])]
abbrev agL:List Int:=[(0:Int),(0:Int),(0:Int),(2:Int),(5:Int)]
theorem qjt (l:List Int) (hl:l.length≤9223372036854775807):∃p,qF l=some p:=by
 obtain⟨v1,d1,e1,a1,b1,h1⟩:=Jf (d:=⟨l,0⟩) ⟨by show(0:Int)≤0;omega,by show(0:Int)≤(l.length:Int);omega,hl⟩ (most:=3) (by omega) (by omega)
 obtain⟨v2,d2,e2,a2,b2,h2⟩:=Jf h1 (most:=3) (by omega) (by omega)
 obtain⟨v3,d3,e3,a3,b3,h3⟩:=Jf h2 (most:=5) (by omega) (by omega)
 obtain⟨v4,d4,e4,a4,b4,h4⟩:=Jf h3 (most:=3) (by omega) (by omega)
 obtain⟨v6,d6,e6,a6,b6,h6⟩:=Jf h4 (most:=20) (by omega) (by omega)
 obtain⟨v7,d7,e7,a7,b7,h7⟩:=Jf h6 (most:=3) (by omega) (by omega)
 obtain⟨v8,d8,e8,a8,b8,h8⟩:=Jf h7 (most:=6) (by omega) (by omega)
 obtain⟨v9,d9,e9,a9,b9,h9⟩:=Jf h8 (most:=5) (by omega) (by omega)
 obtain⟨v11,d11,e11,a11,b11,h11⟩:=Jf h9 (most:=3) (by omega) (by omega)
 obtain⟨c1,d12,e12,m12,h12⟩:=q6L h11
 obtain⟨c2,d13,e13,m13,h13⟩:=q6L h12
 obtain⟨n1,d14,e14,h14⟩:=qa5 3 6 d13 (by omega) (by omega) h13
 obtain⟨n2,d15,e15,h15⟩:=qa5 3 6 d11 (by omega) (by omega) h11
 obtain⟨nm,g5,q5⟩:=qdO nmL v4 a4 (by show v4<((3:Nat):Int);omega)
 obtain⟨ag,g10,q10⟩:=qdO agL v9 a9 (by show v9<((5:Nat):Int);omega)
 have w1:w64 (1+v1)=1+v1:=Q9 (by omega) (by omega)
 have w2:w64 (1+v2)=1+v2:=Q9 (by omega) (by omega)
 have w3:w64 (100*v3)=100*v3:=Q9 (by omega) (by omega)
 have hm:0≤v7*v8∧v7*v8≤10:=by
  have hv7:v7=0∨v7=1∨v7=2:=by omega
  rcases hv7 with rfl|rfl|rfl<;>omega
 have w4:w64 (v7*v8)=v7*v8:=Q9 (by omega) (by omega)
 have e14':zu ((3:Int),((6:Int),d13))=some (n1,d14):=e14
 have e15':zu ((3:Int),((6:Int),d11))=some (n2,d15):=e15
 unfold qF
 rw[e1,quf];dsimp only
 rw[e2,quf];dsimp only
 rw[e3,quf];dsimp only
 rw[e4,quf];dsimp only
 rw[if_pos ⟨a4,b4⟩,g5,quf,e6,quf];dsimp only
 rw[e7,quf];dsimp only
 rw[e8,quf];dsimp only
 rw[e9,quf];dsimp only
 rw[if_pos ⟨a9,b9⟩,g10,quf,e11,quf];dsimp only
 rw[w1,w2,w3,w4]
 by_cases h0:v11=0
 ·rw[if_pos (by simpa using h0),e12,quf];dsimp only
  rw[e13,quf];dsimp only
  by_cases hp:zm c1 c2=true
  ·rw[if_pos hp,e14',quf]
   exact⟨_,rfl⟩
  ·rw[if_neg hp,e14',quf]
   exact⟨_,rfl⟩
 ·rw[if_neg (by simpa using h0),e15',quf]
  exact⟨_,rfl⟩
end
noncomputable section
open Go.RowKit
section
variable {α ε:Type} {step:Int→Option (Int⊕ε)} (l:List α)
theorem qdu (q:α→Bool) (e0 e1:ε) (hs:∀(i:Nat) (a:α),l[i]?=some a→step (i:Int)=some (if q a=true then .inl ((i+1:Nat):Int) else .inr e0)) (he:step ((l.length:Nat):Int)=some (.inr e1)) :
  qG step (0:Int)=some (if l.all q=true then e1 else e0):=by
 have key:∀(r:List α) (i:Nat),r.length+i=l.length→(∀j,r[j]?=l[i+j]?)→qG step (i:Int)=some (if r.all q=true then e1 else e0):=by
  intro r
  induction r with
  | nil=>
   intro i hi _
   have:i=l.length:=by simpa using hi
   subst this
   exact zn he
  | cons a r ih=>
   intro i hi hj
   have ha:l[i]?=some a:=by have:=hj 0;rw[Nat.add_zero] at this;exact this.symm
   have h1:=hs i a ha
   rw[List.all_cons]
   cases hq:q a
   ·rw[hq,if_neg (by decide)] at h1
    exact zn h1
   ·rw[hq,if_pos rfl] at h1
    rw[Qa h1,ih (i+1) (by simp only[qur] at hi;omega) (fun j=>by have:=hj (j+1);rw[quF] at this;rw[this];congr 1;omega),quN]
 exact key l 0 (by omega) fun j=>by rw[quE]
theorem q1H (q:α→Bool) (mk:Nat→ε) (e1:ε) (hs:∀(i:Nat) (a:α),l[i]?=some a→step (i:Int)=some (if q a=true then .inr (mk i) else .inl ((i+1:Nat):Int))) (he:step ((l.length:Nat):Int)=some (.inr e1)) :
  (l.any q=true∧∃i,qG step (0:Int)=some (mk i))∨(l.any q=false∧qG step (0:Int)=some e1):=by
 have key:∀(r:List α) (i:Nat),r.length+i=l.length→(∀j,r[j]?=l[i+j]?)→(r.any q=true∧∃k,qG step (i:Int)=some (mk k))∨(r.any q=false∧qG step (i:Int)=some e1):=by
  intro r
  induction r with
  | nil=>
   intro i hi _
   have:i=l.length:=by simpa using hi
   subst this
   exact .inr ⟨rfl,zn he⟩
  | cons a r ih=>
   intro i hi hj
   have ha:l[i]?=some a:=by have:=hj 0;rw[Nat.add_zero] at this;exact this.symm
   have h1:=hs i a ha
   rw[List.any_cons]
   cases hq:q a
   ·rw[hq,if_neg (by decide)] at h1
    rw[Qa h1,Bool.false_or]
    exact ih (i+1) (by simp only[qur] at hi;omega) (fun j=>by have:=hj (j+1);rw[quF] at this;rw[this];congr 1;omega)
   ·rw[hq,if_pos rfl] at h1
    exact .inl ⟨rfl,i,zn h1⟩
 exact key l 0 (by omega) fun j=>by rw[quE]
end
theorem Qx {i n:Nat} (h:i<n) (hn:n≤1000000):w64 ((i:Int)+1)=((i+1:Nat):Int):=q4E h (by omega)
theorem q2h (s:List Int) (hs:s.length≤1000000) (v:Int):qN s v=some (s.any fun x=>v==x):=by
 have h:=q1H (step:=qO s v ((s.length:Nat):Int)) s (fun x=>v==x) (fun i => .inl (i:Int)) (.inr ()) (fun i a ha=>by
  have hi:=Qq ha
  unfold qO
  rw[if_pos (by omega),if_pos ⟨by omega,by omega⟩,qui,ha,quf,Qx hi hs]
  split<;>rfl) (by
  unfold qO
  rw[if_neg (by omega)])
 unfold qN zV
 rcases h with ⟨h1,i,h2⟩|⟨h1,h2⟩
 ·rw[h2,quf,Sum.elim_inl,quf,h1,qvg (by omega)]
 ·rw[h2,quf,Sum.elim_inr,quf,h1,decide_eq_false (by omega)]
def q5C (a b:List Int):Bool:=a.any fun x=>b.any fun y=>x==y
theorem qgy (a b:List Int) (ha:a.length≤1000000) (hb:b.length≤1000000):zT a b=some (q5C a b):=by
 have h:=q1H (step:=qB b a ((a.length:Nat):Int)) a (fun x=>b.any fun y=>x==y) (fun i => .inl (i:Int)) (.inr ()) (fun i x hx=>by
  have hi:=Qq hx
  unfold qB Qp
  rw[if_pos (by omega),if_pos ⟨by omega,by omega⟩,qui,hx,quf,q2h b hb,quf,quf,Qx hi ha]
  split<;>rfl) (by
  unfold qB
  rw[if_neg (by omega)])
 unfold zT zb zw q5C
 rcases h with ⟨h1,i,h2⟩|⟨h1,h2⟩
 ·rw[h2,quf,Sum.elim_inl,quf,h1,qvg (by omega),quf]
 ·rw[h2,quf,Sum.elim_inr,quf,h1,decide_eq_false (by omega),quf]
theorem q5u (a b:List Int) (ha:a.length≤1000000):qZ a b=some (decide (a=b)):=by
 unfold qZ
 by_cases hl:a.length=b.length
 ·rw[if_neg (by rw[hl];simp)]
  have key:∀(r q:List Int) (i:Nat),r.length+i=a.length→q.length=r.length→(∀j,r[j]?=a[i+j]?)→(∀j,q[j]?=b[i+j]?)→qG (qC a b ((a.length:Nat):Int)) (i:Int)=some (if r=q then .inr () else .inl ()):=by
   intro r
   induction r with
   | nil=>
    intro q i hi hq _ _
    obtain rfl:=quz hq
    have hi:i=a.length:=by simpa using hi
    refine zn ?_
    unfold qC
    rw[if_neg (by omega),if_pos rfl]
   | cons x r ih=>
    intro q i hi hq hr hb
    cases q with
    | nil=>cases hq
    | cons y q=>
     simp only[qur] at hi hq
     have hx:a[i]?=some x:=by have:=hr 0;rw[Nat.add_zero] at this;exact this.symm
     have hy:b[i]?=some y:=by have:=hb 0;rw[Nat.add_zero] at this;exact this.symm
     have e:qC a b ((a.length:Nat):Int) (i:Int)=some (if(x != y)=true then .inr (.inl ()) else .inl ((i+1:Nat):Int)):=by
      unfold qC
      rw[if_pos (by omega),if_pos ⟨by omega,by omega⟩,qui,hx,quf,if_pos ⟨by omega,by omega⟩,hy,quf,Qx (Qq hx) ha]
      split<;>rfl
     by_cases hxy:x=y
     ·subst hxy
      rw[if_neg (by simp)] at e
      rw[Qa e,ih q (i+1) (by omega) (by omega) (fun j=>by have:=hr (j+1);rw[quF] at this;rw[this];congr 1;omega) (fun j=>by have:=hb (j+1);rw[quF] at this;rw[this];congr 1;omega)]
      simp
     ·rw[if_pos (by simpa using hxy)] at e
      rw[zn e,if_neg (fun h=>hxy (by injection h))]
  have h:=key a b 0 (by omega) hl.symm (fun j=>by rw[quE]) (fun j=>by rw[quE])
  change Option.bind (qG _ ((0:Nat):Int)) _=_
  rw[h,quf]
  by_cases e:a=b
  ·rw[if_pos e,Sum.elim_inr,qvg e]
  ·rw[if_neg e,Sum.elim_inl,decide_eq_false e]
 ·rw[if_pos (by simpa using fun h=>hl (by omega)),decide_eq_false (fun e=>hl (by rw[e]))]
def zP (a:qa):Prop:=a.Sources.length≤1000∧a.Path.length≤1000
def QO (a b:qa):Bool := !ceq a.Course b.Course&&((decide (0<a.Bundle)&&a.Bundle==b.Bundle&&decide (a.Path=b.Path)) || !q5C a.Sources b.Sources)
theorem q8B {a b:qa} (ha:zP a) (hb:zP b):QN a b=some (QO a b):=by
 have h1:=ha.1;have h2:=ha.2;have h3:=hb.1
 unfold QN QO
 rw[q5u _ _ (by omega),qgy _ _ (by omega) (by omega)]
 simp only[quf]
 by_cases hc:ceq a.Course b.Course=true
 ·rw[if_pos (by unfold ceq at hc;rw[quM] at hc;exact hc),hc];rfl
 ·rw[if_neg (by unfold ceq at hc;rw[quM] at hc;exact hc),quI.2 hc]
  by_cases h0:0<a.Bundle
  ·rw[if_pos h0,qvg h0]
   cases hbd:a.Bundle==b.Bundle
   ·rw[if_neg (by decide)];simp
   ·rw[if_pos rfl]
    cases hp:decide (a.Path=b.Path)
    ·rw[if_neg (by decide)];simp
    ·rw[if_pos rfl];simp
  ·rw[if_neg h0,decide_eq_false h0];simp
def q2I (l:List qa):Int:=l.foldl (fun n a=>w64 (n+a.Credits)) 0
theorem q1I (l:List qa) (hl:l.length≤1000):Q3 l=some (q2I l):=by
 have h:=q1M (step:=zQ l ((l.length:Nat):Int)) l (fun(b:Int) k=>(b,(k:Int))) (fun b a=>w64 (b+a.Credits)) (fun b=>b) (fun b k a ha=>by
  have hi:=Qq ha
  unfold zQ
  dsimp only
  rw[if_pos (by omega),if_pos ⟨by omega,by omega⟩,qui,ha,quf,Qx hi (by omega)]) (fun b=>by
  unfold zQ
  dsimp only
  rw[if_neg (by omega)]) 0
 unfold Q3
 change Option.bind (qG _ ((0:Int),((0:Nat):Int))) _=_
 rw[h];rfl
theorem q7U (x m:Int) (h0:0<m) (h1:m≤1000000):∃v,zM x m=some v∧0≤v∧v<m:=by
 have e1:=Int.tmod_lt_of_pos x h0
 have e2 : -m<Int.tmod x m:=by
  have:=Int.tmod_lt_of_pos (-x) h0
  rw[Int.neg_tmod] at this;omega
 have e3:w64 (Int.tmod x m+m)=Int.tmod x m+m:=Q9 (by omega) (by omega)
 refine⟨Int.tmod (Int.tmod x m+m) m,?_,Int.tmod_nonneg _ (by omega),Int.tmod_lt_of_pos _ h0⟩
 unfold zM
 rw[if_neg (by omega),if_neg (by omega),e3]
theorem q3E {d:qd} (h:QV d) {most:Int} (h0:0<most) (h1:most≤1000000):∃v d',qr most d=some (v,d')∧0≤v∧v<most∧QV d':=by
 obtain⟨a,b,c⟩:=h
 unfold qr
 by_cases he:(d.L.length:Int)≤d.At
 ·exact⟨0,d,if_pos he,Int.le_refl _,h0,⟨a,b,c⟩⟩
 ·obtain⟨x,hx⟩:∃x,d.L[Int.toNat d.At]?=some x:=⟨_,quh (by omega)⟩
  obtain⟨v,e1,e2,e3⟩:=q7U x most h0 h1
  have e6:w64 (d.At+1)=d.At+1:=Q9 (by omega) (by omega)
  have e7:w64 (d.At+1-1)=d.At:=by rw[Q9 (by omega) (by omega)];omega
  refine⟨v,⟨d.L,d.At+1⟩,?_,e2,e3,⟨by show 0≤d.At+1;omega,by show d.At+1≤d.L.length;omega,c⟩⟩
  rw[if_neg he,e6,e7,if_pos ⟨a,by omega⟩,hx,quf,e1,quf]
end
noncomputable section
open Go.RowKit
structure q6k (j:Nat) (a:qa):Prop where
 src:a.Sources.length≤2+j
 pth:a.Path.length≤1+j
 crd:0≤a.Credits∧a.Credits≤40
 day:0≤a.Day∧a.Day≤1000
theorem q6k.fit {j:Nat} {a:qa} (h:q6k j a) (hj:j≤900):zP a:=⟨by have:=h.src;omega,by have:=h.pth;omega⟩
theorem q6k.mono {j j':Nat} {a:qa} (h:q6k j a) (hj:j≤j'):q6k j' a:=⟨by have:=h.src;omega,by have:=h.pth;omega,h.crd,h.day⟩
theorem q68 (t0:List (List Int)) (hq:∀q∈t0,q.length≤9223372036854775807) (l:List qa) (k:Nat) (hl:l.length=k) (hk:k<t0.length) (h8:k<8) :
  ∃a,q6k 0 a∧zB t0 (l,(k:Int))=some (.inl (l++[a],((k+1:Nat):Int))):=by
 have hML:100000≤maxLen:=by unfold maxLen;omega
 obtain⟨q,hqk⟩:∃q,t0[k]?=some q:=⟨_,quh hk⟩
 have hd:QV ⟨q,0⟩:=⟨by show(0:Int)≤0;omega,by show(0:Int)≤(q.length:Int);omega,hq q (qug hqk)⟩
 obtain⟨v1,d1,e1,a1,b1,h1⟩:=q3E hd (most:=6) (by omega) (by omega)
 obtain⟨c,hc,_⟩:=qdO qt v1 a1 (by unfold qt;simpa using b1)
 obtain⟨v2,d2,e2,a2,b2,h2⟩:=q3E h1 (most:=3) (by omega) (by omega)
 obtain⟨cr,hcr,mcr⟩:=qdO [(5:Int),6,10] v2 a2 (by simpa using b2)
 obtain⟨v3,d3,e3,a3,b3,h3⟩:=q3E h2 (most:=11) (by omega) (by omega)
 obtain⟨v4,d4,e4,a4,b4,h4⟩:=q3E h3 (most:=60) (by omega) (by omega)
 obtain⟨v5,d5,e5,a5,b5,h5⟩:=q3E h4 (most:=9) (by omega) (by omega)
 obtain⟨v6,d6,e6,a6,b6,h6⟩:=q3E h5 (most:=3) (by omega) (by omega)
 obtain⟨v7,d7,e7,a7,b7,h7⟩:=q3E h6 (most:=3) (by omega) (by omega)
 obtain⟨v8,d8,e8,a8,b8,h8'⟩:=q3E h7 (most:=4) (by omega) (by omega)
 obtain⟨v9,d9,e9,a9,b9,h9⟩:=q3E h8' (most:=3) (by omega) (by omega)
 obtain⟨v10,d10,e10,a10,b10,h10⟩:=q3E h9 (most:=3) (by omega) (by omega)
 obtain⟨v11,d11,e11,a11,b11,h11⟩:=q3E h10 (most:=3) (by omega) (by omega)
 have hw:w64 ((k:Int)+1)=((k+1:Nat):Int):=by rw[Q9 (by omega) (by omega)];omega
 have hcr2:0≤cr∧cr≤40:=by
  have:cr=5∨cr=6∨cr=10:=by simpa using mcr
  omega
 have hdy:0≤w64 ((10:Int)*v4)∧w64 ((10:Int)*v4)≤1000:=by rw[Q9 (by omega) (by omega)];omega
 unfold zB
 dsimp only
 rw[if_pos (by omega),if_pos (by omega),if_pos ⟨by omega,by omega⟩,qui,hqk,quf,e1,quf]
 dsimp only
 rw[if_pos ⟨a1,by unfold qt;simpa using b1⟩,hc,quf,e2,quf]
 dsimp only
 rw[if_pos ⟨a2,b2⟩,hcr,quf,e3,quf]
 dsimp only
 rw[e4,quf]
 dsimp only
 rw[e5,quf]
 dsimp only
 rw[e6,quf]
 dsimp only
 rw[e7]
 by_cases h0:v6=0
 ·rw[if_pos (by simpa using h0),quf]
  dsimp only
  rw[e8,quf]
  dsimp only
  rw[e9,quf]
  dsimp only
  rw[e10]
  by_cases h00:v9=0
  ·rw[if_pos (by simpa using h00),quf]
   dsimp only
   rw[e11,quf]
   dsimp only
   rw[if_pos ⟨by omega,by omega⟩,hw]
   exact⟨_,⟨quw _,quw _,hcr2,hdy⟩,rfl⟩
  ·rw[if_neg (by simpa using h00),quf]
   dsimp only
   rw[if_pos ⟨by omega,by omega⟩,hw]
   exact⟨_,⟨by show 1≤2;omega,quw _,hcr2,hdy⟩,rfl⟩
 ·rw[if_neg (by simpa using h0),if_pos ⟨by omega,by omega⟩,hw]
  exact⟨_,⟨by show 1≤2;omega,by show 0≤1;omega,hcr2,hdy⟩,rfl⟩
theorem qnl (t0:List (List Int)) (hq:∀q∈t0,q.length≤9223372036854775807) (ht:t0.length≤9223372036854775807):∃l,Za t0=some l∧l.length≤8∧∀a∈l,q6k 0 a:=by
 have key:∀(j k:Nat) (l:List qa),j+k=min t0.length 8→l.length=k→(∀a∈l,q6k 0 a)→∃l',qG (zB t0) (l,(k:Int))=some l'∧l'.length=min t0.length 8∧∀a∈l',q6k 0 a:=by
  intro j
  induction j with
  | zero=>
   intro k l hk hl hs
   refine⟨l,zn ?_,by omega,hs⟩
   unfold zB
   dsimp only
   by_cases h:(k:Int)<(t0.length:Int)
   ·rw[if_pos h,if_neg (by omega)]
   ·rw[if_neg h]
  | succ j ih=>
   intro k l hk hl hs
   obtain⟨a,h1,h2⟩:=q68 t0 hq l k hl (by omega) (by omega)
   rw[Qa h2]
   refine ih (k+1) (l++[a]) (by omega) (by simp[hl]) fun x hx=>?_
   rcases quK.1 hx with h|h
   ·exact hs x h
   ·rw[qv6.1 h];exact h1
 obtain⟨l,h1,h2,h3⟩:=key (min t0.length 8) 0 [] (by omega) rfl (fun a ha=>by cases ha)
 refine⟨l,?_,by omega,h3⟩
 unfold Za
 change Option.bind (qG _ ([],((0:Nat):Int))) _=_
 rw[h1];rfl
theorem qaX {a:qa} (h:zP a):Zd a=some (a.Course.School,a.Course.Code,a.Credits,a.Grade,a.Day,a.Bundle,a.Sources,a.Path):=by
 have hML:100000≤maxLen:=by unfold maxLen;omega
 have h1:=h.1;have h2:=h.2
 unfold Zd
 rw[if_pos ⟨by omega,by omega⟩,if_pos ⟨by omega,by omega⟩]
theorem qpz {j:Nat} (hj:j≤100) {a:qa} (h:q6k j a) (q:QF Int):∃b,Qj a q=some b∧q6k (j+1) b:=by
 have hML:100000≤maxLen:=by unfold maxLen;omega
 have h1:=h.src;have h2:=h.pth;have h3:=h.crd;have h9:=h.day
 obtain⟨n,e1,n0,n1⟩:=q7U q.a1 40 (by omega) (by omega)
 obtain⟨k,e2,k0,k1⟩:=q7U q.a0 8 (by omega) (by omega)
 unfold Qj
 rw[qaX (h.fit (by omega)),quf,e1,quf,e2,quf]
 dsimp only
 have hmod:0≤Int.tmod n 4∧Int.tmod n 4<4:=⟨Int.tmod_nonneg _ n0,Int.tmod_lt_of_pos _ (by omega)⟩
 obtain⟨c,hc,_⟩:=qdO [ByteArray.mk (List.toArray [65,49]),ByteArray.mk (List.toArray [66,49]),ByteArray.mk (List.toArray []),ByteArray.mk (List.toArray [65])] (Int.tmod n 4) hmod.1 (by simpa using hmod.2)
 have hb:∀(sc:Int) (cd:ByteArray) (cr g d:Int) (S:List Int) (bd:Int) (P:List Int),S.length≤2+(j+1)→P.length≤1+(j+1)→0≤cr∧cr≤40→0≤d∧d≤1000→q6k (j+1) (qa.mk (qb.mk sc cd) cr g d S bd P):=fun sc cd cr g d S bd P a1 a2 a3 a4=>⟨a1,a2,a3,a4⟩
 by_cases h00:k=0
 ·rw[if_pos (by simpa using h00)];exact⟨_,rfl,hb _ _ _ _ _ _ _ _ (by omega) (by omega) h3 h9⟩
 rw[if_neg (by simpa using h00)]
 by_cases h01:k=1
 ·rw[if_pos (by simpa using h01),if_pos hmod,hc,quf];exact⟨_,rfl,hb _ _ _ _ _ _ _ _ (by omega) (by omega) h3 h9⟩
 rw[if_neg (by simpa using h01)]
 by_cases h02:k=2
 ·rw[if_pos (by simpa using h02)];exact⟨_,rfl,hb _ _ _ _ _ _ _ _ (by omega) (by omega) ⟨n0,by omega⟩ h9⟩
 rw[if_neg (by simpa using h02)]
 by_cases h03:k=3
 ·rw[if_pos (by simpa using h03)];exact⟨_,rfl,hb _ _ _ _ _ _ _ _ (by omega) (by omega) h3 h9⟩
 rw[if_neg (by simpa using h03)]
 by_cases h04:k=4
 ·rw[if_pos (by simpa using h04)];exact⟨_,rfl,hb _ _ _ _ _ _ _ _ (by omega) (by omega) h3 (by rw[Q9 (by omega) (by omega)];omega)⟩
 rw[if_neg (by simpa using h04)]
 by_cases h05:k=5
 ·rw[if_pos (by simpa using h05),if_pos ⟨by omega,by omega⟩];exact⟨_,rfl,hb _ _ _ _ _ _ _ _ (by simp;omega) (by omega) h3 h9⟩
 rw[if_neg (by simpa using h05)]
 by_cases h06:k=6
 ·rw[if_pos (by simpa using h06)];exact⟨_,rfl,hb _ _ _ _ _ _ _ _ (by omega) (by omega) h3 h9⟩
 rw[if_neg (by simpa using h06)]
 by_cases h07:k=7
 ·rw[if_pos (by simpa using h07),if_pos ⟨by omega,by omega⟩];exact⟨_,rfl,hb _ _ _ _ _ _ _ _ (by omega) (by simp;omega) h3 h9⟩
 ·rw[if_neg (by simpa using h07)];exact⟨_,rfl,hb _ _ _ _ _ _ _ _ (by omega) (by omega) h3 h9⟩
theorem qcG {j:Nat} (hj:j≤100) {l:List qa} (hl:l.length≤8) (hs:∀a∈l,q6k j a) (h0:0<l.length) (q:qfI Int):∃(k:Nat) (a b:qa),k<l.length∧zM q.a2 ((l.length:Nat):Int)=some (k:Int)∧l[k]?=some a∧Qj a (QF.mk q.a0 q.a1)=some b∧(List.set l k b).length≤8∧∀x∈List.set l k b,q6k (j+1) x:=by
 obtain⟨v,e1,v0,v1⟩:=q7U q.a2 ((l.length:Nat):Int) (by omega) (by omega)
 obtain⟨k,rfl⟩:∃k:Nat,v=(k:Int):=⟨v.toNat,by omega⟩
 have hk:k<l.length:=by omega
 obtain⟨b,e2,hb⟩:=qpz hj (hs _ (qv7 hk)) (QF.mk q.a0 q.a1)
 refine⟨k,l[k],b,hk,e1,quh hk,e2,by rw[qv1];exact hl,fun x hx=>?_⟩
 rcases List.mem_or_eq_of_mem_set hx with h|rfl
 ·exact(hs x h).mono (by omega)
 ·exact hb
theorem q9j (c:Qe) (hq:∀q∈c.Has,q.length≤9223372036854775807) (ht:c.Has.length≤9223372036854775807) (hp:c.Programme.length≤9223372036854775807):∃l p d,zS c=some (l,p,d)∧l.length≤8∧(∀a∈l,q6k 2 a)∧d=Int.tmod (w64 c.Day) 800:=by
 obtain⟨l,e1,l8,hs⟩:=qnl c.Has hq ht
 obtain⟨p,hpe⟩:=qjt c.Programme hp
 unfold zS
 rw[e1,quf,hpe]
 by_cases h0:0<l.length
 ·have h0':(0:Int)<((l.length:Nat):Int):=by omega
  rw[if_pos h0']
  obtain⟨k,a,b,hk,q1,q2,q3,q4,q5⟩:=qcG (j:=0) (by omega) l8 hs h0 c.Odd.a0
  by_cases h1:(0:Int)<c.Odd.a0.a0
  ·rw[if_pos h1,q1,quf,if_pos ⟨by omega,by omega⟩,qui,q2,quf,q3,quf,if_pos ⟨by omega,by omega⟩,if_pos (by omega),if_pos h0']
   by_cases h2:(0:Int)<c.Odd.a1.a0
   ·obtain⟨k',a',b',hk',r1,r2,r3,r4,r5⟩:=qcG (j:=1) (by omega) q4 q5 (by rw[qv1];exact h0) c.Odd.a1
    rw[qv1] at hk' r1
    rw[if_pos h2,r1,quf,if_pos ⟨by omega,by omega⟩,qui,r2,quf,r3,quf,if_pos ⟨by omega,by omega⟩,if_pos (by omega)]
    exact⟨_,_,_,rfl,r4,r5,rfl⟩
   ·rw[if_neg h2]
    exact⟨_,_,_,rfl,q4,fun x hx=>(q5 x hx).mono (by omega),rfl⟩
  ·rw[if_neg h1,if_pos h0']
   by_cases h2:(0:Int)<c.Odd.a1.a0
   ·obtain⟨k',a',b',hk',r1,r2,r3,r4,r5⟩:=qcG (j:=0) (by omega) l8 hs h0 c.Odd.a1
    rw[if_pos h2,r1,quf,if_pos ⟨by omega,by omega⟩,qui,r2,quf,r3,quf,if_pos ⟨by omega,by omega⟩,if_pos (by omega)]
    exact⟨_,_,_,rfl,r4,fun x hx=>(r5 x hx).mono (by omega),rfl⟩
   ·rw[if_neg h2]
    exact⟨_,_,_,rfl,l8,fun x hx=>(hs x hx).mono (by omega),rfl⟩
 ·have h0':¬ (0:Int)<((l.length:Nat):Int):=by omega
  rw[if_neg h0',if_neg h0']
  exact⟨_,_,_,rfl,l8,fun x hx=>(hs x hx).mono (by omega),rfl⟩
theorem qai (c:Qe) (hq:∀q∈c.Has,q.length≤9223372036854775807) (ht:c.Has.length≤9223372036854775807) (hp:c.Programme.length≤9223372036854775807):∃l p d,zS c=some (l,p,d)∧l.length≤8∧∀a∈l,q6k 2 a:=by
 obtain⟨l,p,d,h1,h2,h3,-⟩:=q9j c hq ht hp
 exact⟨l,p,d,h1,h2,h3⟩
end
noncomputable section
section
variable {A:Type} (fr:List A→Bool) (cr:List A→Int)
def dfs:List A→List A→Int→Int
 | [],_,b=>b
 | a::r,s,b=>dfs r s (if fr (s++[a])=true then dfs r (s++[a]) (max b (cr (s++[a]))) else b)
def q5W (l:List A) (v:Int):Prop:=(∃s,s.Sublist l∧fr s=true∧cr s=v)∧∀s,s.Sublist l→fr s=true→cr s≤v
variable {fr cr}
theorem q6h:∀(r s:List A) (b:Int),b≤dfs fr cr r s b
 | [],_,b=>Int.le_refl b
 | a::r,s,b=>by
  unfold dfs
  refine Int.le_trans ?_ (q6h r s _)
  split
  ·exact Int.le_trans (Int.le_max_left _ _) (q6h r _ _)
  ·exact Int.le_refl b
theorem qbs (hp:∀x y,fr (x++y)=true→fr x=true):∀(r s:List A) (b:Int) (t:List A),t.Sublist r→t≠[]→fr (s++t)=true→cr (s++t)≤dfs fr cr r s b
 | [],s,b,t,ht,hn,_=>absurd (List.sublist_nil.1 ht) hn
 | a::r,s,b,t,ht,hn,hf=>by
  unfold dfs
  cases ht with
  | cons _ h=>exact qbs hp r s _ t h hn hf
  | cons_cons _ h=>
   rename_i t
   have e:s++a::t=(s++[a])++t:=by simp
   rw[e] at hf ⊢
   rw[if_pos (hp _ _ hf)]
   refine Int.le_trans ?_ (q6h r s _)
   by_cases h0:t=[]
   ·subst h0
    rw[quB]
    exact Int.le_trans (Int.le_max_right _ _) (q6h r _ _)
   ·exact qbs hp r _ _ t h h0 hf
theorem qaz:∀(r s:List A) (b:Int),dfs fr cr r s b=b∨∃t,t.Sublist r∧fr (s++t)=true∧dfs fr cr r s b=cr (s++t)
 | [],_,b => .inl rfl
 | a::r,s,b=>by
  unfold dfs
  rcases qaz r s (if fr (s++[a])=true then dfs fr cr r (s++[a]) (max b (cr (s++[a]))) else b) with h|⟨t,h1,h2,h3⟩
  ·rw[h]
   by_cases hf:fr (s++[a])=true
   ·simp only[if_pos hf]
    rcases qaz r (s++[a]) (max b (cr (s++[a]))) with h|⟨t,h1,h2,h3⟩
    ·rw[h]
     by_cases hm:cr (s++[a])≤b
     ·exact .inl (Int.max_eq_left hm)
     ·exact .inr ⟨[a],(List.Sublist.cons_cons a (List.nil_sublist r)),hf,Int.max_eq_right (by omega)⟩
    ·refine .inr ⟨a::t,h1.cons_cons a,?_,?_⟩
     ·rw[show s++a::t=(s++[a])++t by simp];exact h2
     ·rw[show s++a::t=(s++[a])++t by simp];exact h3
   ·rw[if_neg hf];exact .inl rfl
  ·exact .inr ⟨t,h1.cons a,h2,h3⟩
theorem qee (hp:∀x y,fr (x++y)=true→fr x=true) (h0:fr []=true) (hc:cr []=0) (l:List A):q5W fr cr l (dfs fr cr l [] 0):=by
 refine⟨?_,fun s hs hf=>?_⟩
 ·rcases qaz (fr:=fr) (cr:=cr) l [] 0 with h|⟨t,h1,h2,h3⟩
  ·exact⟨[],List.nil_sublist l,h0,by rw[h,hc]⟩
  ·exact⟨t,h1,h2,h3.symm⟩
 ·by_cases hn:s=[]
  ·subst hn;rw[hc];exact q6h l [] 0
  ·exact qbs hp l [] 0 s hs hn hf
end
end
noncomputable section
open Go.RowKit
theorem qbd {α ε:Type} {step:Int→Option (Int⊕ε)} (l:List α) (q:α→Bool) (e0 e1:ε) (hs:∀(i:Nat) (a:α),l[i]?=some a→step (i:Int)=some (if q a=true then .inr e0 else .inl ((i+1:Nat):Int))) (he:step ((l.length:Nat):Int)=some (.inr e1)) :
  qG step (0:Int)=some (if l.any q=true then e0 else e1):=by
 rcases q1H l q (fun _=>e0) e1 hs he with ⟨h1,i,h2⟩|⟨h1,h2⟩
 ·rw[h2,h1];rfl
 ·rw[h2,h1];rfl
theorem qdL (a b:List Int) (ha:a.length≤1000000):Qk a b=some (decide (a=b)):=by
 unfold Qk
 by_cases hl:a.length=b.length
 ·rw[if_neg (by rw[hl];simp)]
  have key:∀(r q:List Int) (i:Nat),r.length+i=a.length→q.length=r.length→(∀j,r[j]?=a[i+j]?)→(∀j,q[j]?=b[i+j]?)→qG (zf a b) (i:Int)=some (if r=q then .inr () else .inl ()):=by
   intro r
   induction r with
   | nil=>
    intro q i hi hq _ _
    obtain rfl:=quz hq
    have hi:i=a.length:=by simpa using hi
    refine zn ?_
    unfold zf
    rw[if_neg (by omega),if_pos rfl]
   | cons x r ih=>
    intro q i hi hq hr hb
    cases q with
    | nil=>cases hq
    | cons y q=>
     simp only[qur] at hi hq
     have hx:a[i]?=some x:=by have:=hr 0;rw[Nat.add_zero] at this;exact this.symm
     have hy:b[i]?=some y:=by have:=hb 0;rw[Nat.add_zero] at this;exact this.symm
     have e:zf a b (i:Int)=some (if(x != y)=true then .inr (.inl ()) else .inl ((i+1:Nat):Int)):=by
      unfold zf
      rw[if_pos (by omega),if_pos ⟨by omega,by omega⟩,qui,hx,quf,if_pos ⟨by omega,by omega⟩,hy,quf,Qx (Qq hx) ha]
      split<;>rfl
     by_cases hxy:x=y
     ·subst hxy
      rw[if_neg (by simp)] at e
      rw[Qa e,ih q (i+1) (by omega) (by omega) (fun j=>by have:=hr (j+1);rw[quF] at this;rw[this];congr 1;omega) (fun j=>by have:=hb (j+1);rw[quF] at this;rw[this];congr 1;omega)]
      simp
     ·rw[if_pos (by simpa using hxy)] at e
      rw[zn e,if_neg (fun h=>hxy (by injection h))]
  have h:=key a b 0 (by omega) hl.symm (fun j=>by rw[quE]) (fun j=>by rw[quE])
  change Option.bind (qG _ ((0:Nat):Int)) _=_
  rw[h,quf]
  by_cases e:a=b
  ·rw[if_pos e,Sum.elim_inr,qvg e]
  ·rw[if_neg e,Sum.elim_inl,decide_eq_false e]
 ·rw[if_pos (by simpa using fun h=>hl (by omega)),decide_eq_false (fun e=>hl (by rw[e]))]
theorem qdZ (a b:qb):ceq a b=ceq b a:=by
 unfold ceq
 rw[Bool.beq_comm (a:=a.School),Bool.beq_comm (a:=a.Code.toList)]
theorem q8X (a b:List Int):q5C a b=q5C b a:=by
 have h:∀a b:List Int,q5C a b=true→q5C b a=true:=fun a b h=>by
  unfold q5C at h ⊢
  obtain⟨x,h1,h2⟩:=qva.1 h
  obtain⟨y,h3,h4⟩:=qva.1 h2
  have e:x=y:=by simpa using h4
  exact qva.2 ⟨y,h3,qva.2 ⟨x,h1,by simp[e]⟩⟩
 exact Bool.eq_iff_iff.2 ⟨h a b,h b a⟩
theorem q2Y (a b:qa):QO a b=QO b a:=by
 unfold QO
 rw[qdZ,q8X]
 by_cases hb:a.Bundle=b.Bundle
 ·rw[hb]
  have e:decide (a.Path=b.Path)=decide (b.Path=a.Path):=by
   by_cases hp:a.Path=b.Path
   ·rw[hp]
   ·rw[decide_eq_false hp,decide_eq_false fun h=>hp h.symm]
  rw[e]
 ·rw[show(a.Bundle==b.Bundle)=false by simpa using hb,show(b.Bundle==a.Bundle)=false by simpa using fun h=>hb h.symm];simp
def Z2:List qa→Bool
 | []=>true
 | a::l=>l.all (fun b=>QO a b)&&Z2 l
theorem q0d:∀l:List qa,Z2 l=true↔l.Pairwise fun a b=>QO a b=true
 | []=>⟨fun _ => .nil,fun _=>rfl⟩
 | a::l=>by
  unfold Z2
  rw[quM,qux,q0d l,List.pairwise_cons]
theorem qb6 (l:List qa) (hl:l.length≤1000) (hf:∀a∈l,zP a):QK l=some (Z2 l):=by
 have cf:∀(s:List qa) (a:qa),s.length≤1000→(∀b∈s,zP b)→zP a→qn s a=some (s.any fun b => !QO a b):=fun s a hs hsf ha=>by
  have h:=q1H (step:=ql a s ((s.length:Nat):Int)) s (fun b => !QO a b) (fun i => .inl (i:Int)) (.inr ()) (fun i b hb=>by
   have hi:=Qq hb
   unfold ql Zi
   rw[if_pos (by omega),if_pos ⟨by omega,by omega⟩,qui,hb,quf,q8B ha (hsf b (qug hb)),quf,quf,Qx hi (by omega)]
   split<;>rfl) (by
   unfold ql
   rw[if_neg (by omega)])
  unfold qn qs
  rcases h with ⟨h1,i,h2⟩|⟨h1,h2⟩
  ·rw[h2,quf,Sum.elim_inl,quf,h1,qvg (by omega)]
  ·rw[h2,quf,Sum.elim_inr,quf,h1,decide_eq_false (by omega)]
 have key:∀(r:List qa) (i:Nat),r.length+i=l.length→l.drop i=r→qG (Q5 l l ((l.length:Nat):Int)) (i:Int)=some (if Z2 r=true then .inr () else .inl ()):=by
  intro r
  induction r with
  | nil=>
   intro i hi _
   have hi:i=l.length:=by simpa using hi
   refine zn ?_
   unfold Q5
   rw[if_neg (by omega)];rfl
  | cons a r ih=>
   intro i hi hd
   simp only[qur] at hi
   have ha:l[i]?=some a:=by have:=congrArg (fun x:List qa=>x[0]?) hd;simpa [List.getElem?_drop] using this
   have hd1:l.drop (i+1)=r:=by rw[←qv3,hd];rfl
   have hr:∀b∈r,zP b:=fun b hb=>hf b (List.mem_of_mem_drop (i:=i) (by rw[hd];exact qun _ hb))
   have e:Q5 l l ((l.length:Nat):Int) (i:Int)=some (if(r.any fun b => !QO a b)=true then .inr (.inl ()) else .inl ((i+1:Nat):Int)):=by
    unfold Q5
    rw[if_pos (by omega),if_pos ⟨by omega,by omega⟩,qui,ha,quf,Qx (Qq ha) (by omega),if_pos ⟨by omega,by omega⟩,qui,hd1,qvl (by omega),cf r a (by omega) hr (hf a (qug ha)),quf]
    split<;>rfl
   unfold Z2
   cases hq:r.any fun b => !QO a b
   ·have hall:r.all (fun b=>QO a b)=true:=by
     rw[qux];intro b hb
     have:=List.any_eq_false.1 hq b hb
     simpa using this
    rw[hq,if_neg (by decide)] at e
    rw[Qa e,ih (i+1) (by omega) hd1,hall,quN]
   ·have hall:r.all (fun b=>QO a b)=false:=by
     rw[List.all_eq_false]
     obtain⟨b,h1,h2⟩:=qva.1 hq
     exact⟨b,h1,by simpa using h2⟩
    rw[hq,if_pos rfl] at e
    rw[zn e,hall];rfl
 unfold QK
 change Option.bind (qG _ ((0:Nat):Int)) _=_
 rw[key l 0 (by omega) rfl,quf]
 cases Z2 l<;>rfl
theorem qc1 (x y:List qa) (h:Z2 (x++y)=true):Z2 x=true:=
 (q0d _).2 (((q0d _).1 h).sublist (List.sublist_append_left x y))
end
noncomputable section
open Go.RowKit
theorem qao (l:List qa) (hl:l.length≤100) (hf:∀a∈l,zP a):∀(r set:List qa) (k:Nat) (b:Int),r.length+k=l.length→l.drop k=r→set.length≤k→(∀a∈set,zP a)→
  qG (zd zK set) (b,l,(k:Int))=some (.inr (dfs Z2 q2I r set b,l)):=by
 have hML:100000≤maxLen:=by unfold maxLen;omega
 intro r
 induction r with
 | nil=>
  intro set k b hk hd hs hsf
  have hk:k=l.length:=by simpa using hk
  refine zn ?_
  unfold zd
  dsimp only
  rw[if_neg (by omega)];rfl
 | cons a r ih=>
  intro set k b hk hd hs hsf
  simp only[qur] at hk
  have ha:l[k]?=some a:=by have:=congrArg (fun x:List qa=>x[0]?) hd;simpa [List.getElem?_drop] using this
  have hd1:l.drop (k+1)=r:=by rw[←qv3,hd];rfl
  have hklt:=Qq ha
  have hsf1:∀x∈set++[a],zP x:=fun x hx=>by
   rcases quK.1 hx with h|h
   ·exact hsf x h
   ·rw[qv6.1 h];exact hf a (qug ha)
  have hlen:(set++[a]).length=set.length+1:=by simp
  have e:zd zK set (b,l,(k:Int))=some (.inl (if Z2 (set++[a])=true then dfs Z2 q2I r (set++[a]) (max b (q2I (set++[a]))) else b,l,((k+1:Nat):Int))):=by
   unfold zd
   dsimp only
   rw[if_pos (by omega),if_pos ⟨by omega,by omega⟩,qui,ha,quf,if_pos ⟨by omega,by omega⟩,qb6 _ (by omega) hsf1,quf,Qx hklt (by omega)]
   by_cases hfr:Z2 (set++[a])=true
   ·rw[if_pos hfr,if_pos hfr,Zt]
    unfold zD Qu
    dsimp only
    rw[q1I _ (by omega),quf,quf,ih (set++[a]) (k+1) _ (by omega) hd1 (by omega) hsf1,quf]
    rfl
   ·rw[if_neg hfr,if_neg hfr]
  rw[Qa e,ih set (k+1) _ (by omega) hd1 (by omega) hsf]
  rfl
theorem q51 (l:List qa) (hl:l.length≤10) (hf:∀a∈l,zP a):zO l=some (dfs Z2 q2I l [] 0,0):=by
 unfold zO Z9
 rw[if_neg (by omega),Zt]
 unfold zD Qu
 dsimp only
 rw[q1I [] (by simp),quf,quf]
 change Option.bind (Option.bind (Option.bind (qG _ (max 0 (q2I []),l,((0:Nat):Int))) _) _) _=_
 rw[qao l (by omega) hf l [] 0 _ (by omega) rfl (by simp) (by simp)]
 rfl
theorem q7J (l:List qa):q5W Z2 q2I l (dfs Z2 q2I l [] 0):=qee qc1 rfl rfl l
end
noncomputable section
open Go.RowKit
theorem q3p {κ ν:Type} [DecidableEq κ] (z:ν) (k:κ) (v:ν) (b:κ):∀M:List (κ×ν),QR z (q2o M k v) b=if b=k then v else QR z M b
 | []=>by
  show(if b=k then v else z)=_
  rfl
 | p::M=>by
  unfold q2o
  by_cases h:k=p.1
  ·rw[if_pos h]
   show(if b=k then v else QR z M b)=if b=k then v else QR z (p::M) b
   by_cases hb:b=k
   ·rw[if_pos hb,if_pos hb]
   ·rw[if_neg hb,if_neg hb]
    show _=if b=p.1 then p.2 else QR z M b
    rw[if_neg (by rw[←h];exact hb)]
  ·rw[if_neg h]
   show(if b=p.1 then p.2 else QR z (q2o M k v) b)=if b=k then v else(if b=p.1 then p.2 else QR z M b)
   rw[q3p z k v b M]
   by_cases hb:b=p.1
   ·rw[if_pos hb,if_pos hb,if_neg (fun h'=>h (by rw[←h',hb]))]
   ·rw[if_neg hb,if_neg hb]
theorem q4s (x:Int):∀(l:List Int) (n:Int),n∈cpF x l↔n∈x::l
 | [],n=>Iff.rfl
 | y::l,n=>by
  unfold cpF
  by_cases h:x=y
  ·rw[if_pos h,q4s y l n];subst h;simp
  ·rw[if_neg h,quC,q4s y l n,quC (l:=y::l)]
theorem q35 (x:Int):∀(l:List Int),(x::l).Pairwise (·≤·)→(cpF x l).Nodup
 | [],_=>by simp[cpF]
 | y::l,h=>by
  unfold cpF
  obtain⟨h1,h2⟩:=List.pairwise_cons.1 h
  by_cases e:x=y
  ·rw[if_pos e];exact q35 y l h2
  ·rw[if_neg e,List.nodup_cons]
   refine⟨fun hx=>?_,q35 y l h2⟩
   have hy:=h1 y quv
   rcases quC.1 ((q4s y l x).1 hx) with h|h
   ·exact e h
   ·have:=(List.pairwise_cons.1 h2).1 x h
    omega
theorem qb4 (s:List Int) (n:Int):n∈cpI (Zk s)↔n∈s:=by
 rw[←(q0A s).mem_iff]
 cases Zk s with
 | nil=>exact Iff.rfl
 | cons x l=>exact q4s x l n
theorem qcP (s:List Int):(cpI (Zk s)).Nodup:=by
 have:=q08 s
 cases h:Zk s with
 | nil=>exact .nil
 | cons x l=>rw[h] at this;exact q35 x l this
def q46 (M:List (Int×Int)) (n:Int):List (Int×Int):=q2o M n (w64 (QR 0 M n+1))
theorem q5v:∀(ns:List Int) (M:List (Int×Int)) (k:Int),ns.Nodup→(∀n∈ns,0≤QR 0 M n∧QR 0 M n<1000000)→QR 0 (ns.foldl q46 M) k=QR 0 M k+if k∈ns then 1 else 0
 | [],M,k,_,_=>by simp
 | n::ns,M,k,hn,hb=>by
  obtain⟨h1,h2⟩:=List.nodup_cons.1 hn
  have hw:w64 (QR 0 M n+1)=QR 0 M n+1:=by have:=hb n quv;exact Q9 (by omega) (by omega)
  have hg:∀b,QR 0 (q46 M n) b=if b=n then QR 0 M n+1 else QR 0 M b:=fun b=>by unfold q46;rw[q3p,hw]
  rw[qvi,q5v ns (q46 M n) k h2 (fun m hm=>by
   rw[hg,if_neg (fun h:m=n=>h1 (by rw[←h];exact hm))];exact hb m (qun _ hm)),hg]
  by_cases e:k=n
  ·subst e;rw[if_pos rfl,if_neg h1,if_pos quv];omega
  ·rw[if_neg e]
   by_cases hk:k∈ns
   ·rw[if_pos hk,if_pos (qun _ hk)]
   ·rw[if_neg hk,if_neg (fun h=>(quC.1 h).elim e hk)]
def qbj (l:List (List Int)) (M:List (Int×Int)):List (Int×Int):=l.foldl (fun M s=>(cpI (Zk s)).foldl q46 M) M
theorem qar:∀(l:List (List Int)) (M:List (Int×Int)) (b:Nat),(∀k,0≤QR 0 M k∧QR 0 M k≤(b:Int))→b+l.length<1000000→∀k,QR 0 (qbj l M) k=QR 0 M k+((l.filter fun s=>decide (k∈s)).length:Int)
 | [],M,b,_,_,k=>by simp[qbj]
 | s::l,M,b,hM,hl,k=>by
  simp only[qur] at hl
  have hg:∀k,QR 0 ((cpI (Zk s)).foldl q46 M) k=QR 0 M k+if k∈cpI (Zk s) then 1 else 0:=fun k=>q5v _ M k (qcP s) fun n _=>by have:=hM n;omega
  have hs:qbj (s::l) M=qbj l ((cpI (Zk s)).foldl q46 M):=rfl
  rw[hs,qar l _ (b+1) (fun k=>by
   rw[hg];have:=hM k
   split<;>omega) (by omega),hg,List.filter_cons]
  by_cases h:k∈s
  ·rw[if_pos ((qb4 s k).2 h),if_pos (by simpa using h),qur];omega
  ·rw[if_neg (fun h'=>h ((qb4 s k).1 h')),if_neg (by simpa using h)];omega
theorem qhU (l:List (List Int)) (hl:l.length<1000000) (k:Int):QR 0 (qbj l []) k=((l.filter fun s=>decide (k∈s)).length:Int):=by
 rw[qar l [] 0 (fun k=>by show(0:Int)≤0∧(0:Int)≤0;omega) (by omega)]
 show(0:Int)+_=_
 omega
theorem qdN {l:List (List Int)} {i:Nat} {s:List Int} {k:Int} (hi:l[i]?=some s) (hk:k∈s):(1:Int)<((l.filter fun s=>decide (k∈s)).length:Int)↔∃j t,j≠i∧l[j]?=some t∧k∈t:=by
 have hlt:=Qq hi
 have e:l=l.take i++s::l.drop (i+1):=by
  rw[quh hlt] at hi
  injection hi with hi
  rw[←hi,List.getElem_cons_drop,qv4]
 have hf:(l.filter fun s=>decide (k∈s)).length=((l.take i).filter fun s=>decide (k∈s)).length+(((l.drop (i+1)).filter fun s=>decide (k∈s)).length+1):=by
  conv=>lhs;rw[e]
  rw[List.filter_append,qum,List.filter_cons,if_pos (by simpa using hk),qur]
 rw[hf]
 constructor
 ·intro h
  have:0<((l.take i).filter fun s=>decide (k∈s)).length∨0<((l.drop (i+1)).filter fun s=>decide (k∈s)).length:=by omega
  rcases this with h|h
  ·obtain⟨t,ht⟩:=List.exists_mem_of_length_pos h
   obtain⟨h1,h2⟩:=qvb.1 ht
   obtain⟨j,hj⟩:=List.getElem?_of_mem h1
   have hji:j<i:=by have:=Qq hj;rw[quJ] at this;omega
   rw[quP hji] at hj
   exact⟨j,t,by omega,hj,by simpa using h2⟩
  ·obtain⟨t,ht⟩:=List.exists_mem_of_length_pos h
   obtain⟨h1,h2⟩:=qvb.1 ht
   obtain⟨j,hj⟩:=List.getElem?_of_mem h1
   rw[List.getElem?_drop] at hj
   exact⟨i+1+j,t,by omega,hj,by simpa using h2⟩
 ·rintro⟨j,t,h1,h2,h3⟩
  by_cases hji:j<i
  ·have:0<((l.take i).filter fun s=>decide (k∈s)).length:=List.length_pos_of_mem (a:=t) (qvb.2 ⟨qug (i:=j) (by rw[quP hji];exact h2),by simpa using h3⟩)
   omega
  ·have:0<((l.drop (i+1)).filter fun s=>decide (k∈s)).length:=List.length_pos_of_mem (a:=t) (qvb.2 ⟨qug (i:=j-(i+1)) (by rw[List.getElem?_drop,show i+1+(j-(i+1))=j by omega];exact h2),by simpa using h3⟩)
   omega
end
noncomputable section
open Go.RowKit
def q7r (n a b:Int):Int:=max (min a b) (min n (max a b))
def q4z (s:qe):Bool:=q7r s.Worst (-1000) 1000==s.Worst&&q7r s.Best (-1000) 1000==s.Best&&s.Worst != s.Best&&q7r s.Pass s.Worst s.Best==s.Pass
def q7Z (s:qe) (g:Int):Bool:=q4z s&&q7r g s.Worst s.Best==g
def qcF (s:qe) (g m:Int):Bool:=q7Z s g&&(g==m||(decide (m<g)==decide (s.Worst<s.Best)))
theorem q4T (s:qe):QW s=some (if q4z s then 0 else 10):=by
 have h1:=qat (ε:=Unit⊕Unit) (step:=zJ [s.Worst,s.Best] s 2) [s.Worst,s.Best] (fun i=>(i:Int)) (fun a=>if q7r a (-1000) 1000 != a then some (.inl ()) else none) (.inr ()) (fun i a ha=>by
   have hi:i<2:=by obtain⟨h,_⟩:=quj.1 ha;simpa using h
   have hw:w64 ((i:Int)+1)=((i+1:Nat):Int):=q4E hi (by omega)
   unfold zJ
   rw[if_pos (by omega),if_pos ⟨by omega,by simpa using by omega⟩,qui,ha,quf,hw]
   show(if(q7r a (-1000) 1000 != a)=true then _ else _)=_
   split<;>simp_all) (by
   unfold zJ
   rfl)
 unfold QW
 rw[show((0:Int))=((0:Nat):Int) from rfl,h1,quf]
 unfold q4z qK
 simp only[List.findSome?_cons,List.findSome?_nil]
 show _=some (if(q7r s.Worst (-1000) 1000==s.Worst&&q7r s.Best (-1000) 1000==s.Best&&s.Worst != s.Best&&q7r s.Pass s.Worst s.Best==s.Pass)=true then 0 else 10)
 change (Sum.elim _ (fun _=>if(s.Worst==s.Best)=true then some (10:Int) else if(q7r s.Pass s.Worst s.Best != s.Pass)=true then some 10 else some 0) _)=_
 by_cases e1:q7r s.Worst (-1000) 1000=s.Worst<;>by_cases e2:q7r s.Best (-1000) 1000=s.Best<;>by_cases e3:s.Worst=s.Best<;>by_cases e4:q7r s.Pass s.Worst s.Best=s.Pass<;>simp[e1,e2,e3,e4,bne]
theorem q4P (s:qe) (g:Int):QS s g=some (q7Z s g):=by
 unfold QS q7Z
 rw[q4T,quf]
 cases h:q4z s<;>simp[qK,q7r]
theorem q9N (s:qe) (g m:Int):Qs s g m=some (qcF s g m):=by
 unfold Qs qcF
 rw[q4P,quf]
 cases h:q7Z s g
 ·simp
 ·by_cases h2:g=m<;>simp[h2]
def q4F (s:qe) (a b:qa):Bool:=ceq a.Course b.Course&&(a.Bundle==b.Bundle)&&decide (a.Path=b.Path)&&decide (b.Credits≤a.Credits)&&decide (b.Day≤a.Day)&&qcF s a.Grade b.Grade
theorem qa1 (s:qe) {a b:qa} (ha:zP a):QD s a b=some (q4F s a b):=by
 have h2:=ha.2
 unfold QD q4F
 rw[q5u _ _ (by omega),q9N]
 simp only[quf]
 by_cases hc:ceq a.Course b.Course=true
 ·rw[if_pos (by unfold ceq at hc;rw[quM] at hc;exact hc),hc]
  cases a.Bundle==b.Bundle
  ·rfl
  ·rw[if_pos rfl]
   by_cases hp:a.Path=b.Path
   ·rw[qvg hp,if_pos rfl]
    by_cases h3:b.Credits≤a.Credits
    ·rw[if_pos h3,qvg h3]
     by_cases h4:b.Day≤a.Day
     ·rw[if_pos h4,qvg h4];simp
     ·rw[if_neg h4,decide_eq_false h4];simp
    ·rw[if_neg h3,decide_eq_false h3];simp
   ·rw[decide_eq_false hp,if_neg (by decide)];simp
 ·rw[if_neg (by unfold ceq at hc;rw[quM] at hc;exact hc),quI.2 hc];rfl
theorem qaS {ε:Type} {step:Int→Option (Int⊕ε)} (n:Nat) (q:Nat→Bool) (e0 e1:ε) (hs:∀i,i<n→step (i:Int)=some (if q i=true then .inr e0 else .inl ((i+1:Nat):Int))) (he:step ((n:Nat):Int)=some (.inr e1)) :
  qG step (0:Int)=some (if(List.range n).any q=true then e0 else e1):=
 qbd (List.range n) q e0 e1 (fun i a ha=>by
  have hi:=Qq ha
  rw[List.length_range] at hi
  rw[List.getElem?_range hi] at ha
  injection ha with ha
  subst ha
  exact hs i hi) (by rw[List.length_range];exact he)
def qhx (l:List qa) (i:Nat) (n:Int):Bool:=(List.range l.length).any fun j=>decide (j≠i)&&(l[j]?.any fun c=>c.Sources.any fun x=>x==n)
def qqy (s:qe) (l:List qa) (i k:Nat) (a b:qa):Bool:=decide (i≠k)&&q4F s a b&&a.Sources.all fun n=>(b.Sources.any fun x=>n==x) || !qhx l i n
def plc (s:qe) (l:List qa) (k i:Nat):Bool:=match l[i]?,l[k]? with
 | some a,some b=>qqy s l i k a b
 | _,_=>false
def q9Q (s:qe) (l:List qa) (k:Nat):Bool:=(List.range l.length).any (plc s l k)
theorem qiZ {l:List qa} {i:Nat} {n:Int}:qhx l i n=true↔∃j t,j≠i∧(l.map fun a=>a.Sources)[j]?=some t∧n∈t:=by
 unfold qhx
 rw[qva]
 constructor
 ·rintro⟨j,h1,h2⟩
  rw[quM] at h2
  obtain⟨h2,h3⟩:=h2
  cases hj:l[j]? with
  | none=>rw[hj] at h3;cases h3
  | some c=>
   rw[hj] at h3
   refine⟨j,c.Sources,of_decide_eq_true h2,by rw[quu,hj];rfl,?_⟩
   obtain⟨x,h4,h5⟩:=qva.1 (show(c.Sources.any fun x=>x==n)=true from h3)
   rw[show n=x by simpa using (eq_comm.1 (beq_iff_eq.1 h5))];exact h4
 ·rintro⟨j,t,h1,h2,h3⟩
  rw[quu] at h2
  obtain⟨c,h4,rfl⟩:=qut.1 h2
  refine⟨j,qvc.2 (Qq h4),?_⟩
  rw[qvg h1,h4]
  show(c.Sources.any fun x=>x==n)=true
  exact qva.2 ⟨n,h3,by simp⟩
theorem qfz (w:List Int) (hw:w.length≤1000) (l:List qa) (t11 t12:Int) (M:List (Int×Int)):qG (Q2 w l t11 t12 ((w.length:Nat):Int)) (M,(0:Int))=some (w.foldl q46 M):=by
 exact q1M (step:=Q2 w l t11 t12 ((w.length:Nat):Int)) w (fun(b:List (Int×Int)) k=>(b,(k:Int))) q46 (fun b=>b) (fun b k a ha=>by
  have hi:=Qq ha
  unfold Q2
  dsimp only
  rw[if_pos (by omega),if_pos ⟨by omega,by omega⟩,qui,ha,quf,Qx hi (by omega)]
  rfl) (fun b=>by
  unfold Q2
  dsimp only
  rw[if_neg (by omega)]) M
theorem qlA (l:List qa) (hl:l.length≤1000) (hf:∀a∈l,zP a):ZD l=some (qbj (l.map fun a=>a.Sources) []):=by
 have hML:100000≤maxLen:=by unfold maxLen;omega
 have h:=q1M (step:=Ql l ((l.length:Nat):Int)) l (fun(b:List (Int×Int)) k=>(b,(k:Int))) (fun M a=>(cpI (Zk a.Sources)).foldl q46 M) (fun b=>b) (fun b k a ha=>by
  have hi:=Qq ha
  have hfa:=(hf a (qug ha)).1
  have hc:(cpI (Zk a.Sources)).length≤1000:=quR (q6E _) (by rw[q07];exact hfa)
  unfold Ql qR qA
  dsimp only
  rw[if_pos (by omega),if_pos ⟨by omega,by omega⟩,qui,ha,quf,if_pos ⟨by omega,by omega⟩,quf,if_pos (by omega),qfz _ hc,quf,Qx hi (by omega)]) (fun b=>by
  unfold Ql
  dsimp only
  rw[if_neg (by omega)]) []
 unfold ZD
 change Option.bind (qG _ ([],((0:Nat):Int))) _=_
 rw[h,quf]
 unfold qbj
 rw[List.foldl_map]
theorem q95 (S:List Int) (hS:S.length≤1000) (M:List (Int×Int)) (l:List qa) (k:Nat) (b:qa) (hb:l[k]?=some b) (hfb:zP b):qH S M l (k:Int)=some (S.any fun n=>decide (1<QR 0 M n) && !(b.Sources.any fun x=>n==x)):=by
 have h2:=hfb.1
 have hk:=Qq hb
 have hq:∀n,Qc n M l (k:Int)=some (decide (1<QR 0 M n) && !(b.Sources.any fun x=>n==x)):=fun n=>by
  unfold Qc
  by_cases h:1<QR 0 M n
  ·rw[if_pos h,if_pos ⟨by omega,by omega⟩,qui,hb,quf,q2h _ (by omega),quf,qvg h,quN]
  ·rw[if_neg h,decide_eq_false h,Bool.false_and]
 have h:=q1H (step:=qx M l (k:Int) S ((S.length:Nat):Int)) S (fun n=>decide (1<QR 0 M n) && !(b.Sources.any fun x=>n==x)) (fun i => .inl (i:Int)) (.inr ()) (fun i n hn=>by
  have hi:=Qq hn
  unfold qx
  rw[if_pos (by omega),if_pos ⟨by omega,by omega⟩,qui,hn,quf,hq,quf,Qx hi (by omega)]
  split<;>rfl) (by
  unfold qx
  rw[if_neg (by omega)])
 unfold qH zi
 rcases h with ⟨h1,i,h2⟩|⟨h1,h2⟩
 ·rw[h2,quf,Sum.elim_inl,quf,h1,qvg (by omega)]
 ·rw[h2,quf,Sum.elim_inr,quf,h1,decide_eq_false (by omega)]
theorem qgN {l:List qa} (hl:l.length≤1000) {i:Nat} {a:qa} (ha:l[i]?=some a) (T:List Int):(!a.Sources.any fun n=>decide (1<QR 0 (qbj (l.map fun a=>a.Sources) []) n) && !(T.any fun x=>n==x))=a.Sources.all fun n=>(T.any fun x=>n==x) || !qhx l i n:=by
 rw[List.not_any_eq_all_not]
 have key:∀n∈a.Sources,(!(decide (1<QR 0 (qbj (l.map fun a=>a.Sources) []) n) && !(T.any fun x=>n==x)))=((T.any fun x=>n==x) || !qhx l i n):=fun n hn=>by
  have e:decide (1<QR 0 (qbj (l.map fun a=>a.Sources) []) n)=qhx l i n:=by
   rw[Bool.eq_iff_iff,decide_eq_true_iff,qiZ,qhU _ (by rw[quY];omega)]
   exact qdN (i:=i) (s:=a.Sources) (by rw[quu,ha];rfl) hn
  rw[e]
  cases qhx l i n<;>cases(T.any fun x=>n==x)<;>rfl
 rw[Bool.eq_iff_iff,qux,qux]
 exact⟨fun h n hn=>by rw[←key n hn];exact h n hn,fun h n hn=>by rw[key n hn];exact h n hn⟩
theorem q9u (s:qe) (l:List qa) (hl:l.length≤1000) (hf:∀a∈l,zP a) (k:Nat) (hk:k<l.length):zU l s (k:Int)=some (q9Q s l k):=by
 have hb:l[k]?=some l[k]:=quh hk
 have hfb:zP l[k]:=hf _ (qv7 hk)
 have h:=qaS (step:=zG l s (k:Int) (qbj (l.map fun a=>a.Sources) []) l ((l.length:Nat):Int)) l.length (plc s l k) (Sum.inl ()) (Sum.inr ()) (fun i hi=>by
  have ha:l[i]?=some l[i]:=quh hi
  have hfa:zP l[i]:=hf _ (qv7 hi)
  have hp:plc s l k i=qqy s l i k l[i] l[k]:=by unfold plc;rw[ha,hb]
  rw[hp]
  unfold zG qqy
  rw[if_pos (by omega),if_pos ⟨by omega,by omega⟩,qui,ha,quf,Qx hi (by omega)]
  by_cases hik:i=k
  ·rw[if_pos (beq_iff_eq.2 (by omega:(i:Int)=(k:Int))),decide_eq_false (by simpa using hik)];rfl
  ·rw[if_neg (by simpa using fun h:(i:Int)=(k:Int)=>hik (by omega)),if_pos ⟨by omega,by omega⟩,qui,hb,quf,qa1 s hfa,quf,qvg hik,quN]
   cases q4F s l[i] l[k]
   ·rfl
   ·rw[if_neg (by decide),q95 _ hfa.1 _ _ _ _ hb hfb,quf,qgN hl ha,quN]
    split<;>rfl) (by
  unfold zG
  rw[if_neg (by omega)])
 unfold zU
 rw[qlA l hl hf,quf,h,quf]
 unfold q9Q
 cases(List.range l.length).any (plc s l k)<;>rfl
end
noncomputable section
def q20 (p:Nat→Bool):Nat→Option Nat
 | 0=>none
 | n+1=>if p n=true then some n else q20 p n
theorem q4c {p:Nat→Bool}:∀{n:Nat},q20 p n=none↔∀k,k<n→p k=false
 | 0=>Iff.intro (fun _ k hk=>absurd hk (Nat.not_lt_zero k)) (fun _=>rfl)
 | n+1=>by
  unfold q20
  by_cases h:p n=true
  ·rw[if_pos h]
   exact Iff.intro (fun h'=>by cases h') (fun h'=>by rw[h' n (by omega)] at h;cases h)
  ·rw[if_neg h,q4c]
   refine⟨fun h' k hk=>?_,fun h' k hk=>h' k (by omega)⟩
   by_cases hkn:k=n
   ·rw[hkn];exact quI.2 h
   ·exact h' k (by omega)
theorem q0t {p:Nat→Bool} {i:Nat}:∀{n:Nat},q20 p n=some i→i<n∧p i=true∧∀k,i<k→k<n→p k=false
 | 0,h=>by cases h
 | n+1,h=>by
  unfold q20 at h
  by_cases hp:p n=true
  ·rw[if_pos hp] at h
   injection h with h
   subst h
   exact⟨by omega,hp,fun k h1 h2=>by omega⟩
  ·rw[if_neg hp] at h
   obtain⟨h1,h2,h3⟩:=q0t h
   refine⟨by omega,h2,fun k hk1 hk2=>?_⟩
   by_cases hkn:k=n
   ·rw[hkn];exact quI.2 hp
   ·exact h3 k hk1 (by omega)
section
variable {A:Type} (cv:List A→Nat→Bool)
def qah:Nat→List A→List A
 | 0,l=>l
 | f+1,l=>match q20 (cv l) l.length with
  | none=>l
  | some k=>qah f (l.eraseIdx k)
def red (l:List A):List A:=qah cv l.length l
variable {cv}
theorem q66:∀(f g:Nat) (l:List A),l.length≤f→l.length≤g→qah cv f l=qah cv g l
 | 0,0,l,_,_=>rfl
 | 0,g+1,l,h,_=>by
  have:l=[]:=quz (by omega)
  subst this;rfl
 | f+1,0,l,_,h=>by
  have:l=[]:=quz (by omega)
  subst this;rfl
 | f+1,g+1,l,h1,h2=>by
  unfold qah
  cases h:q20 (cv l) l.length with
  | none=>rfl
  | some k=>
   have hk:=(q0t h).1
   have hl:(l.eraseIdx k).length=l.length-1:=by rw[List.length_eraseIdx,if_pos hk]
   exact q66 f g _ (by omega) (by omega)
theorem q8n {l:List A} (h:q20 (cv l) l.length=none):red cv l=l:=by
 unfold red
 cases hl:l.length with
 | zero=>rfl
 | succ n=>unfold qah;rw[h]
theorem q7M {l:List A} {k:Nat} (h:q20 (cv l) l.length=some k):red cv l=red cv (l.eraseIdx k):=by
 have hk:=(q0t h).1
 have hl:(l.eraseIdx k).length=l.length-1:=by rw[List.length_eraseIdx,if_pos hk]
 show qah cv l.length l=qah cv (l.eraseIdx k).length (l.eraseIdx k)
 cases hn:l.length with
 | zero=>omega
 | succ n=>
  have e:qah cv (n+1) l=qah cv n (l.eraseIdx k):=by
   conv=>lhs;unfold qah
   rw[h]
  rw[e]
  exact q66 n _ (l.eraseIdx k) (by omega) (quw _)
theorem qae {M:List A→Prop} (hstep:∀l k,q20 (cv l) l.length=some k→M l→M (l.eraseIdx k)):∀(n:Nat) (l:List A),l.length≤n→M l→M (red cv l)
 | 0,l,hl,h=>by
  have:l=[]:=quz (by omega)
  subst this;exact h
 | n+1,l,hl,h=>by
  cases hc:q20 (cv l) l.length with
  | none=>rw[q8n hc];exact h
  | some k=>
   have hk:=(q0t hc).1
   have hlen:(l.eraseIdx k).length=l.length-1:=by rw[List.length_eraseIdx,if_pos hk]
   rw[q7M hc]
   exact qae hstep n _ (by omega) (hstep l k hc h)
theorem q6G (l:List A):(red cv l).Sublist l:=
 qae (M:=fun x=>x.Sublist l) (fun x k _ h=>(List.eraseIdx_sublist x k).trans h) l.length l (quw _) (List.Sublist.refl l)
end
end
noncomputable section
open Go.RowKit
theorem q8f {p:Nat→Bool}:∀{n k:Nat},k<n→p k=true→(∀j,k<j→j<n→p j=false)→q20 p n=some k
 | n+1,k,hk,hp,h=>by
  unfold q20
  by_cases e:k=n
  ·subst e;rw[if_pos hp]
  ·rw[if_neg (by rw[h n (by omega) (by omega)];decide)]
   exact q8f (by omega) hp fun j h1 h2=>h j h1 (by omega)
def q0m (s:qe):(List qa×Int)→Option ((List qa×Int)⊕(List qa))|(left,k)=>if 0≤k then Option.bind (zU left s k) fun(a:Bool)=>if a=Bool.true then Option.bind (qm k (w64 (k+1)) left) fun(a2:List qa)=>some (Sum.inl (a2,w64 (((a2.length:Nat):Int)-1))) else some (Sum.inl (left,w64 (k-1))) else some (Sum.inr left)
theorem q84 (s:qe):∀(n k:Nat) (l:List qa),l.length≤n→n≤1000→(∀a∈l,zP a)→k≤l.length→(∀j,k≤j→j<l.length→q9Q s l j=false)→qG (q0m s) (l,((k:Int)-1))=some (red (q9Q s) l):=by
 intro n
 induction n with
 | zero=>
  intro k l hl _ hf hk hc
  have hl0:l=[]:=quz (by omega)
  subst hl0
  have hk:k=0:=by simpa using hk
  subst hk
  refine zn ?_
  unfold q0m
  dsimp only
  rw[if_neg (by omega)];rfl
 | succ n ih=>
  intro k
  induction k with
  | zero=>
   intro l hl _ hf hk hc
   rw[q8n (q4c.2 fun j hj=>hc j (quG _) hj)]
   refine zn ?_
   unfold q0m
   dsimp only
   rw[if_neg (by omega)]
  | succ k ihk=>
   intro l hl hn hf hk hc
   have e1:((k+1:Nat):Int)-1=(k:Int):=by omega
   rw[e1]
   have hcov:=q9u s l (by omega) hf k (by omega)
   cases hq:q9Q s l k
   ·have e:q0m s (l,(k:Int))=some (.inl (l,((k:Int)-1))):=by
     unfold q0m
     dsimp only
     rw[if_pos (by omega),hcov,quf,hq,if_neg (by decide),Q9 (by omega) (by omega)]
    rw[Qa e]
    refine ihk l hl hn hf (by omega) fun j h1 h2=>?_
    by_cases hj:j=k
    ·rw[hj];exact hq
    ·exact hc j (by omega) h2
   ·have hlen:(l.eraseIdx k).length=l.length-1:=by rw[List.length_eraseIdx,if_pos (by omega)]
    have e:q0m s (l,(k:Int))=some (.inl (l.eraseIdx k,(((l.eraseIdx k).length:Int)-1))):=by
     unfold q0m qm
     dsimp only
     rw[if_pos (by omega),hcov,quf,hq,if_pos rfl,Q9 (by omega) (by omega),if_pos ⟨by omega,rfl,by omega⟩,quf,qui,Q9 (by omega) (by omega)]
    rw[Qa e,q7M (q8f (by omega) hq fun j h1 h2=>hc j (by omega) h2)]
    exact ih (l.eraseIdx k).length (l.eraseIdx k) (by omega) (by omega) (fun a ha=>hf a (List.mem_of_mem_eraseIdx ha)) (quw _) fun j h1 h2=>by omega
def qlj (p:qf) (l:List qa) (day:Int):List qa:=l.filter fun a => !oldB p a day
def qpZ (p:qf) (s:qe) (l:List qa) (day:Int):List qa:=red (q9Q s) (qlj p l day)
theorem ZM (p:qf) (s:qe) (l:List qa) (day:Int):(qpZ p s l day).length≤l.length:=quR (q6G _).length_le (List.length_filter_le _ _)
end
noncomputable section
inductive Cn (e:Nat→Nat→Prop):Nat→Nat→Prop
 | refl (k:Nat):Cn e k k
 | step {i j k:Nat}:Cn e i j→e j k→Cn e i k
def Lw (e:Nat→Nat→Prop) (k m:Nat):Prop:=Cn e k m∧∀j,Cn e k j→m≤j
section
variable {e:Nat→Nat→Prop}
theorem Cn.trans {i j k:Nat} (h:Cn e i j) (h2:Cn e j k):Cn e i k:=by
 induction h2 with
 | refl=>exact h
 | step _ h4 ih=>exact ih.step h4
theorem Cn.one {i j:Nat} (h:e i j):Cn e i j:=(Cn.refl i).step h
theorem Cn.symm (hs:∀i j,e i j→e j i) {i j:Nat} (h:Cn e i j):Cn e j i:=by
 induction h with
 | refl=>exact .refl _
 | step _ h4 ih=>exact(Cn.one (hs _ _ h4)).trans ih
theorem Cn.lt {n:Nat} (hn:∀i j,e i j→i<n∧j<n) {i j:Nat} (h:Cn e i j) (hi:i<n):j<n:=by
 cases h with
 | refl=>exact hi
 | step _ h4=>exact(hn _ _ h4).2
theorem Lw.uniq {k m m':Nat} (h:Lw e k m) (h':Lw e k m'):m=m':=Nat.le_antisymm (h.2 _ h'.1) (h'.2 _ h.1)
theorem Lw.same (hs:∀i j,e i j→e j i) {k j m:Nat} (h:Lw e k m) (hc:Cn e k j):Lw e j m:=⟨(hc.symm hs).trans h.1,fun i hi=>h.2 i (hc.trans hi)⟩
theorem Lw.self (hs:∀i j,e i j→e j i) {k m:Nat} (h:Lw e k m):Lw e m m:=h.same hs h.1
theorem qov (k:Nat):∃m,Lw e k m:=by
 have:∀b j,j≤b→Cn e k j→∃m,Lw e k m:=by
  intro b
  induction b with
  | zero=>intro j hj hc;exact⟨j,hc,fun i _=>by omega⟩
  | succ b ih=>
   intro j hj hc
   by_cases h:∃i,i≤b∧Cn e k i
   ·obtain⟨i,h1,h2⟩:=h;exact ih i h1 h2
   ·refine⟨j,hc,fun i hi=>?_⟩
    by_cases hib:i≤b
    ·exact absurd ⟨i,hib,hi⟩ h
    ·omega
 exact this k k (quw k) (.refl k)
theorem qiS {l:List Nat} {p q:Nat→Bool} (h:∀x∈l,p x=true→q x=true) {y:Nat} (hy:y∈l) (h1:p y=false) (h2:q y=true):(l.filter p).length<(l.filter q).length:=by
 have mono:∀l:List Nat,(∀x∈l,p x=true→q x=true)→(l.filter p).length≤(l.filter q).length:=by
  intro l
  induction l with
  | nil=>intro _;exact quw _
  | cons a l ih=>
   intro h
   have:=ih fun x hx=>h x (qun _ hx)
   rw[List.filter_cons,List.filter_cons]
   by_cases ha:p a=true
   ·rw[if_pos ha,if_pos (h a quv ha)];simp only[qur];omega
   ·rw[if_neg ha];split
    ·simp only[qur];omega
    ·exact this
 induction l with
 | nil=>cases hy
 | cons a l ih=>
  have ht:=fun x hx=>h x (qun _ hx)
  rw[List.filter_cons,List.filter_cons]
  rcases quC.1 hy with rfl|hy
  ·have:=mono l ht
   rw[if_neg (by rw[h1];simp),if_pos h2];simp only[qur];omega
  ·have:=ih ht hy
   by_cases ha:p a=true
   ·rw[if_pos ha,if_pos (h a quv ha)];simp only[qur];omega
   ·rw[if_neg ha];split
    ·simp only[qur];omega
    ·exact this
theorem q5z {n:Nat} (hn:∀i j,e i j→i<n∧j<n) (hs:∀i j,e i j→e j i) {G:Nat→Nat→Nat} (h0:∀k,k<n→G 0 k=k) (h1:∀r k,k<n→G (r+1) k≤G r k) (h2:∀r i k,e i k→G (r+1) i≤G r k)
  (h3:∀r k,k<n→Cn e k (G r k)) {k:Nat} (hk:k<n):Lw e k (G n k):=by
 obtain⟨m,hm⟩:=qov (e:=e) k
 have hmn:m<n:=hm.1.lt hn hk
 have hge:∀r j,Cn e m j→m≤G r j:=fun r j hj=>hm.2 _ ((hm.1.trans hj).trans (h3 r j (hj.lt hn hmn)))
 have hA:∀r j,Cn e m j→G r j=m→G (r+1) j=m:=fun r j hj h=>Nat.le_antisymm (by have:=h1 r j (hj.lt hn hmn);omega) (hge _ _ hj)
 have h0m:∀r,G r m=m:=by
  intro r
  induction r with
  | zero=>exact h0 m hmn
  | succ r ih=>exact hA r m (.refl m) ih
 -- either all that is joined has it, or there is one more
 have key:∀r,(∀j,Cn e m j→G r j=m)∨r+1≤((List.range n).filter fun j=>decide (G r j=m)).length:=by
  intro r
  induction r with
  | zero=>
   refine .inr ?_
   have:m∈(List.range n).filter fun j=>decide (G 0 j=m):=qvb.2 ⟨qvc.2 hmn,qvg (h0 m hmn)⟩
   exact List.length_pos_of_mem this
  | succ r ih=>
   rcases ih with ih|ih
   ·exact .inl fun j hj=>hA r j hj (ih j hj)
   ·by_cases hcl:∀j,j<n→G (r+1) j=m→G r j=m
    ·refine .inl fun j hj=>?_
     have:G r j=m:=by
      induction hj with
      | refl=>exact h0m r
      | step hij he ih2=>
       rename_i j k
       have hk:=(hn _ _ he).2
       refine hcl k hk (Nat.le_antisymm ?_ (hge _ _ (hij.step he)))
       have:=h2 r k j (hs _ _ he)
       omega
     exact hA r j hj this
    ·refine .inr ?_
     simp only[Classical.not_forall] at hcl
     obtain⟨j,hj,hj1,hj2⟩:=hcl
     have:=qiS (l:=List.range n) (p:=fun j=>decide (G r j=m)) (q:=fun j=>decide (G (r+1) j=m)) (fun x hx hp=>by
      have hp:=of_decide_eq_true hp
      have hx:=qvc.1 hx
      have hcx:Cn e m x:=by have:=(h3 r x hx).symm hs;rw[hp] at this;exact this
      exact qvg (hA r x hcx hp)) (qvc.2 hj) (decide_eq_false hj2) (qvg hj1)
     omega
 rcases key n with h|h
 ·rw[h k (hm.1.symm hs)];exact hm
 ·have:=List.length_filter_le (fun j=>decide (G n j=m)) (List.range n)
  rw[List.length_range] at this
  omega
end
def q6l (n:Nat) (f:Nat→Nat):List (List Nat):=((List.range n).filter fun k=>decide (f k=k)).map fun r=>(List.range n).filter fun i=>decide (f i=r)
theorem q9d {n:Nat} {f g:Nat→Nat} (h:∀k,k<n→f k=g k):q6l n f=q6l n g:=by
 unfold q6l
 have e1:(List.range n).filter (fun k=>decide (f k=k))=(List.range n).filter fun k=>decide (g k=k):=List.filter_congr fun k hk=>by rw[h k (qvc.1 hk)]
 rw[e1]
 exact List.map_congr_left fun r _=>List.filter_congr fun k hk=>by rw[h k (qvc.1 hk)]
end
noncomputable section
def q0Z (g:List Nat) (j:Nat×Nat):List Nat:=(g.set j.1 (min (g.getD j.1 0) (g.getD j.2 0))).set j.2 (min (g.getD j.1 0) (g.getD j.2 0))
def QE (js:List (Nat×Nat)) (g:List Nat):List Nat:=js.foldl q0Z g
def Qz (js:List (Nat×Nat)):Nat→List Nat→List Nat
 | 0,g=>g
 | r+1,g=>Qz js r (QE js g)
theorem Jp (g:List Nat) (j:Nat×Nat):(q0Z g j).length=g.length:=by unfold q0Z;rw[qv1,qv1]
theorem q0z:∀(js:List (Nat×Nat)) (g:List Nat),(QE js g).length=g.length
 | [],_=>rfl
 | j::js,g=>(q0z js (q0Z g j)).trans (Jp g j)
theorem q15 (js:List (Nat×Nat)):∀(r:Nat) (g:List Nat),(Qz js r g).length=g.length
 | 0,_=>rfl
 | r+1,g=>(q15 js r _).trans (q0z js g)
theorem ZG (js:List (Nat×Nat)):∀(r:Nat) (g:List Nat),Qz js (r+1) g=QE js (Qz js r g)
 | 0,_=>rfl
 | r+1,g=>ZG js r (QE js g)
theorem q7s {g:List Nat} {i:Nat} (v k:Nat) (hi:i<g.length):(g.set i v).getD k 0=if k=i then v else g.getD k 0:=by
 simp only[List.getD_eq_getElem?_getD]
 by_cases h:k=i
 ·subst h;rw[if_pos rfl,qvd hi];rfl
 ·rw[if_neg h,qve (by omega)]
theorem q1n {g:List Nat} {j:Nat×Nat} (h1:j.1<g.length) (h2:j.2<g.length) (k:Nat):(q0Z g j).getD k 0=if k=j.1∨k=j.2 then min (g.getD j.1 0) (g.getD j.2 0) else g.getD k 0:=by
 unfold q0Z
 rw[q7s _ _ (by rw[qv1];exact h2),q7s _ _ h1]
 by_cases a:k=j.2<;>by_cases b:k=j.1<;>simp[a,b]
section
variable {e:Nat→Nat→Prop}
theorem q4G {g:List Nat} {j:Nat×Nat} (h1:j.1<g.length) (h2:j.2<g.length) (k:Nat):(q0Z g j).getD k 0≤g.getD k 0:=by
 rw[q1n h1 h2]
 split
 ·rename_i h
  rcases h with rfl|rfl
  ·exact Nat.min_le_left _ _
  ·exact Nat.min_le_right _ _
 ·exact quw _
theorem q0i:∀(js:List (Nat×Nat)) (g:List Nat),(∀j∈js,j.1<g.length∧j.2<g.length)→∀k,(QE js g).getD k 0≤g.getD k 0
 | [],_,_,_=>quw _
 | j::js,g,h,k=>by
  have hj:=h j quv
  exact quR (q0i js (q0Z g j) (fun x hx=>by rw[Jp];exact h x (qun _ hx)) k) (q4G hj.1 hj.2 k)
theorem q12:∀(js:List (Nat×Nat)) (g:List Nat),(∀j∈js,j.1<g.length∧j.2<g.length)→∀j∈js,(QE js g).getD j.1 0≤g.getD j.2 0∧(QE js g).getD j.2 0≤g.getD j.1 0
 | j::js,g,h,i,hi=>by
  have hj:=h j quv
  have ht:∀x∈js,x.1<(q0Z g j).length∧x.2<(q0Z g j).length:=fun x hx=>by rw[Jp];exact h x (qun _ hx)
  rcases quC.1 hi with rfl|hi
  ·have a:=q0i js (q0Z g i) ht i.1
   have b:=q0i js (q0Z g i) ht i.2
   rw[q1n hj.1 hj.2,if_pos (.inl rfl)] at a
   rw[q1n hj.1 hj.2,if_pos (.inr rfl)] at b
   exact⟨quR a (Nat.min_le_right _ _),quR b (Nat.min_le_left _ _)⟩
  ·obtain⟨a,b⟩:=q12 js (q0Z g j) ht i hi
   exact⟨quR a (q4G hj.1 hj.2 _),quR b (q4G hj.1 hj.2 _)⟩
theorem q5E (hs:∀i j,e i j→e j i):∀(js:List (Nat×Nat)) (g:List Nat),(∀j∈js,j.1<g.length∧j.2<g.length∧e j.1 j.2)→(∀k,k<g.length→Cn e k (g.getD k 0))→∀k,k<g.length→Cn e k ((QE js g).getD k 0)
 | [],_,_,h,k,hk=>h k hk
 | j::js,g,h,hc,k,hk=>by
  obtain⟨h1,h2,h3⟩:=h j quv
  refine q5E hs js (q0Z g j) (fun x hx=>by rw[Jp];exact h x (qun _ hx)) (fun i hi=>?_) k (by rw[Jp];exact hk)
  rw[Jp] at hi
  rw[q1n h1 h2]
  have c1:=hc _ h1
  have c2:=hc _ h2
  have c3:∀i,Cn e i j.1→Cn e i (min (g.getD j.1 0) (g.getD j.2 0)):=fun i hi=>by
   by_cases hm:g.getD j.1 0≤g.getD j.2 0
   ·rw[Nat.min_eq_left hm];exact hi.trans c1
   ·rw[Nat.min_eq_right (by omega)];exact(hi.step h3).trans c2
  split
  ·rename_i h
   rcases h with rfl|rfl
   ·exact c3 _ (.refl _)
   ·exact c3 _ (Cn.one (hs _ _ h3))
  ·exact hc i hi
theorem q9K {n:Nat} (hn:∀i j,e i j→i<n∧j<n) (hs:∀i j,e i j→e j i) {js:List (Nat×Nat)} (h1:∀j∈js,j.1<n∧j.2<n∧e j.1 j.2) (h2:∀i k,e i k→i=k∨(i,k)∈js∨(k,i)∈js) {k:Nat} (hk:k<n) :
  Lw e k ((Qz js n (List.range n)).getD k 0):=by
 have hl:∀r,(Qz js r (List.range n)).length=n:=fun r=>by rw[q15,List.length_range]
 have hj:∀r,∀j∈js,j.1<(Qz js r (List.range n)).length∧j.2<(Qz js r (List.range n)).length:=fun r j hj=>by rw[hl];exact⟨(h1 j hj).1,(h1 j hj).2.1⟩
 have h0:∀k,k<n→(List.range n).getD k 0=k:=fun k hk=>by rw[List.getD_eq_getElem?_getD,List.getElem?_range hk];rfl
 refine q5z (G:=fun r k=>(Qz js r (List.range n)).getD k 0) hn hs h0 (fun r k hk=>?_) (fun r i k he=>?_) (fun r k hk=>?_) hk
 ·show(Qz js (r+1) _).getD k 0≤_
  rw[ZG];exact q0i _ _ (hj r) k
 ·show(Qz js (r+1) _).getD i 0≤(Qz js r _).getD k 0
  rw[ZG]
  rcases h2 i k he with rfl|h|h
  ·exact q0i _ _ (hj r) i
  ·exact(q12 _ _ (hj r) _ h).1
  ·exact(q12 _ _ (hj r) _ h).2
 ·show Cn e k ((Qz js r _).getD k 0)
  clear hj
  induction r generalizing k with
  | zero=>show Cn e k ((List.range n).getD k 0);rw[h0 k hk];exact .refl k
  | succ r ih=>
   rw[ZG]
   exact q5E hs js _ (fun j hj=>by rw[hl];exact h1 j hj) (fun k hk=>ih k (by rw[←hl r];exact hk)) k (by rw[hl];exact hk)
end
end
noncomputable section
end
noncomputable section
theorem qfQ {p:Nat→Bool}:∀{n c r:Nat},((List.range n).filter p)[c]?=some r→r<n∧p r=true∧((List.range r).filter p).length=c
 | 0,c,r,h=>by simp at h
 | n+1,c,r,h=>by
  rw[List.range_succ,List.filter_append] at h
  by_cases hc:c<((List.range n).filter p).length
  ·rw[quT hc] at h
   obtain⟨h1,h2⟩:=qfQ h
   exact⟨by omega,h2⟩
  ·rw[quS (by omega),List.filter_cons] at h
   by_cases hp:p n=true
   ·rw[if_pos hp] at h
    cases hd:c-((List.range n).filter p).length with
    | zero=>
     rw[hd] at h
     have h:n=r:=by simpa using h
     subst h
     exact⟨by omega,hp,by omega⟩
    | succ d=>rw[hd] at h;simp at h
   ·rw[if_neg hp] at h;simp at h
theorem qfW {p:Nat→Bool}:∀{n r:Nat},r<n→p r=true→((List.range n).filter p)[((List.range r).filter p).length]?=some r
 | n+1,r,h,hp=>by
  rw[List.range_succ,List.filter_append]
  by_cases hr:r=n
  ·subst hr
   rw[quS (quw _),Nat.sub_self,List.filter_cons,if_pos hp];rfl
  ·have:=qfW (n:=n) (by omega) hp
   rw[quT (Qq this)];exact this
def rts (n:Nat) (f:Nat→Nat):List Nat:=(List.range n).filter fun k=>decide (f k=k)
def rows (n k:Nat) (f:Nat→Nat):List (List Int):=(rts n f).map fun r=>((List.range k).filter fun i=>decide (f i=r)).map fun(i:Nat)=>(i:Int)
def ixs (k:Nat) (f:Nat→Nat):List (Int×Int):=(rts k f).map fun(r:Nat)=>((r:Int),((rts r f).length:Int))
variable {f:Nat→Nat}
theorem q8I {g:Nat→Int}:∀{L:List Nat} {r:Nat},r∈L→QR 0 (L.map fun(r:Nat)=>((r:Int),g r)) (r:Int)=g r
 | a::L,r,h=>by
  show(if(r:Int)=(a:Int) then g a else QR 0 (L.map fun(r:Nat)=>((r:Int),g r)) (r:Int))=g r
  by_cases e:r=a
  ·subst e;rw[if_pos rfl]
  ·rw[if_neg (by omega)];exact q8I ((quC.1 h).resolve_left e)
theorem q8b {g:Nat→Int} {k:Nat} {v:Int}:∀{L:List Nat},k ∉ L→q2o (L.map fun(r:Nat)=>((r:Int),g r)) (k:Int) v=(L.map fun(r:Nat)=>((r:Int),g r))++[((k:Int),v)]
 | [],_=>rfl
 | a::L,h=>by
  obtain⟨h1,h2⟩:=not_or.1 (fun h'=>h (quC.2 h'):¬ (k=a∨k∈L))
  show(if(k:Int)=(a:Int) then _ else _)=_
  rw[if_neg (by omega),q8b h2];rfl
theorem qiy {k r:Nat} (h:f r=r) (hr:r<k):QR 0 (ixs k f) (r:Int)=((rts r f).length:Int):=
 q8I (qvb.2 ⟨qvc.2 hr,qvg h⟩)
theorem qh3 (k:Nat):(ixs k f).length=(rts k f).length:=quY ..
theorem qer (k:Nat):ixs (k+1) f=if f k=k then q2o (ixs k f) (k:Int) ((ixs k f).length:Int) else ixs k f:=by
 have e:rts (k+1) f=rts k f++if f k=k then[k] else[]:=by
  unfold rts
  rw[List.range_succ,List.filter_append,List.filter_cons]
  by_cases h:f k=k
  ·rw[if_pos (qvg h),if_pos h];rfl
  ·rw[if_neg (by simpa using h),if_neg h];rfl
 by_cases h:f k=k
 ·rw[if_pos h]
  rw[if_pos h] at e
  have hn:k ∉ rts k f:=fun hm=>by have:=qvc.1 (qvb.1 hm).1;omega
  rw[qh3]
  unfold ixs
  rw[q8b hn,e,List.map_append];rfl
 ·rw[if_neg h]
  rw[if_neg h,quB] at e
  unfold ixs;rw[e]
theorem q7k {n k r:Nat} (h:f r=r) (hr:r<n):(rows n k f)[(rts r f).length]?=some (((List.range k).filter fun i=>decide (f i=r)).map fun(i:Nat)=>(i:Int)):=by
 unfold rows
 rw[quu,show(rts n f)[(rts r f).length]?=some r from qfW hr (qvg h)];rfl
theorem qbD {n k r:Nat} (hk:f k=r) (h:f r=r) (hr:r<n):(rows n k f).set (rts r f).length ((((List.range k).filter fun i=>decide (f i=r)).map fun(i:Nat)=>(i:Int))++[(k:Int)])=rows n (k+1) f:=by
 have hc:=Qq (q7k (k:=k) h hr)
 apply List.ext_getElem?
 intro c
 have hrow:∀r',((List.range (k+1)).filter fun i=>decide (f i=r')).map (fun(i:Nat)=>(i:Int))=(((List.range k).filter fun i=>decide (f i=r')).map fun(i:Nat)=>(i:Int))++if r'=r then[(k:Int)] else[]:=fun r'=>by
  rw[List.range_succ,List.filter_append,List.map_append,List.filter_cons]
  by_cases e:r'=r
  ·subst e;rw[if_pos (qvg hk),if_pos rfl];rfl
  ·rw[if_neg (by simpa using fun h'=>e (by rw[←hk,h'])),if_neg e];rfl
 by_cases e:c=(rts r f).length
 ·subst e
  rw[qvd hc,q7k h hr,hrow r,if_pos rfl]
 ·rw[qve (by omega)]
  unfold rows
  rw[quu,quu]
  cases hx:(rts n f)[c]? with
  | none=>rfl
  | some r'=>
   have hne:r'≠r:=fun h'=>by
    obtain⟨-,-,h3⟩:=qfQ hx
    exact e (by rw[←h3,h'];rfl)
   rw[Option.map_some,Option.map_some]
   rw[hrow r',if_neg hne,quB]
theorem qbT (n:Nat):rows n 0 f=List.replicate (rts n f).length []:=by
 unfold rows
 rw[List.range_zero]
 exact List.map_const' ..
theorem qdJ (n:Nat):rows n n f=(q6l n f).map fun g=>g.map fun(i:Nat)=>(i:Int):=by
 unfold rows q6l
 rw[List.map_map];rfl
end
noncomputable section
open Go.RowKit
def Q4 (g:List Nat):List Int:=g.map fun(x:Nat)=>(x:Int)
theorem QX (g:List Nat):(Q4 g).length=g.length:=quY ..
theorem q1c {g:List Nat} {k:Nat} (h:k<g.length):(Q4 g)[k]?=some ((g.getD k 0:Nat):Int):=by
 unfold Q4
 rw[quu,quh h,List.getD_eq_getElem?_getD,quh h];rfl
theorem q67 (g:List Nat) (k v:Nat):(Q4 g).set k (v:Int)=Q4 (g.set k v):=by
 unfold Q4;rw[List.map_set]
def eF (l:List qa) (i k:Nat):Bool:=match l[i]?,l[k]? with
 | some a,some b => !QO a b
 | _,_=>false
theorem qeb {l:List qa} {i k:Nat} {a b:qa} (ha:l[i]?=some a) (hb:l[k]?=some b):eF l i k = !QO a b:=by unfold eF;rw[ha,hb]
theorem qci {l:List qa} {i k:Nat} (h:eF l i k=true):i<l.length∧k<l.length:=by
 unfold eF at h
 split at h
 ·rename_i h1 h2;exact⟨Qq h1,Qq h2⟩
 ·cases h
theorem q4Y {l:List qa} {i k:Nat} (h:eF l i k=true):eF l k i=true:=by
 obtain⟨h1,h2⟩:=qci h
 have ha:l[i]?=some l[i]:=quh h1
 have hb:l[k]?=some l[k]:=quh h2
 rw[qeb ha hb] at h
 rw[qeb hb ha,q2Y];exact h
def jl (l:List qa) (k m:Nat):List (Nat×Nat):=((List.range m).filter fun i=>eF l i k).map fun i=>(i,k)
def js (l:List qa) (m:Nat):List (Nat×Nat):=(List.range m).flatMap fun k=>jl l k k
theorem qgR (l:List qa) (k m:Nat):jl l k (m+1)=jl l k m++if eF l m k=true then[(m,k)] else[]:=by
 unfold jl
 rw[List.range_succ,List.filter_append,List.map_append,List.filter_cons]
 cases eF l m k<;>rfl
theorem qdd (l:List qa) (m:Nat):js l (m+1)=js l m++jl l m m:=by
 unfold js
 rw[List.range_succ,List.flatMap_append];simp
theorem qfE (l:List qa) (k m:Nat):(jl l k m).length≤m:=by
 unfold jl
 rw[quY]
 exact quR (List.length_filter_le _ _) (by rw[List.length_range];exact quw _)
theorem qaa (l:List qa):∀m,(js l m).length≤m*m
 | 0=>quw _
 | m+1=>by
  rw[qdd,qum]
  have:=qaa l m
  have:=qfE l m m
  have:(m+1)*(m+1)=m*m+2*m+1:=by rw[Nat.add_mul,Nat.mul_add];omega
  omega
theorem q7q {l:List qa} {m:Nat} {j:Nat×Nat}:j∈js l m↔j.2<m∧j.1<j.2∧eF l j.1 j.2=true:=by
 unfold js jl
 simp only[List.mem_flatMap,qv0,qvb,qvc]
 constructor
 ·rintro⟨k,h1,i,⟨h2,h3⟩,rfl⟩;exact⟨h1,h2,h3⟩
 ·rintro⟨h1,h2,h3⟩;exact⟨j.2,h1,j.1,⟨h2,h3⟩,rfl⟩
def arr (j:Nat×Nat):QF Int:=QF.mk (j.1:Int) (j.2:Int)
theorem q9q (w1:List Int) (l:List qa) (hl:l.length≤1000) (hf:∀a∈l,zP a) (t19 t20:Int) (k:Nat) (hk:k<l.length) (J:List (Nat×Nat)) (hJ:J.length≤1000000):qG (zx w1 l (k:Int) t19 t20 (k:Int)) (J.map arr,(0:Int))=some ((J++jl l k k).map arr):=by
 have hML:10000000≤maxLen:=by unfold maxLen;omega
 have hb:l[k]?=some l[k]:=quh hk
 have:=Jx (step:=zx w1 l (k:Int) t19 t20 (k:Int)) (fun i=>((J++jl l k i).map arr,(i:Int))) 0 k (quG _) (fun i _ hi=>by
  have ha:l[i]?=some l[i]:=quh (by omega)
  have hj:=qfE l k i
  unfold zx
  dsimp only
  rw[if_pos (by omega),if_pos ⟨by omega,by omega⟩,qui,ha,quf,if_pos ⟨by omega,by omega⟩,qui,hb,quf,q8B (hf _ (qv7 _)) (hf _ (qv7 _)),quf,Qx hi (by omega),qgR,qeb ha hb]
  cases QO l[i] l[k]
  ·rw[if_pos (show(!false)=true by decide),if_pos ⟨by rw[quY,qum];omega,by rw[quY,qum];omega⟩,if_pos (show(!false)=true by decide),←quV,List.map_append (l₁:=J++jl l k i)];rfl
  ·rw[if_neg (show ¬ (!true)=true by decide),if_neg (show ¬ (!true)=true by decide),quB]) (e:=(J++jl l k k).map arr) (by
  unfold zx
  dsimp only
  rw[if_neg (by omega)])
 have e0:jl l k 0=[]:=rfl
 rw[e0,quB] at this
 exact this
theorem q9E (l:List qa) (hl:l.length≤1000) (hf:∀a∈l,zP a):qG (zh l ((l.length:Nat):Int)) ([],List.replicate l.length (0:Int),(0:Int))=some ((js l l.length).map arr,Q4 (List.range l.length)):=by
 have hsq:l.length*l.length≤1000*1000:=Nat.mul_le_mul hl hl
 have st0:∀k,k≤l.length→(Q4 (List.range k)++List.replicate (l.length-k) (0:Int)).length=l.length:=fun k hk=>by rw[qum,QX,List.length_range,quX];omega
 have:=Jx (step:=zh l ((l.length:Nat):Int)) (fun k=>((js l k).map arr,Q4 (List.range k)++List.replicate (l.length-k) (0:Int),(k:Int))) 0 l.length (quG _) (fun k _ hk=>by
  have hlen:=st0 k (by omega)
  have hset:(Q4 (List.range k)++List.replicate (l.length-k) (0:Int)).set k (k:Int)=Q4 (List.range (k+1))++List.replicate (l.length-(k+1)) (0:Int):=by
   obtain⟨q,hq⟩:∃q,l.length-k=q+1:=⟨l.length-k-1,by omega⟩
   rw[show l.length-(k+1)=q by omega,hq,List.replicate_succ,List.set_append_right _ _ (by rw[QX,List.length_range];exact quw _),QX,List.length_range,Nat.sub_self,List.set_cons_zero,List.range_succ]
   unfold Q4
   rw[List.map_append,quV];rfl
  have hjl:=qaa l k
  have hkk:k*k≤1000*1000:=Nat.mul_le_mul (by omega) (by omega)
  unfold zh
  dsimp only
  rw[if_pos (by omega),if_pos ⟨by omega,by omega⟩,qui,if_pos (by omega),hset,q9q _ l hl hf _ _ k hk _ (by omega),quf,Qx hk (by omega),qdd]) (e:=((js l l.length).map arr,Q4 (List.range l.length))) (by
  unfold zh
  dsimp only
  rw[if_neg (by omega),Nat.sub_self,List.replicate_zero,quB])
 rw[qv8,List.range_zero] at this
 exact this
theorem q9t (J:List (Nat×Nat)) (hJ:J.length≤1000000) (l:List qa) (t50 t51:Int) (g:List Nat) (hg:∀j∈J,j.1<g.length∧j.2<g.length):qG (zr (J.map arr) l t50 t51 (((J.map arr).length:Nat):Int)) (Q4 g,(0:Int))=some (Q4 (QE J g)):=by
 have hlen:∀i,(QE (J.take i) g).length=g.length:=fun i=>q0z _ _
 have:=Jx (step:=zr (J.map arr) l t50 t51 (((J.map arr).length:Nat):Int)) (fun i=>(Q4 (QE (J.take i) g),(i:Int))) 0 J.length (quG _) (fun i _ hi=>by
  have hj:J[i]?=some J[i]:=quh hi
  have hjm:=hg _ (qv7 hi)
  have ha:(J.map arr)[i]?=some (arr J[i]):=by rw[quu,hj];rfl
  have hl2:=hlen i
  have e1:QE (J.take (i+1)) g=q0Z (QE (J.take i) g) J[i]:=by
   unfold QE
   rw[List.take_add_one,hj,List.foldl_append];rfl
  unfold zr
  dsimp only
  rw[if_pos (by rw[quY];omega),if_pos ⟨by omega,by rw[quY];omega⟩,qui,ha,quf]
  have a0:(arr J[i]).a0=((J[i].1:Nat):Int):=rfl
  have a1:(arr J[i]).a1=((J[i].2:Nat):Int):=rfl
  rw[a0,a1,QX,if_pos ⟨by omega,by omega⟩,qui,q1c (by omega),quf,if_pos ⟨by omega,by omega⟩,qui,q1c (by omega),quf,if_pos ⟨by omega,by omega⟩,if_pos (by omega),if_pos ⟨by omega,by omega⟩,if_pos (by omega),Qx hi hJ,e1]
  have hm:min (((QE (J.take i) g).getD J[i].1 0:Nat):Int) (((QE (J.take i) g).getD J[i].2 0:Nat):Int)=((min ((QE (J.take i) g).getD J[i].1 0) ((QE (J.take i) g).getD J[i].2 0):Nat):Int):=by omega
  rw[hm,q67,q67];rfl) (e:=Q4 (QE J g)) (by
  unfold zr
  dsimp only
  rw[if_neg (by rw[quY];omega),List.take_length])
 exact this
theorem q3n (J:List (Nat×Nat)) (hJ:J.length≤1000000) (l:List qa):∀(m k:Nat) (g:List Nat),m+k=l.length→l.length≤1000→(∀j∈J,j.1<g.length∧j.2<g.length)→qG (zp (J.map arr) l ((l.length:Nat):Int)) (Q4 g,(k:Int))=some (Q4 (Qz J m g))
 | 0,k,g,hk,hl,hg=>by
  refine zn ?_
  unfold zp
  dsimp only
  rw[if_neg (by omega)];rfl
 | m+1,k,g,hk,hl,hg=>by
  have e:zp (J.map arr) l ((l.length:Nat):Int) (Q4 g,(k:Int))=some (.inl (Q4 (QE J g),((k+1:Nat):Int))):=by
   unfold zp
   dsimp only
   rw[if_pos (by omega),q9t J hJ l _ _ g hg,quf,Qx (n:=l.length) (by omega) (by omega)]
  rw[Qa e]
  exact q3n J hJ l m (k+1) (QE J g) (by omega) hl fun j hj=>by rw[q0z];exact hg j hj
def lwF (l:List qa) (k:Nat):Nat:=(Qz (js l l.length) l.length (List.range l.length)).getD k 0
theorem q4i (l:List qa) {k:Nat} (hk:k<l.length):Lw (fun i j=>eF l i j=true) k (lwF l k):=
 q9K (fun i j h=>qci h) (fun i j h=>q4Y h) (fun j hj=>by
  obtain⟨h1,h2,h3⟩:=q7q.1 hj
  exact⟨by omega,h1,h3⟩) (fun i k h=>by
  obtain⟨h1,h2⟩:=qci h
  by_cases e:i=k
  ·exact .inl e
  ·by_cases hik:i<k
   ·exact .inr (.inl (q7q.2 ⟨h2,hik,h⟩))
   ·exact .inr (.inr (q7q.2 ⟨h1,by show k<i;omega,q4Y h⟩))) hk
theorem qg1 (l:List qa) {k:Nat} (hk:k<l.length):lwF l k<l.length:=(q4i l hk).1.lt (fun i j h=>qci h) hk
theorem qlo (l:List qa) {k:Nat} (hk:k<l.length):lwF l k≤k:=(q4i l hk).2 k (.refl k)
theorem q8G (l:List qa) {k:Nat} (hk:k<l.length):lwF l (lwF l k)=lwF l k:=(q4i l (qg1 l hk)).uniq ((q4i l hk).self fun i j h=>q4Y h)
theorem q8Q (l:List qa) {i k:Nat} (h:eF l i k=true):lwF l i=lwF l k:=by
 obtain⟨h1,h2⟩:=qci h
 exact((q4i l h1).same (fun i j h=>q4Y h) (Cn.one h)).uniq (q4i l h2)
theorem q9A (g:List Nat) (hg:g.length≤1000):qG (qY (Q4 g) ((g.length:Nat):Int)) ([],(0:Int))=some (List.replicate (rts g.length fun k=>g.getD k 0).length []):=by
 have hML:10000000≤maxLen:=by unfold maxLen;omega
 have hr:∀k,(rts k fun k=>g.getD k 0).length≤k:=fun k=>by unfold rts;exact quR (List.length_filter_le _ _) (by rw[List.length_range];exact quw _)
 exact Jx (step:=qY (Q4 g) ((g.length:Nat):Int)) (fun k=>(List.replicate (rts k fun k=>g.getD k 0).length ([]:List Int),(k:Int))) 0 g.length (quG _) (fun k _ hk=>by
  have h1:=hr k
  unfold qY
  dsimp only
  rw[if_pos (by omega),QX,if_pos ⟨by omega,by omega⟩,qui,q1c hk,quf,Qx hk (by omega),quX]
  have e:rts (k+1) (fun k=>g.getD k 0)=rts k (fun k=>g.getD k 0)++if g.getD k 0=k then[k] else[]:=by
   unfold rts
   rw[List.range_succ,List.filter_append,List.filter_cons]
   by_cases h:g.getD k 0=k
   ·rw[if_pos (qvg h),if_pos h];rfl
   ·rw[if_neg (by simpa using h),if_neg h];rfl
  rw[e]
  by_cases h:g.getD k 0=k
  ·rw[if_pos (beq_iff_eq.2 (by omega:((g.getD k 0:Nat):Int)=(k:Int))),if_pos ⟨by omega,by omega⟩,if_pos h,qum,quy,List.replicate_succ']
  ·rw[if_neg (fun hh=>h (by have:=beq_iff_eq.1 hh;omega)),if_neg h,quB]) (by
  unfold qY
  dsimp only
  rw[if_neg (by omega)])
theorem qbf (g:List Nat) (hg:g.length≤1000) (h1:∀k,k<g.length→g.getD k 0≤k) (h2:∀k,k<g.length→g.getD (g.getD k 0) 0=g.getD k 0):qG (zt (Q4 g) ((g.length:Nat):Int)) (List.replicate (rts g.length fun k=>g.getD k 0).length [],[],(0:Int))=some ((q6l g.length fun k=>g.getD k 0).map Q4):=by
 have hML:10000000≤maxLen:=by unfold maxLen;omega
 obtain⟨f,hf⟩:∃f:Nat→Nat,f=fun k=>g.getD k 0:=⟨_,rfl⟩
 have hfk:∀k,g.getD k 0=f k:=fun k=>by rw[hf]
 rw[←hf]
 have e0:rows g.length 0 f=List.replicate (rts g.length f).length []:=qbT _
 have hall:rows g.length g.length f=(q6l g.length f).map Q4:=qdJ _
 rw[←hall,←e0]
 have hrl:∀k,(rts k f).length≤k:=fun k=>by unfold rts;exact quR (List.length_filter_le _ _) (by rw[List.length_range];exact quw _)
 exact Jx (step:=zt (Q4 g) ((g.length:Nat):Int)) (fun k=>(rows g.length k f,ixs k f,(k:Int))) 0 g.length (quG _) (fun k _ hk=>by
  have hle:f k≤k:=by rw[←hfk];exact h1 k hk
  have hid:f (f k)=f k:=by have:=h2 k hk;rw[hfk,hfk] at this;exact this
  have hM:QR 0 (ixs (k+1) f) ((f k:Nat):Int)=(((rts (f k) f).length:Nat):Int):=qiy hid (by omega)
  have hrow:=q7k (n:=g.length) (k:=k) hid (by omega)
  have hlt:=Qq hrow
  have hfl:(((List.range k).filter fun i=>decide (f i=f k)).map fun(i:Nat)=>(i:Int)).length≤k:=by
   rw[quY]
   exact quR (List.length_filter_le _ _) (by rw[List.length_range];exact quw _)
  have hsucc:=qbD (n:=g.length) (k:=k) rfl hid (by omega:f k<g.length)
  have hx:=qer (f:=f) k
  unfold zt
  dsimp only
  rw[if_pos (by omega),QX,if_pos ⟨by omega,by omega⟩,qui,q1c hk,quf,hfk,Qx hk (by omega)]
  by_cases h:f k=k
  ·rw[if_pos h] at hx
   rw[if_pos (by rw[h];simp),←hx,hM,qui,hrow,quf,if_pos ⟨by omega,by omega⟩,quf,if_pos ⟨by omega,by omega⟩,if_pos ⟨by omega,by omega⟩,if_pos hlt,hsucc]
  ·rw[if_neg h] at hx
   rw[hx] at hM
   rw[if_neg (fun hh=>h (by have:=beq_iff_eq.1 hh;omega)),hM,qui,hrow,quf,if_pos ⟨by omega,by omega⟩,quf,if_pos ⟨by omega,by omega⟩,if_pos ⟨by omega,by omega⟩,if_pos hlt,hsucc,hx]) (by
  unfold zt
  dsimp only
  rw[if_neg (by omega)])
theorem q5O (l:List qa) (hl:l.length≤1000) (hf:∀a∈l,zP a):zl l=some ((q6l l.length (lwF l)).map Q4):=by
 obtain⟨g,hg⟩:∃g,g=Qz (js l l.length) l.length (List.range l.length):=⟨_,rfl⟩
 have hgl:g.length=l.length:=by rw[hg,q15,List.length_range]
 have hgf:∀k,g.getD k 0=lwF l k:=fun k=>by rw[hg];rfl
 have hsq:l.length*l.length≤1000*1000:=Nat.mul_le_mul hl hl
 have hjl:=qaa l l.length
 have hr:=q3n (js l l.length) (by omega) l l.length 0 (List.range l.length) (by omega) hl (fun j hj=>by
  obtain⟨h1,h2,-⟩:=q7q.1 hj
  rw[List.length_range];omega)
 have hroots:=q9A g (by omega)
 have hfill:=qbf g (by omega) (fun k hk=>by rw[hgf];exact qlo l (by omega)) (fun k hk=>by rw[hgf,hgf];exact q8G l (by omega))
 unfold zl
 rw[if_pos ⟨by omega,by omega,by omega⟩,q9E l hl hf,quf]
 dsimp only
 change Option.bind (qG _ (Q4 (List.range l.length),((0:Nat):Int))) _=_
 rw[hr,←hg,quf,←hgl,hroots,quf,QX,hfill,quf]
 congr 2
 exact q9d fun k _=>hgf k
end
noncomputable section
open Go.RowKit
theorem qcs (a b c:qa) (s:qe):qk a b c s=q0m s:=rfl
def exO (c:List UInt8) (cr g d:Int) (S:List Int) (bd:Int):qa:=qa.mk (qb.mk 1 (ByteArray.mk (List.toArray c))) cr g d S bd []
def exP:qf:=qf.mk 1 0 0 0 (ByteArray.mk (List.toArray [])) (qg.mk 0 0 0 [] []) 0 0 0 []
def exS:qe:=qe.mk 0 100 50
theorem qji (a:qa) (d:Int):qD exP a d=some false:=by
 unfold qD
 rw[if_neg (by decide)]
theorem J7 {a:qa} (ha:zP a):qv a=some ():=by
 have hML:100000≤maxLen:=by unfold maxLen;omega
 have h1:=ha.1;have h2:=ha.2
 unfold qv qR
 rw[if_pos ⟨by omega,by omega⟩,quf,if_pos ⟨by omega,by omega⟩,quf]
theorem q9G (a b c:qa) (ha:zP a) (hb:zP b) (hc:zP c):zY 3 exP exS 100 a b c=some (red (q9Q exS) [a,b,c],0):=by
 have hML:100000≤maxLen:=by unfold maxLen;omega
 have hl:=q84 exS 3 3 [a,b,c] (by simp) (by omega) (by simp[ha,hb,hc]) (by simp) (fun j h1 h2=>by simp at h2;omega)
 have hr:=(q6G (cv:=q9Q exS) [a,b,c]).length_le
 unfold zY
 rw[if_pos (by omega),if_pos (by omega),qji,quf,if_pos (by decide),J7 ha,quf,if_pos (by omega),if_pos (by omega),if_pos (by omega),qji,quf,if_pos (by decide),J7 hb,quf,if_pos (by omega),if_pos (by omega),if_pos (by omega),qji,quf,if_pos (by decide),J7 hc,quf,if_pos (by omega),if_neg (by omega),qcs]
 change Option.bind (qG _ ([a,b,c],((3:Nat):Int)-1)) _=_
 rw[hl,quf,if_neg (by simp at hr;omega)]
theorem q9H (a b:qa) (w:List Int) (x1:Int) (x2:ByteArray) (x3 x4 x5 x6:Int) (x7:List Int) (ha:zP a) (hb:zP b) (hc:zP (qa.mk (qb.mk x1 x2) x3 x4 x5 w x6 x7)) :
  zZ 3 exP exS 100 w a b x1 x2 x3 x4 x5 x6 x7=some (.inl (red (q9Q exS) [a,b,qa.mk (qb.mk x1 x2) x3 x4 x5 w x6 x7],0,qa.mk (qb.mk x1 x2) x3 x4 x5 w x6 x7)):=by
 have hML:100000≤maxLen:=by unfold maxLen;omega
 obtain⟨c,hce⟩:∃c,c=qa.mk (qb.mk x1 x2) x3 x4 x5 w x6 x7:=⟨_,rfl⟩
 have hl:=q84 exS 3 3 [a,b,c] (by simp) (by omega) (by rw[hce];simp[ha,hb,hc]) (by simp) (fun j h1 h2=>by simp at h2;omega)
 have hr:=(q6G (cv:=q9Q exS) [a,b,c]).length_le
 unfold zZ
 rw[if_pos (by omega),if_pos (by omega),qji,quf,if_pos (by decide),J7 ha,quf,if_pos (by omega),if_pos (by omega),if_pos (by omega),qji,quf,if_pos (by decide),J7 hb,quf,if_pos (by omega),if_pos (by omega),if_pos (by omega),qji,quf,if_pos (by decide),J7 hc,quf,if_pos (by omega),if_neg (by omega),qcs,←hce]
 change Option.bind (qG _ ([a,b,c],((3:Nat):Int)-1)) _=_
 rw[hl,quf,if_neg (by simp at hr;omega)]
theorem q8M (a:List (List Int)) (ha:a.length≤1000000) (hs:∀x∈a,x.length≤1000000):zq a a=some true:=by
 have h:=qdu (step:=zg a a) a (fun _=>true) (Sum.inl ()) (Sum.inr ()) (fun i x hx=>by
  have hi:=Qq hx
  unfold zg
  rw[if_pos (by omega),if_pos ⟨by omega,by omega⟩,qui,hx,quf,if_pos ⟨by omega,by omega⟩,quf,qdL _ _ (hs x (qug hx)),quf,qvg rfl,if_neg (by decide),Qx hi ha]
  rfl) (by
  unfold zg
  rw[if_neg (by omega)])
 unfold zq
 rw[if_neg (by simp),h,quf,if_pos (by simp)]
 rfl
theorem qgO:red (q9Q exS) [exO [65,49] 5 60 5 [1] 0,exO [65,49] 5 70 9 [2] 0,exO [66,49] 5 50 0 [3] 0]=[exO [65,49] 5 70 9 [2] 0,exO [66,49] 5 50 0 [3] 0]:=by kernel_rfl
theorem qin:red (q9Q exS) [exO [65,49] 5 60 5 [1] 0,exO [65,49] 5 70 9 [2] 0,exO [66,49] 5 50 0 [2] 1]=[exO [65,49] 5 60 5 [1] 0,exO [65,49] 5 70 9 [2] 0,exO [66,49] 5 50 0 [2] 1]:=by kernel_rfl
theorem qhT:dfs Z2 q2I [exO [65,49] 5 60 0 [1] 0,exO [66,49] 10 60 0 [3] 0,exO [65,49] 6 60 0 [2] 0] [] 0=16:=by kernel_rfl
theorem qiV:(q6l 4 (lwF [exO [65,49] 5 60 0 [1] 0,exO [66,49] 10 60 0 [3] 0,exO [65,49] 6 60 0 [2] 0,exO [67,49] 5 60 0 [2] 1])).map Q4=[[0,2,3],[1]]:=by kernel_rfl
theorem q0b (c:List UInt8) (cr g d x:Int) (bd:Int):zP (exO c cr g d [x] bd):=⟨by show 1≤1000;omega,by show 0≤1000;omega⟩
theorem q6R:QH=some true:=by
 have h1:=q9G (exO [65,49] 5 60 5 [1] 0) (exO [65,49] 5 70 9 [2] 0) (exO [66,49] 5 50 0 [3] 0) (q0b ..) (q0b ..) (q0b ..)
 have h2:=q9H (exO [65,49] 5 60 5 [1] 0) (exO [65,49] 5 70 9 [2] 0) [2] 1 (ByteArray.mk (List.toArray [66,49])) 5 50 0 1 [] (q0b ..) (q0b ..) (q0b [66,49] 5 50 0 2 1)
 have h3:=q51 [exO [65,49] 5 60 0 [1] 0,exO [66,49] 10 60 0 [3] 0,exO [65,49] 6 60 0 [2] 0] (by simp) (by simp[q0b])
 have h4:=q5O [exO [65,49] 5 60 0 [1] 0,exO [66,49] 10 60 0 [3] 0,exO [65,49] 6 60 0 [2] 0,exO [67,49] 5 60 0 [2] 1] (by simp) (by simp[q0b])
 rw[qgO] at h1
 rw[show(qa.mk (qb.mk 1 (ByteArray.mk (List.toArray [66,49]))) 5 50 0 [2] 1 [])=exO [66,49] 5 50 0 [2] 1 from rfl,qin] at h2
 rw[qhT] at h3
 rw[show[exO [65,49] 5 60 0 [1] 0,exO [66,49] 10 60 0 [3] 0,exO [65,49] 6 60 0 [2] 0,exO [67,49] 5 60 0 [2] 1].length=4 from rfl,qiV] at h4
 unfold exO exP exS at h1 h2
 unfold exO at h3 h4
 have hc:(ByteArray.toList (ByteArray.mk (List.toArray [66,49]))==ByteArray.toList (ByteArray.mk (List.toArray [66,49])))=true:=by simp
 unfold QH
 rw[h1,quf,h2,quf,Sum.elim_inl]
 dsimp only
 rw[if_neg (by decide),if_neg (by decide),if_neg (by decide),if_pos (by decide)]
 dsimp only[quq,quF,quf]
 rw[if_neg (by decide),if_pos (by decide),hc,if_neg (by decide),if_neg (by decide),h3,quf]
 dsimp only
 rw[if_pos (by decide),if_pos (by decide),h4,quf,q8M _ (by simp) (by simp)]
 rfl
end
noncomputable section
def q24 {A:Type} (ap:A→A→Prop) (c:A→Int) (L:List A) (v:Int):Prop:=(∃s:List A,s.Sublist L∧s.Pairwise ap∧(s.map c).sum=v)∧∀s:List A,s.Sublist L→s.Pairwise ap→(s.map c).sum≤v
section
variable {A:Type} {ap:A→A→Prop} {c:A→Int}
theorem q8h {B:Type} (f:B→A) {L:List B} {v:Int}:q24 ap c (L.map f) v↔q24 (fun i k=>ap (f i) (f k)) (fun i=>c (f i)) L v:=by
 have e:∀s:List B,((s.map f).map c).sum=(s.map fun i=>c (f i)).sum:=fun s=>by rw[List.map_map];rfl
 constructor
 ·rintro⟨⟨s,h1,h2,h3⟩,h4⟩
  obtain⟨t,ht,rfl⟩:=List.sublist_map_iff.1 h1
  exact⟨⟨t,ht,List.pairwise_map.1 h2,by rw[←e];exact h3⟩,fun t ht hp=>by rw[←e];exact h4 _ (ht.map f) (List.pairwise_map.2 hp)⟩
 ·rintro⟨⟨t,h1,h2,h3⟩,h4⟩
  refine⟨⟨t.map f,h1.map f,List.pairwise_map.2 h2,by rw[e];exact h3⟩,fun s hs hp=>?_⟩
  obtain⟨t,ht,rfl⟩:=List.sublist_map_iff.1 hs
  rw[e]
  exact h4 t ht (List.pairwise_map.1 hp)
theorem q3o (p:A→Bool):∀s:List A,(s.map c).sum=((s.filter p).map c).sum+((s.filter fun x => !p x).map c).sum
 | []=>rfl
 | a::s=>by
  rw[quD,List.sum_cons,q3o p s,List.filter_cons,List.filter_cons]
  cases p a
  ·simp only[Bool.not_false,if_true,Bool.false_eq_true,if_false,quD,List.sum_cons];omega
  ·simp only[Bool.not_true,if_true,Bool.false_eq_true,if_false,quD,List.sum_cons];omega
theorem Jb (p:A→Bool):∀(L t1 t2:List A),t1.Sublist (L.filter p)→t2.Sublist (L.filter fun x => !p x)→∃s:List A,s.Sublist L∧s.filter p=t1∧(s.filter fun x => !p x)=t2
 | [],t1,t2,h1,h2=>⟨[],.slnil,by rw[List.sublist_nil.1 h1];rfl,by rw[List.sublist_nil.1 h2];rfl⟩
 | a::L,t1,t2,h1,h2=>by
  rw[List.filter_cons] at h1 h2
  cases hp:p a with
  | true=>
   rw[if_pos hp] at h1
   rw[if_neg (by rw[hp];simp)] at h2
   cases h1 with
   | cons _ h1=>
    obtain⟨s,a1,a2,a3⟩:=Jb p L t1 t2 h1 h2
    exact⟨s,a1.cons a,a2,a3⟩
   | cons_cons _ h1=>
    obtain⟨s,a1,a2,a3⟩:=Jb p L _ t2 h1 h2
    exact⟨a::s,a1.cons_cons a,by rw[List.filter_cons,if_pos hp,a2],by rw[List.filter_cons,if_neg (by rw[hp];simp),a3]⟩
  | false=>
   rw[if_neg (by rw[hp];simp)] at h1
   rw[if_pos (by rw[hp];rfl)] at h2
   cases h2 with
   | cons _ h2=>
    obtain⟨s,a1,a2,a3⟩:=Jb p L t1 t2 h1 h2
    exact⟨s,a1.cons a,a2,a3⟩
   | cons_cons _ h2=>
    obtain⟨s,a1,a2,a3⟩:=Jb p L t1 _ h1 h2
    exact⟨a::s,a1.cons_cons a,by rw[List.filter_cons,if_neg (by rw[hp];simp),a2],by rw[List.filter_cons,if_pos (by rw[hp];rfl),a3]⟩
theorem q4j (p:A→Bool) (hs:∀x y,ap x y→ap y x):∀s:List A,(∀x∈s,∀y∈s,p x=true→p y=false→ap x y)→(s.filter p).Pairwise ap→(s.filter fun x => !p x).Pairwise ap→s.Pairwise ap
 | [],_,_,_ => .nil
 | a::s,h,h1,h2=>by
  have ih:=q4j p hs s fun x hx y hy=>h x (qun _ hx) y (qun _ hy)
  rw[List.filter_cons] at h1 h2
  cases hp:p a with
  | true=>
   rw[if_pos hp] at h1
   rw[if_neg (by rw[hp];simp)] at h2
   obtain⟨b1,b2⟩:=List.pairwise_cons.1 h1
   refine List.pairwise_cons.2 ⟨fun y hy=>?_,ih b2 h2⟩
   cases hq:p y with
   | true=>exact b1 y (qvb.2 ⟨hy,hq⟩)
   | false=>exact h a quv y (qun _ hy) hp hq
  | false=>
   rw[if_neg (by rw[hp];simp)] at h1
   rw[if_pos (by rw[hp];rfl)] at h2
   obtain⟨b1,b2⟩:=List.pairwise_cons.1 h2
   refine List.pairwise_cons.2 ⟨fun y hy=>?_,ih h1 b2⟩
   cases hq:p y with
   | false=>exact b1 y (qvb.2 ⟨hy,by rw[hq];rfl⟩)
   | true=>exact hs _ _ (h y (qun _ hy) a quv hq hp)
theorem q9k (p:A→Bool) (hs:∀x y,ap x y→ap y x) {L:List A} (h:∀x∈L,∀y∈L,p x=true→p y=false→ap x y) {v w:Int} (h1:q24 ap c (L.filter p) v) (h2:q24 ap c (L.filter fun x => !p x) w):q24 ap c L (v+w):=by
 obtain⟨⟨t1,a1,a2,a3⟩,a4⟩:=h1
 obtain⟨⟨t2,b1,b2,b3⟩,b4⟩:=h2
 constructor
 ·obtain⟨s,c1,c2,c3⟩:=Jb p L t1 t2 a1 b1
  exact⟨s,c1,q4j p hs s (fun x hx y hy=>h x (c1.subset hx) y (c1.subset hy)) (by rw[c2];exact a2) (by rw[c3];exact b2),by rw[q3o p,c2,c3,a3,b3]⟩
 ·intro s hsub hp
  rw[q3o p]
  have:=a4 _ (hsub.filter p) (hp.filter p)
  have:=b4 _ (hsub.filter fun x => !p x) (hp.filter _)
  omega
end
theorem q5Q {A:Type} {ap:A→A→Prop} {c:A→Int} (hs:∀x y,ap x y→ap y x) (f:A→Nat):∀(rs:List Nat) (vs:List Int) (L:List A),rs.Nodup→(∀x∈L,f x∈rs)→(∀x∈L,∀y∈L,f x≠f y→ap x y)→vs.length=rs.length→
  (∀(k:Nat) (r:Nat) (v:Int),rs[k]?=some r→vs[k]?=some v→q24 ap c (L.filter fun x=>decide (f x=r)) v)→q24 ap c L vs.sum
 | [],vs,L,_,h1,_,hl,_=>by
  have hL:L=[]:=by
   cases L with
   | nil=>rfl
   | cons a L=>exact absurd (h1 a quv) (by simp)
  have hv:vs=[]:=quz hl
  subst hL hv
  exact⟨⟨[],.slnil,.nil,rfl⟩,fun s hs _=>by rw[List.sublist_nil.1 hs];exact Int.le_refl 0⟩
 | r::rs,[],L,_,_,_,hl,_=>by simp at hl
 | r::rs,v::vs,L,hn,h1,h2,hl,h3=>by
  obtain⟨n1,n2⟩:=List.nodup_cons.1 hn
  rw[List.sum_cons]
  refine q9k (fun x=>decide (f x=r)) hs (fun x hx y hy hpx hpy=>h2 x hx y hy fun he=>?_) (h3 0 r v rfl rfl) (q5Q hs f rs vs _ n2 (fun x hx=>?_) (fun x hx y hy=>?_) (by simpa using hl) fun k r' v' hk hv=>?_)
  ·have:=of_decide_eq_true hpx
   have:=of_decide_eq_false hpy
   omega
  ·obtain⟨hx1,hx2⟩:=qvb.1 hx
   rcases quC.1 (h1 x hx1) with h|h
   ·simp[h] at hx2
   ·exact h
  ·exact h2 x (qvb.1 hx).1 y (qvb.1 hy).1
  ·have:=h3 (k+1) r' v' (by simpa using hk) (by simpa using hv)
   have hne:r'≠r:=fun h=>n1 (h ▸ qug hk)
   have e:(L.filter fun x => !decide (f x=r)).filter (fun x=>decide (f x=r'))=L.filter fun x=>decide (f x=r'):=by
    rw[List.filter_filter]
    refine List.filter_congr fun x _=>?_
    by_cases h:f x=r'
    ·simp[h,hne]
    ·simp[h]
   rw[e];exact this
theorem qb8 {A:Type} {ap:A→A→Prop} {c:A→Int} (hs:∀x y,ap x y→ap y x) (l:List A) (d:A) (f:Nat→Nat) (h1:∀k,k<l.length→f k<l.length∧f (f k)=f k) (h2:∀i k,i<l.length→k<l.length→f i≠f k→ap (l.getD i d) (l.getD k d)) {vs:List Int}
  (hl:vs.length=(q6l l.length f).length) (h3:∀(k:Nat) (g:List Nat) (v:Int),(q6l l.length f)[k]?=some g→vs[k]?=some v→q24 ap c (g.map fun i=>l.getD i d) v):q24 ap c l vs.sum:=by
 have hm:(List.range l.length).map (fun i=>l.getD i d)=l:=by
  apply List.ext_getElem
  ·simp
  ·intro i h1 h2;simp[List.getD,h2]
 rw[←hm,q8h]
 refine q5Q (fun x y=>hs _ _) f ((List.range l.length).filter fun k=>decide (f k=k)) vs _ (List.nodup_range.filter _) (fun x hx=>?_) (fun x hx y hy hne=>h2 x y (qvc.1 hx) (qvc.1 hy) hne) (by rw[hl];unfold q6l;rw[quY]) fun k r v hr hv=>?_
 ·obtain⟨a1,a2⟩:=h1 x (qvc.1 hx)
  exact qvb.2 ⟨qvc.2 a1,qvg a2⟩
 ·have:=h3 k _ v (by unfold q6l;rw[quu,hr];rfl) hv
  exact(q8h (fun i=>l.getD i d)).1 this
end
noncomputable section
open Go.RowKit
set_option maxRecDepth 20000
set_option maxHeartbeats 8000000
theorem lo5:okL 5 q8O:=qM (qi bd5) (by kernel_rfl) (by kernel_rfl)
def cx5:=JA_ @q8O.eq_1 (JA_ @Try.f5.eq_1 @bd5)
theorem qqg:lbO 5 8=qgr:=Q0 (qi bd5) rfl
theorem qp7:okL 5 qgr:=zo lo5 (qug (i:=0) (by kernel_rfl))
theorem qne:lbO 5 18=qcY:=Q0 (qi bd5) rfl
theorem qnp:okL 5 qcY:=zo lo5 (qug (i:=1) (by kernel_rfl))
theorem qmT:lbO 5 22=qaw:=Q0 (qi bd5) rfl
theorem qm8:okL 5 qaw:=zo lo5 (qug (i:=2) (by kernel_rfl))
def qQ (t1:Int) (t5:Bool) (t6:List qa) (t9:Int) (t38:List qa) (t39:Int):(List qa×Int)→Option ((List qa×Int)⊕(List qa))|(w0,t40)=>if t40<t39 then if 0≤t40∧t40<((t38.length:Nat):Int) then Option.bind t38[Int.toNat t40]? fun(a:qa)=>if 0≤t40 then if(q0O Go.BinOp.and IntKind.u8 (Int.fdiv t1 (2 ^ min (Int.toNat t40) (IntKind.bits IntKind.u8))) 1==1)=Bool.true then if w0.length+1≤maxLen∧(w0.length+1)*104≤140737488355328 then some (Sum.inl (w0++[a],w64 (t40+1))) else none else some (Sum.inl (w0,w64 (t40+1))) else none else none else some (Sum.inr w0)
theorem JF:∀(w0:List qa) (t1:Int) (t5:Bool) (t6:List qa) (t9:Int) (t38:List qa) (t39 t40:Int) (w0_len:Nat),w0_len=w0.length→XL2 evo 5 0 8 ⟨[(1,R.c (C.d (D.int .u8 t1))),(5,rB t5),(6,rL 8 qc t6),(9,rI t9),(11,rO 0 8 w0_len),(38,rL 8 qc t38),(39,rI t39),(40,rI t40)],[(0,bR 52 8 qc w0)],1,129⟩=(qG (qQ t1 t5 t6 t9 t38 t39) (w0,t40)).bind (fun(e:List qa)=>some (Exit.exit 0,⟨[(5,rB t5),(6,rL 8 qc t6),(9,rI t9),(11,rO 0 8 e.length)],[(0,bR 52 8 qc e)],1,129⟩)):=
 by
 intro w0 t1 t5 t6 t9 t38 t39 t40 w0_len h0
 subst h0
 revert t40;revert w0;exact q9h qqg qp7 (fun e=>by exact⟨_,rfl,fun h=>by cases h⟩) fun w0 t40=>by
  have:=cx5;have:=@qgr.eq_1;have:=@qQ.eq_1;exact gA
theorem ZE:∀  (t1:Int) (t5:Bool) (t6:List qa) (t9:Int) (t38:List qa) (t39 t40:Int),XL2 evo 5 0 8 ⟨[(1,R.c (C.d (D.int .u8 t1))),(5,rB t5),(6,rL 8 qc t6),(9,rI t9),(11,rO 0 8 0),(38,rL 8 qc t38),(39,rI t39),(40,rI t40)],[(0,B.row 52 8 [])],1,129⟩=(qG (qQ t1 t5 t6 t9 t38 t39) (([]:List qa),t40)).bind (fun(e:List qa)=>some (Exit.exit 0,⟨[(5,rB t5),(6,rL 8 qc t6),(9,rI t9),(11,rO 0 8 e.length)],[(0,bR 52 8 qc e)],1,129⟩)):=by
 intro t1 t5 t6 t9 t38 t39 t40;have h:=JF ([]:List qa) t1 t5 t6 t9 t38 t39 t40 _ rfl
 first
  | exact h
  | (simp only[rL,dL,bR,bZ,Nat.reduceAdd] at h;exact h)
def qJ (t5:Bool) (t6:List qa) (t9:Int) (t16:Int) (t84:List (List Int)) (t85:Int) (t86:Int) (t90:List Int) (t91:Int):(List qa×Int)→Option ((List qa×Int)⊕((List qa)⊕(List qa)))|(w0,t92)=>if t92<t91 then if 0≤t92∧t92<((t90.length:Nat):Int) then Option.bind t90[Int.toNat t92]? fun(a:Int)=>if a<0 then some (Sum.inr (Sum.inl w0)) else if((t6.length:Nat):Int)≤a then some (Sum.inr (Sum.inl w0)) else if 0≤a∧a<((t6.length:Nat):Int) then Option.bind t6[Int.toNat a]? fun(a2:qa)=>if w0.length+1≤maxLen∧(w0.length+1)*104≤140737488355328 then some (Sum.inl (w0++[a2],w64 (t92+1))) else none else none else none else some (Sum.inr (Sum.inr w0))
theorem Jk:∀(w0:List qa) (t5:Bool) (t6:List qa) (t9 t16:Int) (t84:List (List Int)) (t85 t86:Int) (t90:List Int) (t91 t92:Int) (w0_len:Nat),w0_len=w0.length→XL2 evo 5 0 22 ⟨[(5,rB t5),(6,rL 8 qc t6),(9,rI t9),(16,rI t16),(19,rO 0 8 w0_len),(84,rL 1 (eL 1 eI) t84),(85,rI t85),(86,rI t86),(90,rL 1 eI t90),(91,rI t91),(92,rI t92)],[(0,bR 52 8 qc w0)],1,129⟩=(qG (qJ t5 t6 t9 t16 t84 t85 t86 t90 t91) (w0,t92)).bind (Sum.elim (fun(e:List qa)=>some (Exit.ret,⟨[(4,rB Bool.false),(5,rB t5),(6,rL 8 qc t6),(9,rI t9),(16,rI t16),(19,rO 0 8 e.length),(84,rL 1 (eL 1 eI) t84),(85,rI t85),(86,rI t86)],[(0,bR 52 8 qc e)],1,129⟩)) (fun(e:List qa)=>some (Exit.exit 4,⟨[(4,R.any),(5,rB t5),(6,rL 8 qc t6),(9,rI t9),(16,rI t16),(19,rO 0 8 e.length),(84,rL 1 (eL 1 eI) t84),(85,rI t85),(86,rI t86)],[(0,bR 52 8 qc e)],1,129⟩))):=
 by
 intro w0 t5 t6 t9 t16 t84 t85 t86 t90 t91 t92 w0_len h0
 subst h0
 revert t92;revert w0;exact q9h qmT qm8 (fun e=>by rcases e with _|_<;>exact⟨_,rfl,fun h=>by cases h⟩) fun w0 t92=>by
  have:=cx5;have:=@qaw.eq_1;have:=@qJ.eq_1;exact gA
theorem Zs:∀  (t5:Bool) (t6:List qa) (t9 t16:Int) (t84:List (List Int)) (t85 t86:Int) (t90:List Int) (t91 t92:Int),XL2 evo 5 0 22 ⟨[(5,rB t5),(6,rL 8 qc t6),(9,rI t9),(16,rI t16),(19,rO 0 8 0),(84,rL 1 (eL 1 eI) t84),(85,rI t85),(86,rI t86),(90,rL 1 eI t90),(91,rI t91),(92,rI t92)],[(0,B.row 52 8 [])],1,129⟩=(qG (qJ t5 t6 t9 t16 t84 t85 t86 t90 t91) (([]:List qa),t92)).bind (Sum.elim (fun(e:List qa)=>some (Exit.ret,⟨[(4,rB Bool.false),(5,rB t5),(6,rL 8 qc t6),(9,rI t9),(16,rI t16),(19,rO 0 8 e.length),(84,rL 1 (eL 1 eI) t84),(85,rI t85),(86,rI t86)],[(0,bR 52 8 qc e)],1,129⟩)) (fun(e:List qa)=>some (Exit.exit 4,⟨[(4,R.any),(5,rB t5),(6,rL 8 qc t6),(9,rI t9),(16,rI t16),(19,rO 0 8 e.length),(84,rL 1 (eL 1 eI) t84),(85,rI t85),(86,rI t86)],[(0,bR 52 8 qc e)],1,129⟩))):=by
 intro t5 t6 t9 t16 t84 t85 t86 t90 t91 t92;have h:=Jk ([]:List qa) t5 t6 t9 t16 t84 t85 t86 t90 t91 t92 _ rfl
 first
  | exact h
  | (simp only[rL,dL,bR,bZ,Nat.reduceAdd] at h;exact h)
def qI (t5:Bool) (t6:List qa) (t9:Int) (t84:List (List Int)) (t85:Int):(Int×Int)→Option ((Int×Int)⊕(Int⊕Int))|(t16,t86)=>if t86<t85 then if 0≤t86∧t86<((t84.length:Nat):Int) then Option.bind t84[Int.toNat t86]? fun(a:List Int)=>Option.bind (qG (qJ t5 t6 t9 t16 t84 t85 t86 a ((a.length:Nat):Int)) ([],0)) fun(a2:Sum (List qa) (List qa))=>Sum.elim (fun(a3:List qa)=>some (Sum.inr (Sum.inl t16))) (fun(a4:List qa)=>Option.bind (zO a4) fun(a5:Prod Int Int)=>if(a5.2 != 0)=Bool.true then some (Sum.inr (Sum.inl t16)) else some (Sum.inl (w64 (t16+a5.1),w64 (t86+1)))) a2 else none else some (Sum.inr (Sum.inr t16))
theorem Jd:∀(t5:Bool) (t6:List qa) (t9 t16:Int) (t84:List (List Int)) (t85 t86:Int),XL2 evo 5 0 18 ⟨[(5,rB t5),(6,rL 8 qc t6),(9,rI t9),(16,rI t16),(84,rL 1 (eL 1 eI) t84),(85,rI t85),(86,rI t86)],[],0,129⟩=(qG (qI t5 t6 t9 t84 t85) (t16,t86)).bind (Sum.elim (fun(e:Int)=>some (Exit.ret,⟨[(4,rB Bool.false),(5,rB t5),(9,rI t9),(16,rI e)],[],0,129⟩)) (fun(e:Int)=>some (Exit.exit 2,⟨[(4,R.any),(5,rB t5),(9,rI t9),(16,rI e)],[],0,129⟩))):=
 fun t5 t6 t9 t16 t84 t85 t86=>by
  revert t86;revert t16;exact q9h qne qnp (fun e=>by rcases e with _|_<;>exact⟨_,rfl,fun h=>by cases h⟩) fun t16 t86=>by
   have:=cx5;have:=@qcY.eq_1;have:=@Zs;have:=@Zx;have:=@qI.eq_1;exact gA
def Qd (x0:Qe) (x1:Int):Option Bool:=Option.bind QH fun(a:Bool)=>Option.bind (zS x0) fun(a2:Prod (List qa) (Prod qf Int))=>Option.bind (zO a2.1) fun(a3:Prod Int Int)=>if(a3.2 != 0)=Bool.true then some Bool.false else Option.bind (qG (qQ x1 a a2.1 a3.1 a2.1 ((a2.1.length:Nat):Int)) ([],0)) fun(a4:List qa)=>Option.bind (zO a4) fun(a5:Prod Int Int)=>if(a5.2 != 0)=Bool.true then some Bool.false else Option.bind (QK a4) fun(a6:Bool)=>if a6=Bool.true then Option.bind (Q3 a4) fun(a7:Int)=>if a3.1<a7 then some Bool.false else Option.bind (Q3 a4) fun(a8:Int)=>if a5.1<a8 then some Bool.false else if a3.1<a5.1 then some Bool.false else Option.bind (zl a2.1) fun(a9:List (List Int))=>Option.bind (qG (qI a a2.1 a3.1 a9 ((a9.length:Nat):Int)) (0,0)) fun(a10:Sum Int Int)=>Sum.elim (fun(a11:Int)=>some Bool.false) (fun(a12:Int)=>if a=Bool.true then some (a12==a3.1) else some Bool.false) a10 else if a3.1<a5.1 then some Bool.false else Option.bind (zl a2.1) fun(a13:List (List Int))=>Option.bind (qG (qI a a2.1 a3.1 a13 ((a13.length:Nat):Int)) (0,0)) fun(a14:Sum Int Int)=>Sum.elim (fun(a15:Int)=>some Bool.false) (fun(a16:Int)=>if a=Bool.true then some (a16==a3.1) else some Bool.false) a14
theorem q0K:∀(x0_Has:List (List Int)) (x0_Odd_0_0 x0_Odd_0_1 x0_Odd_0_2 x0_Odd_1_0 x0_Odd_1_1 x0_Odd_1_2:Int) (x0_Programme:List Int) (x0_Day x1:Int),ev 5 0 [R.agg [dL 1 (eL 1 eI) x0_Has,dI x0_Odd_0_0,dI x0_Odd_0_1,dI x0_Odd_0_2,dI x0_Odd_1_0,dI x0_Odd_1_1,dI x0_Odd_1_2,dL 1 eI x0_Programme,C.d (D.int .u16 x0_Day)],R.c (C.d (D.int .u8 x1))] []=(Qd (Qe.mk x0_Has (QF.mk (qfI.mk x0_Odd_0_0 x0_Odd_0_1 x0_Odd_0_2) (qfI.mk x0_Odd_1_0 x0_Odd_1_1 x0_Odd_1_2)) x0_Programme x0_Day) x1).bind (fun(e:Bool)=>some (rB e,[])):=
 fun x0_Has x0_Odd_0_0 x0_Odd_0_1 x0_Odd_0_2 x0_Odd_1_0 x0_Odd_1_1 x0_Odd_1_2 x0_Programme x0_Day x1=>by
  rw[qL bd5 pw5.2.2.2 lo5]
  have:=cx5;have:=@q1N;have:=@q0G;have:=@Zx;have:=@ZE;have:=@q0N;have:=@Jl;have:=@J8;have:=@Jd;have:=@Qd.eq_1;exact gA
end

noncomputable section
open Go.RowKit
def qjh (s:List qa):Prop:=∀a∈s,0≤a.Credits∧a.Credits≤40
theorem q8i:∀(s:List qa) (n:Int),qjh s→0≤n→n+40*s.length≤1000000→s.foldl (fun n a=>w64 (n+a.Credits)) n=n+(s.map fun a=>a.Credits).sum∧0≤(s.map fun a=>a.Credits).sum∧(s.map fun a=>a.Credits).sum≤40*s.length
 | [],n,_,_,_=>by simp
 | a::s,n,h,h0,h1=>by
  have ha:=h a quv
  simp only[qur] at h1
  have hw:w64 (n+a.Credits)=n+a.Credits:=Q9 (by omega) (by omega)
  obtain⟨q1,q2,q3⟩:=q8i s (n+a.Credits) (fun b hb=>h b (qun _ hb)) (by omega) (by omega)
  rw[qvi,hw,q1,quD,List.sum_cons,qur]
  omega
theorem q7V {s:List qa} (h:qjh s) (hl:s.length≤1000):q2I s=(s.map fun a=>a.Credits).sum∧0≤q2I s∧q2I s≤40*s.length:=by
 obtain⟨q1,q2,q3⟩:=q8i s 0 h (by omega) (by omega)
 have:q2I s=(s.map fun a=>a.Credits).sum:=by unfold q2I;rw[q1];omega
 rw[this];exact⟨rfl,q2,q3⟩
abbrev apP (a b:qa):Prop:=QO a b=true
theorem q7H {l:List qa} {v:Int} (hc:qjh l) (hl:l.length≤1000) (h:q5W Z2 q2I l v):q24 apP (fun a=>a.Credits) l v:=by
 have hs:∀s:List qa,s.Sublist l→q2I s=(s.map fun a=>a.Credits).sum:=fun s hs=>(q7V (fun a ha=>hc a (hs.subset ha)) (quR hs.length_le hl)).1
 obtain⟨⟨s,h1,h2,h3⟩,h4⟩:=h
 exact⟨⟨s,h1,(q0d s).1 h2,by rw[←hs s h1];exact h3⟩,fun t ht hp=>by rw[←hs t ht];exact h4 t ht ((q0d t).2 hp)⟩
theorem q9J {l:List qa} {v w:Int} (h1:q24 apP (fun a=>a.Credits) l v) (h2:q24 apP (fun a=>a.Credits) l w):v=w:=by
 obtain⟨⟨s,a1,a2,a3⟩,a4⟩:=h1
 obtain⟨⟨t,b1,b2,b3⟩,b4⟩:=h2
 exact Int.le_antisymm (by rw[←a3];exact b4 s a1 a2) (by rw[←b3];exact a4 t b1 b2)
theorem q9C {l:List qa} (hc:qjh l) (hl:l.length≤1000):0≤dfs Z2 q2I l [] 0∧dfs Z2 q2I l [] 0≤40*l.length:=by
 obtain⟨⟨s,h1,h2,h3⟩,-⟩:=q7J l
 obtain⟨-,q1,q2⟩:=q7V (s:=s) (fun a ha=>hc a (h1.subset ha)) (quR h1.length_le hl)
 rw[←h3]
 have:=h1.length_le
 omega
theorem qaR (t1:Int) (t5:Bool) (t6:List qa) (t9:Int) (l:List qa) (hl:l.length≤100):∀(r p:List qa) (k:Nat),r.length+k=l.length→l.drop k=r→p.length≤k→∃t,t.Sublist r∧qG (qQ t1 t5 t6 t9 l ((l.length:Nat):Int)) (p,(k:Int))=some (p++t):=by
 have hML:100000≤maxLen:=by unfold maxLen;omega
 intro r
 induction r with
 | nil=>
  intro p k hk hd hp
  have hk:k=l.length:=by simpa using hk
  refine⟨[],.slnil,(zn (e:=p) ?_).trans (by rw[quB])⟩
  unfold qQ
  dsimp only
  rw[if_neg (by omega)]
 | cons a r ih=>
  intro p k hk hd hp
  simp only[qur] at hk
  have ha:l[k]?=some a:=by have:=congrArg (fun x:List qa=>x[0]?) hd;simpa [List.getElem?_drop] using this
  have hd1:l.drop (k+1)=r:=by rw[←qv3,hd];rfl
  have hklt:=Qq ha
  obtain⟨q,hq⟩:∃q,q=(q0O Go.BinOp.and IntKind.u8 (Int.fdiv t1 ((2:Int) ^ min k (IntKind.bits IntKind.u8))) 1==1):=⟨_,rfl⟩
  have e:qQ t1 t5 t6 t9 l ((l.length:Nat):Int) (p,(k:Int))=some (.inl (if q=true then p++[a] else p,((k+1:Nat):Int))):=by
   unfold qQ
   dsimp only
   rw[if_pos (by omega),if_pos ⟨by omega,by omega⟩,qui,ha,quf,if_pos (by omega),←hq,Qx hklt (by omega)]
   cases q
   ·rfl
   ·rw[if_pos rfl,if_pos ⟨by omega,by omega⟩,if_pos rfl]
  rw[Qa e]
  cases q
  ·obtain⟨t,h1,h2⟩:=ih p (k+1) (by omega) hd1 (by omega)
   exact⟨t,h1.cons a,h2⟩
  ·obtain⟨t,h1,h2⟩:=ih (p++[a]) (k+1) (by omega) hd1 (by simp;omega)
   exact⟨a::t,h1.cons_cons a,by rw[if_pos rfl,h2,quV];rfl⟩
def dA:qa:=exO [] 0 0 0 [] 0
theorem qad (t5:Bool) (l:List qa) (hl:l.length≤100) (t9 t16:Int) (t84:List (List Int)) (t85 t86:Int) (g:List Nat) (hg:g.length≤1000) (hb:∀k∈g,k<l.length) :
  qG (qJ t5 l t9 t16 t84 t85 t86 (Q4 g) (((Q4 g).length:Nat):Int)) ([],(0:Int))=some (.inr (g.map fun k=>l.getD k dA)):=by
 have hML:100000≤maxLen:=by unfold maxLen;omega
 have:=Jx (step:=qJ t5 l t9 t16 t84 t85 t86 (Q4 g) (((Q4 g).length:Nat):Int)) (fun i=>((g.take i).map fun k=>l.getD k dA,(i:Int))) 0 g.length (quG _) (fun i _ hi=>by
  have hgi:g[i]?=some g[i]:=quh hi
  have hc:(Q4 g)[i]?=some ((g[i]:Nat):Int):=by unfold Q4;rw[quu,hgi];rfl
  have hk:=hb _ (qv7 hi)
  have hla:l[g[i]]?=some (l.getD g[i] dA):=by rw[List.getD_eq_getElem?_getD,quh hk];rfl
  unfold qJ
  dsimp only
  rw[QX,if_pos (by omega),if_pos ⟨by omega,by omega⟩,qui,hc,quf,if_neg (by omega),if_neg (by omega),if_pos ⟨by omega,by omega⟩,qui,hla,quf,quY,quJ,if_pos ⟨by omega,by omega⟩,Qx hi (by omega),List.take_add_one,hgi,List.map_append]
  rfl) (e := .inr (g.map fun k=>l.getD k dA)) (by
  unfold qJ
  dsimp only
  rw[QX,if_neg (by omega),List.take_length])
 exact this
theorem q3W (c:Qe) (x1:Int) (hq:∀q∈c.Has,q.length≤9223372036854775807) (ht:c.Has.length≤9223372036854775807) (hp:c.Programme.length≤9223372036854775807):Qd c x1=some true:=by
 obtain⟨l,p,d,e,l8,hs⟩:=qai c hq ht hp
 have hf:∀a∈l,zP a:=fun a ha=>(hs a ha).fit (by omega)
 have hcr:qjh l:=fun a ha=>(hs a ha).crd
 obtain⟨v,hv⟩:∃v,v=dfs Z2 q2I l [] 0:=⟨_,rfl⟩
 have hm:q5W Z2 q2I l v:=by rw[hv];exact q7J l
 obtain⟨t,h1,h2⟩:=qaR x1 true l v l (by omega) l [] 0 (by omega) rfl (quw _)
 rw[quA] at h2
 have htl:=h1.length_le
 have htf:∀a∈t,zP a:=fun a ha=>hf a (h1.subset ha)
 obtain⟨v2,hv2⟩:∃v2,v2=dfs Z2 q2I t [] 0:=⟨_,rfl⟩
 have hm2:q5W Z2 q2I t v2:=by rw[hv2];exact q7J t
 have hle:v2≤v:=by
  obtain⟨⟨s,a1,a2,a3⟩,-⟩:=hm2
  rw[←a3];exact hm.2 s (a1.trans h1) a2
 -- the groups
 obtain⟨G,hG⟩:∃G,G=q6l l.length (lwF l):=⟨_,rfl⟩
 have hgb:∀g∈G,g.length≤8∧∀k∈g,k<l.length:=fun g hg=>by
  rw[hG] at hg
  unfold q6l at hg
  obtain⟨r,-,rfl⟩:=qv0.1 hg
  exact⟨quR (List.length_filter_le _ _) (by rw[List.length_range];exact l8),fun k hk=>qvc.1 (qvb.1 hk).1⟩
 have hGl:G.length≤8:=by
  rw[hG];unfold q6l;rw[quY]
  exact quR (List.length_filter_le _ _) (by rw[List.length_range];exact l8)
 obtain⟨vs,hvs⟩:∃vs:List Int,vs=G.map fun g=>dfs Z2 q2I (g.map fun k=>l.getD k dA) [] 0:=⟨_,rfl⟩
 have hxm:∀g∈G,∀a∈g.map (fun k=>l.getD k dA),a∈l:=fun g hg a ha=>by
  obtain⟨k,hk,rfl⟩:=qv0.1 ha
  have:=(hgb g hg).2 k hk
  rw[List.getD_eq_getElem?_getD,quh this]
  exact qv7 this
 have hxb:∀g∈G,qjh (g.map fun k=>l.getD k dA):=fun g hg a ha=>hcr a (hxm g hg a ha)
 have hsum:q24 apP (fun a=>a.Credits) l vs.sum:=by
  refine qb8 (ap:=apP) (c:=fun a=>a.Credits) (fun x y h=>by show QO y x=true;rw[q2Y];exact h) l dA (lwF l) (fun k hk=>⟨qg1 l hk,q8G l hk⟩) (fun i k hi hk hne=>?_) (by rw[hvs,quY,hG]) (fun k g w hk hw=>?_)
  ·have ha:l[i]?=some l[i]:=quh hi
   have hb:l[k]?=some l[k]:=quh hk
   rw[List.getD_eq_getElem?_getD,List.getD_eq_getElem?_getD,ha,hb]
   show QO l[i] l[k]=true
   cases hq:QO l[i] l[k]
   ·exact absurd (q8Q l (by rw[qeb ha hb,hq];rfl)) hne
   ·rfl
  ·rw[←hG] at hk
   have hgm:=qug hk
   rw[hvs,quu,hk] at hw
   injection hw with hw
   rw[←hw]
   exact q7H (hxb g hgm) (by rw[quY];have:=(hgb g hgm).1;omega) (q7J _)
 have hvsum:vs.sum=v:=q9J hsum (q7H hcr (by omega) hm)
 have hvb:∀w∈vs,0≤w∧w≤320:=fun w hw=>by
  rw[hvs] at hw
  obtain⟨g,hg,rfl⟩:=qv0.1 hw
  have h1:=q9C (hxb g hg) (by rw[quY];have:=(hgb g hg).1;omega)
  rw[quY] at h1
  have:=(hgb g hg).1
  omega
 have hpart:∀k,k≤vs.length→0≤(vs.take k).sum∧(vs.take k).sum≤320*k:=by
  intro k
  induction k with
  | zero=>intro _;simp
  | succ k ih=>
   intro hk
   have hx:vs[k]?=some vs[k]:=quh (by omega)
   have hb:=hvb _ (qv7 (by omega:k<vs.length))
   have:=ih (by omega)
   rw[List.take_add_one,hx,List.sum_append]
   simp only[Option.toList_some,List.sum_cons,List.sum_nil]
   omega
 have hvl:vs.length=G.length:=by rw[hvs,quY]
 have hloop:qG (qI true l v (G.map Q4) (((G.map Q4).length:Nat):Int)) ((0:Int),(0:Int))=some (.inr v):=by
  have:=Jx (step:=qI true l v (G.map Q4) (((G.map Q4).length:Nat):Int)) (fun k=>((vs.take k).sum,(k:Int))) 0 G.length (quG _) (fun k _ hk=>by
   have hg:G[k]?=some G[k]:=quh hk
   have hgm:=qv7 hk
   have hc:(G.map Q4)[k]?=some (Q4 G[k]):=by rw[quu,hg];rfl
   have hvk:vs[k]?=some (dfs Z2 q2I (G[k].map fun k=>l.getD k dA) [] 0):=by rw[hvs,quu,hg];rfl
   have hbk:=hvb _ (qug hvk)
   have hpk:=hpart k (by omega)
   unfold qI
   dsimp only
   rw[quY,if_pos (by omega),if_pos ⟨by omega,by omega⟩,qui,hc,quf,qad true l (by omega) _ _ _ _ _ _ (by have:=(hgb _ hgm).1;omega) (hgb _ hgm).2,quf,Sum.elim_inr,q51 _ (by rw[quY];have:=(hgb _ hgm).1;omega) (fun a ha=>hf a (hxm _ hgm a ha)),quf]
   dsimp only
   rw[if_neg (by decide),Qx hk (by omega),Q9 (by omega) (by omega),List.take_add_one,hvk,List.sum_append]
   simp only[Option.toList_some,List.sum_cons,List.sum_nil,Int.add_zero]) (e := .inr v) (by
   unfold qI
   dsimp only
   rw[quY,if_neg (by omega),←hvl,List.take_length,hvsum])
  exact this
 have hgr:zl l=some (G.map Q4):=by rw[q5O l (by omega) hf,hG]
 unfold Qd
 rw[q6R,quf,e,quf]
 dsimp only
 rw[q51 l (by omega) hf,←hv,quf]
 dsimp only
 rw[if_neg (by decide)]
 change Option.bind (qG _ ([],((0:Nat):Int))) _=_
 rw[h2,quf,q51 t (by omega) htf,←hv2,quf]
 dsimp only
 rw[if_neg (by decide),qb6 t (by omega) htf,quf,q1I t (by omega),quf,hgr]
 cases hfr:Z2 t
 ·rw[if_neg (by decide),if_neg (by omega),quf,hloop,quf,Sum.elim_inr,if_pos rfl];simp
 ·have c1:=hm.2 t h1 hfr
  have c2:=hm2.2 t (List.Sublist.refl t) hfr
  rw[if_pos rfl,if_neg (by omega),quf,if_neg (by omega),if_neg (by omega),quf,hloop,quf,Sum.elim_inr,if_pos rfl];simp
end
noncomputable section
open Go.RowKit
set_option maxRecDepth 100000
theorem q1w {α:Type} (ds:List α) (o s:Nat):ds.drop o=(ds.drop o).take s++ds.drop (o+s):=by
 rw[←qv3];exact(qv4 s _).symm
theorem q7f {X:Type} {E:X→List D} {W:X→Prop} {sz:Nat} (hz:0<sz):∀(m:Nat) (es:List D),es.length=m*sz→(∀i,i<m→∃x,(es.drop (i*sz)).take sz=E x∧W x)→∃l:List X,es=l.flatMap E∧l.length=m∧∀x∈l,W x
 | 0,es,hl,_=>⟨[],by rw[Nat.zero_mul] at hl;exact quz hl,rfl,by simp⟩
 | m+1,es,hl,h=>by
  obtain⟨x,hx,wx⟩:=h 0 (by omega)
  obtain⟨l,g1,g2,g3⟩:=q7f hz m (es.drop sz) (by rw[qv2,hl,Nat.add_mul];omega) fun i hi=>by
   obtain⟨y,hy,wy⟩:=h (i+1) (by omega)
   refine⟨y,?_,wy⟩
   rw[qv3,show sz+i*sz=(i+1)*sz by rw[Nat.add_mul,Nat.one_mul,Nat.add_comm]];exact hy
  refine⟨x::l,?_,by simp[g2],fun y hy=>?_⟩
  ·rw[Nat.zero_mul,List.drop_zero] at hx
   rw[qvj,←g1,←hx,qv4]
  ·rcases quC.1 hy with rfl|hy
   ·exact wx
   ·exact g3 y hy
abbrev qoQ:List TypeId:=[28,22,25,3,24,23,26,5,30]
theorem qge:qqO Try.prog qoQ=true:=by kernel_rfl
theorem ty3:∀(n:Nat) (ds:List D),Qy Try.prog n 3 ds→∃v:Int,ds=[D.int .i64 v]∧(Lit.int .i64 v).wf=true:=by
 intro n ds h
 cases n with
 | zero=>exact h.elim
 | succ n=>
  unfold Qy at h
  rw[Try.underlying3] at h
  obtain⟨z,h1,h2⟩:=h
  exact⟨z,h1,h2⟩
theorem cz3:Try.prog.cellsOf 3=1:=by kernel_rfl
theorem qqM:∀(n:Nat) (ds:List D),Qy Try.prog n 25 ds→∃v:List Int,ds=[D.sl 1 v.length (v.flatMap eI)]∧(v.length≤maxLen∧∀y∈v,(Lit.int .i64 y).wf=true):=by
 intro n ds h
 cases n with
 | zero=>exact h.elim
 | succ n=>
  unfold Qy at h
  rw[Try.underlying25] at h
  obtain⟨m,es,h1,h2,h3,h4⟩:=h
  rw[cz3] at h1 h3 h4
  obtain⟨l,g1,g2,g3⟩:=q7f (E:=eI) (W:=fun y=>(Lit.int .i64 y).wf=true) (sz:=1) (by decide) m es h3 fun i hi=>by
   obtain⟨v,q1,q2⟩:=ty3 n _ (h4 i hi)
   exact⟨v,q1.trans (rfl),q2⟩
  refine⟨l,?_,by omega,g3⟩
  rw[h1,g1,g2]
theorem qrY:Try.prog.cellsOf 25=1:=by kernel_rfl
theorem qss:∀(n:Nat) (ds:List D),Qy Try.prog n 22 ds→∃v:List (List Int),ds=[D.sl 1 v.length (v.flatMap (eL 1 eI))]∧(v.length≤maxLen∧∀y∈v,(y.length≤maxLen∧∀yy∈y,(Lit.int .i64 yy).wf=true)):=by
 intro n ds h
 cases n with
 | zero=>exact h.elim
 | succ n=>
  unfold Qy at h
  rw[Try.underlying22] at h
  obtain⟨m,es,h1,h2,h3,h4⟩:=h
  rw[qrY] at h1 h3 h4
  obtain⟨l,g1,g2,g3⟩:=q7f (E:=(eL 1 eI)) (W:=fun y=>(y.length≤maxLen∧∀yy∈y,(Lit.int .i64 yy).wf=true)) (sz:=1) (by decide) m es h3 fun i hi=>by
   obtain⟨v,q1,q2⟩:=qqM n _ (h4 i hi)
   exact⟨v,q1.trans (rfl),q2⟩
  refine⟨l,?_,by omega,g3⟩
  rw[h1,g1,g2]
theorem qjD:Try.prog.cellsOf 23=3:=by kernel_rfl
theorem qqS:∀(n:Nat) (ds:List D),Qy Try.prog n 23 ds→∃v:qfI Int,ds=[D.int .i64 v.a0,D.int .i64 v.a1,D.int .i64 v.a2]∧((Lit.int .i64 v.a0).wf=true∧(Lit.int .i64 v.a1).wf=true∧(Lit.int .i64 v.a2).wf=true):=by
 intro n ds h
 cases n with
 | zero=>exact h.elim
 | succ n=>
  unfold Qy at h
  rw[Try.underlying23] at h
  obtain⟨hl,hf⟩:=h
  rw[qjD] at hl
  have h0:Qy Try.prog n 3 ((ds.drop 0).take (Try.prog.cellsOf 3)):=by
   have:=hf 0 (by decide)
   rwa [cz3] at this ⊢
  rw[cz3] at h0
  obtain⟨v0,e0,w0⟩:=ty3 _ _ h0
  have c0:=q1w ds 0 1
  rw[e0] at c0
  have h1:Qy Try.prog n 3 ((ds.drop 1).take (Try.prog.cellsOf 3)):=by
   have:=hf 1 (by decide)
   rwa [cz3] at this ⊢
  rw[cz3] at h1
  obtain⟨v1,e1,w1⟩:=ty3 _ _ h1
  have c1:=q1w ds 1 1
  rw[e1] at c1
  have h2:Qy Try.prog n 3 ((ds.drop 2).take (Try.prog.cellsOf 3)):=by
   have:=hf 2 (by decide)
   rwa [cz3] at this ⊢
  rw[cz3] at h2
  obtain⟨v2,e2,w2⟩:=ty3 _ _ h2
  have c2:=q1w ds 2 1
  rw[e2] at c2
  have cl:ds.drop 3=[]:=quW (by omega)
  refine⟨⟨v0,v1,v2⟩,?_,⟨w0,w1,w2⟩⟩
  have c:ds.drop 0=_:=c0
  simp only[Nat.reduceAdd] at c0 c1 c2 c
  rw[c1,c2,cl] at c
  exact c
theorem qrh:Try.prog.cellsOf 24=6:=by kernel_rfl
theorem qtj:∀(n:Nat) (ds:List D),Qy Try.prog n 24 ds→∃v:QF (qfI Int),ds=[D.int .i64 v.a0.a0,D.int .i64 v.a0.a1,D.int .i64 v.a0.a2,D.int .i64 v.a1.a0,D.int .i64 v.a1.a1,D.int .i64 v.a1.a2]∧(((Lit.int .i64 v.a0.a0).wf=true∧(Lit.int .i64 v.a0.a1).wf=true∧(Lit.int .i64 v.a0.a2).wf=true)∧((Lit.int .i64 v.a1.a0).wf=true∧(Lit.int .i64 v.a1.a1).wf=true∧(Lit.int .i64 v.a1.a2).wf=true)):=by
 intro n ds h
 cases n with
 | zero=>exact h.elim
 | succ n=>
  unfold Qy at h
  rw[Try.underlying24] at h
  obtain⟨hl,hf⟩:=h
  rw[qrh] at hl
  have h0:Qy Try.prog n 23 ((ds.drop 0).take (Try.prog.cellsOf 23)):=by
   have:=hf 0 (by decide)
   rwa [qjD] at this ⊢
  rw[qjD] at h0
  obtain⟨v0,e0,w0⟩:=qqS _ _ h0
  have c0:=q1w ds 0 3
  rw[e0] at c0
  have h1:Qy Try.prog n 23 ((ds.drop 3).take (Try.prog.cellsOf 23)):=by
   have:=hf 1 (by decide)
   rwa [qjD] at this ⊢
  rw[qjD] at h1
  obtain⟨v1,e1,w1⟩:=qqS _ _ h1
  have c1:=q1w ds 3 3
  rw[e1] at c1
  have cl:ds.drop 6=[]:=quW (by omega)
  refine⟨⟨v0,v1⟩,?_,⟨w0,w1⟩⟩
  have c:ds.drop 0=_:=c0
  simp only[Nat.reduceAdd] at c0 c1 c
  rw[c1,cl] at c
  exact c
theorem qsG:∀(n:Nat) (ds:List D),Qy Try.prog n 26 ds→∃v:Int,ds=[D.int .u16 v]∧(Lit.int .u16 v).wf=true:=by
 intro n ds h
 cases n with
 | zero=>exact h.elim
 | succ n=>
  unfold Qy at h
  rw[Try.underlying26] at h
  obtain⟨z,h1,h2⟩:=h
  exact⟨z,h1,h2⟩
theorem qsT:Try.prog.cellsOf 22=1:=by kernel_rfl
theorem qse:Try.prog.cellsOf 26=1:=by kernel_rfl
theorem qsQ:Try.prog.cellsOf 28=9:=by kernel_rfl
def q04 (x:Qe):Prop:=(x.Has.length≤maxLen∧∀y∈x.Has,(y.length≤maxLen∧∀yy∈y,(Lit.int .i64 yy).wf=true))∧(((Lit.int .i64 x.Odd.a0.a0).wf=true∧(Lit.int .i64 x.Odd.a0.a1).wf=true∧(Lit.int .i64 x.Odd.a0.a2).wf=true)∧((Lit.int .i64 x.Odd.a1.a0).wf=true∧(Lit.int .i64 x.Odd.a1.a1).wf=true∧(Lit.int .i64 x.Odd.a1.a2).wf=true))∧(x.Programme.length≤maxLen∧∀y∈x.Programme,(Lit.int .i64 y).wf=true)∧(Lit.int .u16 x.Day).wf=true
theorem ty28:∀(n:Nat) (ds:List D),Qy Try.prog n 28 ds→∃v:Qe,ds=[D.sl 1 v.Has.length (v.Has.flatMap (eL 1 eI)),D.int .i64 v.Odd.a0.a0,D.int .i64 v.Odd.a0.a1,D.int .i64 v.Odd.a0.a2,D.int .i64 v.Odd.a1.a0,D.int .i64 v.Odd.a1.a1,D.int .i64 v.Odd.a1.a2,D.sl 1 v.Programme.length (v.Programme.flatMap eI),D.int .u16 v.Day]∧q04 v:=by
 intro n ds h
 cases n with
 | zero=>exact h.elim
 | succ n=>
  unfold Qy at h
  rw[Try.underlying28] at h
  obtain⟨hl,hf⟩:=h
  rw[qsQ] at hl
  have h0:Qy Try.prog n 22 ((ds.drop 0).take (Try.prog.cellsOf 22)):=hf _ (qug (i:=0) rfl)
  rw[qsT] at h0
  obtain⟨v0,e0,w0⟩:=qss _ _ h0
  have c0:=q1w ds 0 1
  rw[e0] at c0
  have h1:Qy Try.prog n 24 ((ds.drop 1).take (Try.prog.cellsOf 24)):=hf _ (qug (i:=1) rfl)
  rw[qrh] at h1
  obtain⟨v1,e1,w1⟩:=qtj _ _ h1
  have c1:=q1w ds 1 6
  rw[e1] at c1
  have h2:Qy Try.prog n 25 ((ds.drop 7).take (Try.prog.cellsOf 25)):=hf _ (qug (i:=2) rfl)
  rw[qrY] at h2
  obtain⟨v2,e2,w2⟩:=qqM _ _ h2
  have c2:=q1w ds 7 1
  rw[e2] at c2
  have h3:Qy Try.prog n 26 ((ds.drop 8).take (Try.prog.cellsOf 26)):=hf _ (qug (i:=3) rfl)
  rw[qse] at h3
  obtain⟨v3,e3,w3⟩:=qsG _ _ h3
  have c3:=q1w ds 8 1
  rw[e3] at c3
  have cl:ds.drop 9=[]:=quW (by omega)
  refine⟨⟨v0,v1,v2,v3⟩,?_,⟨w0,w1,w2,w3⟩⟩
  have c:ds.drop 0=_:=c0
  simp only[Nat.reduceAdd] at c0 c1 c2 c3 c
  rw[c1,c2,c3,cl] at c
  exact c
theorem ty5:∀(n:Nat) (ds:List D),Qy Try.prog n 5 ds→∃v:Int,ds=[D.int .u8 v]∧(Lit.int .u8 v).wf=true:=by
 intro n ds h
 cases n with
 | zero=>exact h.elim
 | succ n=>
  unfold Qy at h
  rw[Try.underlying5] at h
  obtain⟨z,h1,h2⟩:=h
  exact⟨z,h1,h2⟩
end
noncomputable section
open Go.RowKit
theorem qjH {c:Qe} (w:q04 c):(∀q∈c.Has,q.length≤9223372036854775807)∧c.Has.length≤9223372036854775807∧c.Programme.length≤9223372036854775807:=by
 have hm:maxLen≤9223372036854775807:=by unfold maxLen;omega
 obtain⟨⟨h1,h2⟩,-,⟨h3,-⟩,-⟩:=w
 exact⟨fun q hq=>quR (h2 q hq).1 hm,quR h1 hm,quR h3 hm⟩
end
noncomputable section
theorem q65 (c:Qe) (w:q04 c) (x:Int) (_:(Lit.int .u8 x).wf=true):Qd c x=some true:=by
 obtain⟨h1,h2,h3⟩:=qjH w
 exact q3W c x h1 h2 h3
end
end Go.Proofs.Ytofbcijbpfjliaa.Vc
namespace Go.Proofs.Ytofbcijbpfjliaa
open Go.Proofs.Ytofbcijbpfjliaa.Vc (qun qup qus quv quB)
open Go.ChangeShapes Go.WideShapes Go.ChangeAt Go.RowKit Go.ChangeMaps
theorem own:ownKnob Try.prog.godebug=none:=by kernel_rfl
theorem qib:laidOutB Try.prog=true:=by kernel_rfl
section
variable {H:Type} {enc:TypeId×Value→H} {P:Program} {W W':World}
theorem q5U (hl:laidOutB P=true) (hb:Below W.heap.size W W'):∀{ts:List TypeId} {vs:List Value} {ds:List (DataW H)} {ps:List MemPlace},(∀t∈ts,P.readableRec t=true∧t<P.types.size)→
  DataW.TrodAll enc P W 0 (fun _=>true) true ts vs ds ps→(∀p∈ps,p.block<W.heap.size)→DataW.TrodAll enc P W' 0 (fun b=>decide (b<W.heap.size)) true ts vs ds ps
 | [],_,_,_,_,h,_=>by
  obtain⟨rfl,rfl,rfl⟩:=trodAll_nil h
  exact trodAll_mk0
 | t::ts,_,_,_,ht,h,hlt=>by
  obtain⟨v,vs,d,ds,p,q,rfl,rfl,rfl,h1,h2⟩:=trodAll_cons h
  exact trodAll_cons_mk (Below.trod hl (ht t quv).1 (ht t quv).2 h1 hb (fun x hx=>hlt x (qus _ hx)))
   (q5U hl hb (fun u hu=>ht u (qun _ hu)) h2 (fun x hx=>hlt x (qup _ hx)))
theorem qfm {f:Func} {s:ChangeSpec} {apart fresh handsOn:Bool} {args:Array Value} {ds gs:List (DataW H)} {before:List MemPlace} {tb:TypeId} (hl:laidOutB P=true)
  (hts:∀t∈f.params.toList,P.readableRec t=true∧t<P.types.size) (hr:f.resultTypes=#[tb]) (htb:P.underlying tb=some .bool) (hv:s.vars=[])
  (h1:(s.fn H (ds++gs)).results=[.lit (.bool true)]) (h2:(s.fn H (ds++gs)).args=ds) (h3:(s.fn H (ds++gs)).vars=[])
  (hW:DataW.Whole enc P f.params.toList s.vars apart W args.toList ds gs before) (hb:Below W.heap.size W W') :
  s.post enc P f apart fresh handsOn false W args (.bool true) W':=by
 have hlt:∀p∈before,p.block<W.heap.size:=fun p hp=>hW.lt p hp
 have hW2:=hW
 obtain⟨pa,pv,hA,hV,hp,-,-⟩:=hW2
 rw[hv] at hV
 obtain⟨rfl,rfl⟩:=trodVars_none hV
 rw[quB] at hp
 subst hp
 refine⟨ds,[],before,[],before,[],hW,?_,?_,?_,?_,fun h=>by cases h⟩
 ·rw[h1,hr]
  exact trodAll_mk1 (shut_bool htb true)
 ·rw[h2]
  exact q5U hl hb hts hA hlt
 ·rw[h3,hv]
  exact hV
 ·exact World.keptBut_mono (fun p hp=>⟨hp,.inr (.inl hp)⟩) (hb.frame (·∈before))
end
end Go.Proofs.Ytofbcijbpfjliaa
namespace Go.Proofs.Ytofbcijbpfjliaa.Vc
end Go.Proofs.Ytofbcijbpfjliaa.Vc
