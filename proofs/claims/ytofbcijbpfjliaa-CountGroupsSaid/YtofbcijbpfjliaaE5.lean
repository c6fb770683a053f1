/- Part 5 of a proof. -/
import Derived.Test.YtofbcijbpfjliaaE4
import Derived.Test.YtofbcijbpfjliaaRows
import Derived.ChangeSlices
import Derived.OpenShut
import Derived.Carry
import Derived.ChangeSame
import Derived.ChangeMaps5
import Derived.WideShapes
import Derived.ProofKit
import Derived.Deep.DeepHandedRow
import Derived.Lib.LaidTab
import Derived.Stop.LaidErr
set_option linter.unusedVariables false
set_option linter.unusedSimpArgs false
set_option linter.defProp false
set_option linter.unusedSectionVars false
set_option linter.unnecessarySimpa false
namespace Go.Proofs.Ytofbcijbpfjliaa.Vc
noncomputable section
open Go.RowKit
set_option maxRecDepth 20000
set_option maxHeartbeats 8000000
def qk (b0_0:qa) (b0_1:qa) (b0_2:qa) (s:qe):(List qa×Int)→Option ((List qa×Int)⊕(List qa))|(left,k)=>if 0≤k then Option.bind (Q2 left s k) fun(a:Bool)=>if a=Bool.true then Option.bind (qm k (w64 (k+1)) left) fun(a2:List qa)=>some (Sum.inl (a2,w64 (((a2.length:Nat):Int)-1))) else some (Sum.inl (left,w64 (k-1))) else some (Sum.inr left)
theorem qY:∀(left:List qa) (b0_0_Course_School:Int) (b0_0_Course_Code:ByteArray) (b0_0_Credits b0_0_Grade b0_0_Day:Int) (b0_0_Sources:List Int) (b0_0_Bundle:Int) (b0_0_Path:List Int) (b0_1_Course_School:Int) (b0_1_Course_Code:ByteArray) (b0_1_Credits b0_1_Grade b0_1_Day:Int) (b0_1_Sources:List Int) (b0_1_Bundle:Int) (b0_1_Path:List Int) (b0_2_Course_School:Int) (b0_2_Course_Code:ByteArray) (b0_2_Credits b0_2_Grade b0_2_Day:Int) (b0_2_Sources:List Int) (b0_2_Bundle:Int) (b0_2_Path:List Int) (s_Worst s_Best s_Pass k:Int) (left_len:Nat),left_len=left.length→XL2 evo 11 1 9 ⟨[(6,rP 1),(10,rO 2 8 left_len),(13,rI k)],[(0,B.blk 52 [dI b0_0_Course_School,dS b0_0_Course_Code,dI b0_0_Credits,dI b0_0_Grade,dI b0_0_Day,dL 1 eI b0_0_Sources,dI b0_0_Bundle,dL 1 eI b0_0_Path,dI b0_1_Course_School,dS b0_1_Course_Code,dI b0_1_Credits,dI b0_1_Grade,dI b0_1_Day,dL 1 eI b0_1_Sources,dI b0_1_Bundle,dL 1 eI b0_1_Path,dI b0_2_Course_School,dS b0_2_Course_Code,dI b0_2_Credits,dI b0_2_Grade,dI b0_2_Day,dL 1 eI b0_2_Sources,dI b0_2_Bundle,dL 1 eI b0_2_Path]),(1,B.blk 30 [dI s_Worst,dI s_Best,dI s_Pass]),(2,bR 52 8 qc left)],3,53⟩=(qB (qk (qa.mk (qb.mk b0_0_Course_School b0_0_Course_Code) b0_0_Credits b0_0_Grade b0_0_Day b0_0_Sources b0_0_Bundle b0_0_Path) (qa.mk (qb.mk b0_1_Course_School b0_1_Course_Code) b0_1_Credits b0_1_Grade b0_1_Day b0_1_Sources b0_1_Bundle b0_1_Path) (qa.mk (qb.mk b0_2_Course_School b0_2_Course_Code) b0_2_Credits b0_2_Grade b0_2_Day b0_2_Sources b0_2_Bundle b0_2_Path) (qe.mk s_Worst s_Best s_Pass)) (left,k)).bind (fun(e:List qa)=>some (Exit.exit 2,⟨[(10,rO 1 8 e.length)],[(0,B.blk 52 [dI b0_0_Course_School,dS b0_0_Course_Code,dI b0_0_Credits,dI b0_0_Grade,dI b0_0_Day,dL 1 eI b0_0_Sources,dI b0_0_Bundle,dL 1 eI b0_0_Path,dI b0_1_Course_School,dS b0_1_Course_Code,dI b0_1_Credits,dI b0_1_Grade,dI b0_1_Day,dL 1 eI b0_1_Sources,dI b0_1_Bundle,dL 1 eI b0_1_Path,dI b0_2_Course_School,dS b0_2_Course_Code,dI b0_2_Credits,dI b0_2_Grade,dI b0_2_Day,dL 1 eI b0_2_Sources,dI b0_2_Bundle,dL 1 eI b0_2_Path]),(1,bR 52 8 qc e)],2,53⟩)):=
 by
 intro left b0_0_Course_School b0_0_Course_Code b0_0_Credits b0_0_Grade b0_0_Day b0_0_Sources b0_0_Bundle b0_0_Path b0_1_Course_School b0_1_Course_Code b0_1_Credits b0_1_Grade b0_1_Day b0_1_Sources b0_1_Bundle b0_1_Path b0_2_Course_School b0_2_Course_Code b0_2_Credits b0_2_Grade b0_2_Day b0_2_Sources b0_2_Bundle b0_2_Path s_Worst s_Best s_Pass k left_len h0
 subst h0
 revert k;revert left;exact q6A qgc qgn (fun e=>by exact⟨_,rfl,fun h=>by cases h⟩) fun left k=>by
  have:=qo7;have:=@q8a.eq_1;have:=@ZR;have:=@z7;have:=@qk.eq_1;exact gA
theorem ZW:∀  (b0_0_Course_School:Int) (b0_0_Course_Code:ByteArray) (b0_0_Credits b0_0_Grade b0_0_Day:Int) (b0_0_Sources:List Int) (b0_0_Bundle:Int) (b0_0_Path:List Int) (b0_1_Course_School:Int) (b0_1_Course_Code:ByteArray) (b0_1_Credits b0_1_Grade b0_1_Day:Int) (b0_1_Sources:List Int) (b0_1_Bundle:Int) (b0_1_Path:List Int) (b0_2_Course_School:Int) (b0_2_Course_Code:ByteArray) (b0_2_Credits b0_2_Grade b0_2_Day:Int) (b0_2_Sources:List Int) (b0_2_Bundle:Int) (b0_2_Path:List Int) (s_Worst s_Best s_Pass k:Int),XL2 evo 11 1 9 ⟨[(6,rP 1),(10,rO 2 8 0),(13,rI k)],[(0,B.blk 52 [dI b0_0_Course_School,dS b0_0_Course_Code,dI b0_0_Credits,dI b0_0_Grade,dI b0_0_Day,dL 1 eI b0_0_Sources,dI b0_0_Bundle,dL 1 eI b0_0_Path,dI b0_1_Course_School,dS b0_1_Course_Code,dI b0_1_Credits,dI b0_1_Grade,dI b0_1_Day,dL 1 eI b0_1_Sources,dI b0_1_Bundle,dL 1 eI b0_1_Path,dI b0_2_Course_School,dS b0_2_Course_Code,dI b0_2_Credits,dI b0_2_Grade,dI b0_2_Day,dL 1 eI b0_2_Sources,dI b0_2_Bundle,dL 1 eI b0_2_Path]),(1,B.blk 30 [dI s_Worst,dI s_Best,dI s_Pass]),(2,B.row 52 8 [])],3,53⟩=(qB (qk (qa.mk (qb.mk b0_0_Course_School b0_0_Course_Code) b0_0_Credits b0_0_Grade b0_0_Day b0_0_Sources b0_0_Bundle b0_0_Path) (qa.mk (qb.mk b0_1_Course_School b0_1_Course_Code) b0_1_Credits b0_1_Grade b0_1_Day b0_1_Sources b0_1_Bundle b0_1_Path) (qa.mk (qb.mk b0_2_Course_School b0_2_Course_Code) b0_2_Credits b0_2_Grade b0_2_Day b0_2_Sources b0_2_Bundle b0_2_Path) (qe.mk s_Worst s_Best s_Pass)) ([],k)).bind (fun(e:List qa)=>some (Exit.exit 2,⟨[(10,rO 1 8 e.length)],[(0,B.blk 52 [dI b0_0_Course_School,dS b0_0_Course_Code,dI b0_0_Credits,dI b0_0_Grade,dI b0_0_Day,dL 1 eI b0_0_Sources,dI b0_0_Bundle,dL 1 eI b0_0_Path,dI b0_1_Course_School,dS b0_1_Course_Code,dI b0_1_Credits,dI b0_1_Grade,dI b0_1_Day,dL 1 eI b0_1_Sources,dI b0_1_Bundle,dL 1 eI b0_1_Path,dI b0_2_Course_School,dS b0_2_Course_Code,dI b0_2_Credits,dI b0_2_Grade,dI b0_2_Day,dL 1 eI b0_2_Sources,dI b0_2_Bundle,dL 1 eI b0_2_Path]),(1,bR 52 8 qc e)],2,53⟩)):=by
 intro b0_0_Course_School b0_0_Course_Code b0_0_Credits b0_0_Grade b0_0_Day b0_0_Sources b0_0_Bundle b0_0_Path b0_1_Course_School b0_1_Course_Code b0_1_Credits b0_1_Grade b0_1_Day b0_1_Sources b0_1_Bundle b0_1_Path b0_2_Course_School b0_2_Course_Code b0_2_Credits b0_2_Grade b0_2_Day b0_2_Sources b0_2_Bundle b0_2_Path s_Worst s_Best s_Pass k;have h:=qY [] ((qa.mk (qb.mk b0_0_Course_School b0_0_Course_Code) b0_0_Credits b0_0_Grade b0_0_Day b0_0_Sources b0_0_Bundle b0_0_Path)).Course.School ((qa.mk (qb.mk b0_0_Course_School b0_0_Course_Code) b0_0_Credits b0_0_Grade b0_0_Day b0_0_Sources b0_0_Bundle b0_0_Path)).Course.Code ((qa.mk (qb.mk b0_0_Course_School b0_0_Course_Code) b0_0_Credits b0_0_Grade b0_0_Day b0_0_Sources b0_0_Bundle b0_0_Path)).Credits ((qa.mk (qb.mk b0_0_Course_School b0_0_Course_Code) b0_0_Credits b0_0_Grade b0_0_Day b0_0_Sources b0_0_Bundle b0_0_Path)).Grade ((qa.mk (qb.mk b0_0_Course_School b0_0_Course_Code) b0_0_Credits b0_0_Grade b0_0_Day b0_0_Sources b0_0_Bundle b0_0_Path)).Day ((qa.mk (qb.mk b0_0_Course_School b0_0_Course_Code) b0_0_Credits b0_0_Grade b0_0_Day b0_0_Sources b0_0_Bundle b0_0_Path)).Sources ((qa.mk (qb.mk b0_0_Course_School b0_0_Course_Code) b0_0_Credits b0_0_Grade b0_0_Day b0_0_Sources b0_0_Bundle b0_0_Path)).Bundle ((qa.mk (qb.mk b0_0_Course_School b0_0_Course_Code) b0_0_Credits b0_0_Grade b0_0_Day b0_0_Sources b0_0_Bundle b0_0_Path)).Path ((qa.mk (qb.mk b0_1_Course_School b0_1_Course_Code) b0_1_Credits b0_1_Grade b0_1_Day b0_1_Sources b0_1_Bundle b0_1_Path)).Course.School ((qa.mk (qb.mk b0_1_Course_School b0_1_Course_Code) b0_1_Credits b0_1_Grade b0_1_Day b0_1_Sources b0_1_Bundle b0_1_Path)).Course.Code ((qa.mk (qb.mk b0_1_Course_School b0_1_Course_Code) b0_1_Credits b0_1_Grade b0_1_Day b0_1_Sources b0_1_Bundle b0_1_Path)).Credits ((qa.mk (qb.mk b0_1_Course_School b0_1_Course_Code) b0_1_Credits b0_1_Grade b0_1_Day b0_1_Sources b0_1_Bundle b0_1_Path)).Grade ((qa.mk (qb.mk b0_1_Course_School b0_1_Course_Code) b0_1_Credits b0_1_Grade b0_1_Day b0_1_Sources b0_1_Bundle b0_1_Path)).Day ((qa.mk (qb.mk b0_1_Course_School b0_1_Course_Code) b0_1_Credits b0_1_Grade b0_1_Day b0_1_Sources b0_1_Bundle b0_1_Path)).Sources ((qa.mk (qb.mk b0_1_Course_School b0_1_Course_Code) b0_1_Credits b0_1_Grade b0_1_Day b0_1_Sources b0_1_Bundle b0_1_Path)).Bundle ((qa.mk (qb.mk b0_1_Course_School b0_1_Course_Code) b0_1_Credits b0_1_Grade b0_1_Day b0_1_Sources b0_1_Bundle b0_1_Path)).Path ((qa.mk (qb.mk b0_2_Course_School b0_2_Course_Code) b0_2_Credits b0_2_Grade b0_2_Day b0_2_Sources b0_2_Bundle b0_2_Path)).Course.School ((qa.mk (qb.mk b0_2_Course_School b0_2_Course_Code) b0_2_Credits b0_2_Grade b0_2_Day b0_2_Sources b0_2_Bundle b0_2_Path)).Course.Code ((qa.mk (qb.mk b0_2_Course_School b0_2_Course_Code) b0_2_Credits b0_2_Grade b0_2_Day b0_2_Sources b0_2_Bundle b0_2_Path)).Credits ((qa.mk (qb.mk b0_2_Course_School b0_2_Course_Code) b0_2_Credits b0_2_Grade b0_2_Day b0_2_Sources b0_2_Bundle b0_2_Path)).Grade ((qa.mk (qb.mk b0_2_Course_School b0_2_Course_Code) b0_2_Credits b0_2_Grade b0_2_Day b0_2_Sources b0_2_Bundle b0_2_Path)).Day ((qa.mk (qb.mk b0_2_Course_School b0_2_Course_Code) b0_2_Credits b0_2_Grade b0_2_Day b0_2_Sources b0_2_Bundle b0_2_Path)).Sources ((qa.mk (qb.mk b0_2_Course_School b0_2_Course_Code) b0_2_Credits b0_2_Grade b0_2_Day b0_2_Sources b0_2_Bundle b0_2_Path)).Bundle ((qa.mk (qb.mk b0_2_Course_School b0_2_Course_Code) b0_2_Credits b0_2_Grade b0_2_Day b0_2_Sources b0_2_Bundle b0_2_Path)).Path ((qe.mk s_Worst s_Best s_Pass)).Worst ((qe.mk s_Worst s_Best s_Pass)).Best ((qe.mk s_Worst s_Best s_Pass)).Pass k _ rfl
 first
  | exact h
  | (simp only[rL,dL,bR,bZ,Nat.reduceAdd] at h;exact h)
theorem J5:∀(left0_Course_School:Int) (left0_Course_Code:ByteArray) (left0_Credits left0_Grade left0_Day:Int) (left0_Sources:List Int) (left0_Bundle:Int) (left0_Path:List Int) (left1_Course_School:Int) (left1_Course_Code:ByteArray) (left1_Credits left1_Grade left1_Day:Int) (left1_Sources:List Int) (left1_Bundle:Int) (left1_Path:List Int) (left2_Course_School:Int) (left2_Course_Code:ByteArray) (left2_Credits left2_Grade left2_Day:Int) (left2_Sources:List Int) (left2_Bundle:Int) (left2_Path:List Int) (b0_0_Course_School:Int) (b0_0_Course_Code:ByteArray) (b0_0_Credits b0_0_Grade b0_0_Day:Int) (b0_0_Sources:List Int) (b0_0_Bundle:Int) (b0_0_Path:List Int) (b0_1_Course_School:Int) (b0_1_Course_Code:ByteArray) (b0_1_Credits b0_1_Grade b0_1_Day:Int) (b0_1_Sources:List Int) (b0_1_Bundle:Int) (b0_1_Path:List Int) (b0_2_Course_School:Int) (b0_2_Course_Code:ByteArray) (b0_2_Credits b0_2_Grade b0_2_Day:Int) (b0_2_Sources:List Int) (b0_2_Bundle:Int) (b0_2_Path:List Int) (s_Worst s_Best s_Pass k:Int),XL2 evo 11 1 9 ⟨[(6,rP 1),(10,rO 2 8 3),(13,rI k)],[(0,B.blk 52 [dI b0_0_Course_School,dS b0_0_Course_Code,dI b0_0_Credits,dI b0_0_Grade,dI b0_0_Day,dL 1 eI b0_0_Sources,dI b0_0_Bundle,dL 1 eI b0_0_Path,dI b0_1_Course_School,dS b0_1_Course_Code,dI b0_1_Credits,dI b0_1_Grade,dI b0_1_Day,dL 1 eI b0_1_Sources,dI b0_1_Bundle,dL 1 eI b0_1_Path,dI b0_2_Course_School,dS b0_2_Course_Code,dI b0_2_Credits,dI b0_2_Grade,dI b0_2_Day,dL 1 eI b0_2_Sources,dI b0_2_Bundle,dL 1 eI b0_2_Path]),(1,B.blk 30 [dI s_Worst,dI s_Best,dI s_Pass]),(2,B.row 52 8 [dI left0_Course_School,dS left0_Course_Code,dI left0_Credits,dI left0_Grade,dI left0_Day,dL 1 eI left0_Sources,dI left0_Bundle,dL 1 eI left0_Path,dI left1_Course_School,dS left1_Course_Code,dI left1_Credits,dI left1_Grade,dI left1_Day,dL 1 eI left1_Sources,dI left1_Bundle,dL 1 eI left1_Path,dI left2_Course_School,dS left2_Course_Code,dI left2_Credits,dI left2_Grade,dI left2_Day,dL 1 eI left2_Sources,dI left2_Bundle,dL 1 eI left2_Path])],3,53⟩=(qB (qk (qa.mk (qb.mk b0_0_Course_School b0_0_Course_Code) b0_0_Credits b0_0_Grade b0_0_Day b0_0_Sources b0_0_Bundle b0_0_Path) (qa.mk (qb.mk b0_1_Course_School b0_1_Course_Code) b0_1_Credits b0_1_Grade b0_1_Day b0_1_Sources b0_1_Bundle b0_1_Path) (qa.mk (qb.mk b0_2_Course_School b0_2_Course_Code) b0_2_Credits b0_2_Grade b0_2_Day b0_2_Sources b0_2_Bundle b0_2_Path) (qe.mk s_Worst s_Best s_Pass)) ([(qa.mk (qb.mk left0_Course_School left0_Course_Code) left0_Credits left0_Grade left0_Day left0_Sources left0_Bundle left0_Path),(qa.mk (qb.mk left1_Course_School left1_Course_Code) left1_Credits left1_Grade left1_Day left1_Sources left1_Bundle left1_Path),(qa.mk (qb.mk left2_Course_School left2_Course_Code) left2_Credits left2_Grade left2_Day left2_Sources left2_Bundle left2_Path)],k)).bind (fun(e:List qa)=>some (Exit.exit 2,⟨[(10,rO 1 8 e.length)],[(0,B.blk 52 [dI b0_0_Course_School,dS b0_0_Course_Code,dI b0_0_Credits,dI b0_0_Grade,dI b0_0_Day,dL 1 eI b0_0_Sources,dI b0_0_Bundle,dL 1 eI b0_0_Path,dI b0_1_Course_School,dS b0_1_Course_Code,dI b0_1_Credits,dI b0_1_Grade,dI b0_1_Day,dL 1 eI b0_1_Sources,dI b0_1_Bundle,dL 1 eI b0_1_Path,dI b0_2_Course_School,dS b0_2_Course_Code,dI b0_2_Credits,dI b0_2_Grade,dI b0_2_Day,dL 1 eI b0_2_Sources,dI b0_2_Bundle,dL 1 eI b0_2_Path]),(1,bR 52 8 qc e)],2,53⟩)):=by
 intro left0_Course_School left0_Course_Code left0_Credits left0_Grade left0_Day left0_Sources left0_Bundle left0_Path left1_Course_School left1_Course_Code left1_Credits left1_Grade left1_Day left1_Sources left1_Bundle left1_Path left2_Course_School left2_Course_Code left2_Credits left2_Grade left2_Day left2_Sources left2_Bundle left2_Path b0_0_Course_School b0_0_Course_Code b0_0_Credits b0_0_Grade b0_0_Day b0_0_Sources b0_0_Bundle b0_0_Path b0_1_Course_School b0_1_Course_Code b0_1_Credits b0_1_Grade b0_1_Day b0_1_Sources b0_1_Bundle b0_1_Path b0_2_Course_School b0_2_Course_Code b0_2_Credits b0_2_Grade b0_2_Day b0_2_Sources b0_2_Bundle b0_2_Path s_Worst s_Best s_Pass k;have h:=qY [(qa.mk (qb.mk left0_Course_School left0_Course_Code) left0_Credits left0_Grade left0_Day left0_Sources left0_Bundle left0_Path),(qa.mk (qb.mk left1_Course_School left1_Course_Code) left1_Credits left1_Grade left1_Day left1_Sources left1_Bundle left1_Path),(qa.mk (qb.mk left2_Course_School left2_Course_Code) left2_Credits left2_Grade left2_Day left2_Sources left2_Bundle left2_Path)] ((qa.mk (qb.mk b0_0_Course_School b0_0_Course_Code) b0_0_Credits b0_0_Grade b0_0_Day b0_0_Sources b0_0_Bundle b0_0_Path)).Course.School ((qa.mk (qb.mk b0_0_Course_School b0_0_Course_Code) b0_0_Credits b0_0_Grade b0_0_Day b0_0_Sources b0_0_Bundle b0_0_Path)).Course.Code ((qa.mk (qb.mk b0_0_Course_School b0_0_Course_Code) b0_0_Credits b0_0_Grade b0_0_Day b0_0_Sources b0_0_Bundle b0_0_Path)).Credits ((qa.mk (qb.mk b0_0_Course_School b0_0_Course_Code) b0_0_Credits b0_0_Grade b0_0_Day b0_0_Sources b0_0_Bundle b0_0_Path)).Grade ((qa.mk (qb.mk b0_0_Course_School b0_0_Course_Code) b0_0_Credits b0_0_Grade b0_0_Day b0_0_Sources b0_0_Bundle b0_0_Path)).Day ((qa.mk (qb.mk b0_0_Course_School b0_0_Course_Code) b0_0_Credits b0_0_Grade b0_0_Day b0_0_Sources b0_0_Bundle b0_0_Path)).Sources ((qa.mk (qb.mk b0_0_Course_School b0_0_Course_Code) b0_0_Credits b0_0_Grade b0_0_Day b0_0_Sources b0_0_Bundle b0_0_Path)).Bundle ((qa.mk (qb.mk b0_0_Course_School b0_0_Course_Code) b0_0_Credits b0_0_Grade b0_0_Day b0_0_Sources b0_0_Bundle b0_0_Path)).Path ((qa.mk (qb.mk b0_1_Course_School b0_1_Course_Code) b0_1_Credits b0_1_Grade b0_1_Day b0_1_Sources b0_1_Bundle b0_1_Path)).Course.School ((qa.mk (qb.mk b0_1_Course_School b0_1_Course_Code) b0_1_Credits b0_1_Grade b0_1_Day b0_1_Sources b0_1_Bundle b0_1_Path)).Course.Code ((qa.mk (qb.mk b0_1_Course_School b0_1_Course_Code) b0_1_Credits b0_1_Grade b0_1_Day b0_1_Sources b0_1_Bundle b0_1_Path)).Credits ((qa.mk (qb.mk b0_1_Course_School b0_1_Course_Code) b0_1_Credits b0_1_Grade b0_1_Day b0_1_Sources b0_1_Bundle b0_1_Path)).Grade ((qa.mk (qb.mk b0_1_Course_School b0_1_Course_Code) b0_1_Credits b0_1_Grade b0_1_Day b0_1_Sources b0_1_Bundle b0_1_Path)).Day ((qa.mk (qb.mk b0_1_Course_School b0_1_Course_Code) b0_1_Credits b0_1_Grade b0_1_Day b0_1_Sources b0_1_Bundle b0_1_Path)).Sources ((qa.mk (qb.mk b0_1_Course_School b0_1_Course_Code) b0_1_Credits b0_1_Grade b0_1_Day b0_1_Sources b0_1_Bundle b0_1_Path)).Bundle ((qa.mk (qb.mk b0_1_Course_School b0_1_Course_Code) b0_1_Credits b0_1_Grade b0_1_Day b0_1_Sources b0_1_Bundle b0_1_Path)).Path ((qa.mk (qb.mk b0_2_Course_School b0_2_Course_Code) b0_2_Credits b0_2_Grade b0_2_Day b0_2_Sources b0_2_Bundle b0_2_Path)).Course.School ((qa.mk (qb.mk b0_2_Course_School b0_2_Course_Code) b0_2_Credits b0_2_Grade b0_2_Day b0_2_Sources b0_2_Bundle b0_2_Path)).Course.Code ((qa.mk (qb.mk b0_2_Course_School b0_2_Course_Code) b0_2_Credits b0_2_Grade b0_2_Day b0_2_Sources b0_2_Bundle b0_2_Path)).Credits ((qa.mk (qb.mk b0_2_Course_School b0_2_Course_Code) b0_2_Credits b0_2_Grade b0_2_Day b0_2_Sources b0_2_Bundle b0_2_Path)).Grade ((qa.mk (qb.mk b0_2_Course_School b0_2_Course_Code) b0_2_Credits b0_2_Grade b0_2_Day b0_2_Sources b0_2_Bundle b0_2_Path)).Day ((qa.mk (qb.mk b0_2_Course_School b0_2_Course_Code) b0_2_Credits b0_2_Grade b0_2_Day b0_2_Sources b0_2_Bundle b0_2_Path)).Sources ((qa.mk (qb.mk b0_2_Course_School b0_2_Course_Code) b0_2_Credits b0_2_Grade b0_2_Day b0_2_Sources b0_2_Bundle b0_2_Path)).Bundle ((qa.mk (qb.mk b0_2_Course_School b0_2_Course_Code) b0_2_Credits b0_2_Grade b0_2_Day b0_2_Sources b0_2_Bundle b0_2_Path)).Path ((qe.mk s_Worst s_Best s_Pass)).Worst ((qe.mk s_Worst s_Best s_Pass)).Best ((qe.mk s_Worst s_Best s_Pass)).Pass k _ rfl
 first
  | exact h
  | (simp only[rL,dL,bR,bZ,Nat.reduceAdd] at h;exact h)
theorem Jc:∀(left0_Course_School:Int) (left0_Course_Code:ByteArray) (left0_Credits left0_Grade left0_Day:Int) (left0_Sources:List Int) (left0_Bundle:Int) (left0_Path:List Int) (left1_Course_School:Int) (left1_Course_Code:ByteArray) (left1_Credits left1_Grade left1_Day:Int) (left1_Sources:List Int) (left1_Bundle:Int) (left1_Path:List Int) (b0_0_Course_School:Int) (b0_0_Course_Code:ByteArray) (b0_0_Credits b0_0_Grade b0_0_Day:Int) (b0_0_Sources:List Int) (b0_0_Bundle:Int) (b0_0_Path:List Int) (b0_1_Course_School:Int) (b0_1_Course_Code:ByteArray) (b0_1_Credits b0_1_Grade b0_1_Day:Int) (b0_1_Sources:List Int) (b0_1_Bundle:Int) (b0_1_Path:List Int) (b0_2_Course_School:Int) (b0_2_Course_Code:ByteArray) (b0_2_Credits b0_2_Grade b0_2_Day:Int) (b0_2_Sources:List Int) (b0_2_Bundle:Int) (b0_2_Path:List Int) (s_Worst s_Best s_Pass k:Int),XL2 evo 11 1 9 ⟨[(6,rP 1),(10,rO 2 8 2),(13,rI k)],[(0,B.blk 52 [dI b0_0_Course_School,dS b0_0_Course_Code,dI b0_0_Credits,dI b0_0_Grade,dI b0_0_Day,dL 1 eI b0_0_Sources,dI b0_0_Bundle,dL 1 eI b0_0_Path,dI b0_1_Course_School,dS b0_1_Course_Code,dI b0_1_Credits,dI b0_1_Grade,dI b0_1_Day,dL 1 eI b0_1_Sources,dI b0_1_Bundle,dL 1 eI b0_1_Path,dI b0_2_Course_School,dS b0_2_Course_Code,dI b0_2_Credits,dI b0_2_Grade,dI b0_2_Day,dL 1 eI b0_2_Sources,dI b0_2_Bundle,dL 1 eI b0_2_Path]),(1,B.blk 30 [dI s_Worst,dI s_Best,dI s_Pass]),(2,B.row 52 8 [dI left0_Course_School,dS left0_Course_Code,dI left0_Credits,dI left0_Grade,dI left0_Day,dL 1 eI left0_Sources,dI left0_Bundle,dL 1 eI left0_Path,dI left1_Course_School,dS left1_Course_Code,dI left1_Credits,dI left1_Grade,dI left1_Day,dL 1 eI left1_Sources,dI left1_Bundle,dL 1 eI left1_Path])],3,53⟩=(qB (qk (qa.mk (qb.mk b0_0_Course_School b0_0_Course_Code) b0_0_Credits b0_0_Grade b0_0_Day b0_0_Sources b0_0_Bundle b0_0_Path) (qa.mk (qb.mk b0_1_Course_School b0_1_Course_Code) b0_1_Credits b0_1_Grade b0_1_Day b0_1_Sources b0_1_Bundle b0_1_Path) (qa.mk (qb.mk b0_2_Course_School b0_2_Course_Code) b0_2_Credits b0_2_Grade b0_2_Day b0_2_Sources b0_2_Bundle b0_2_Path) (qe.mk s_Worst s_Best s_Pass)) ([(qa.mk (qb.mk left0_Course_School left0_Course_Code) left0_Credits left0_Grade left0_Day left0_Sources left0_Bundle left0_Path),(qa.mk (qb.mk left1_Course_School left1_Course_Code) left1_Credits left1_Grade left1_Day left1_Sources left1_Bundle left1_Path)],k)).bind (fun(e:List qa)=>some (Exit.exit 2,⟨[(10,rO 1 8 e.length)],[(0,B.blk 52 [dI b0_0_Course_School,dS b0_0_Course_Code,dI b0_0_Credits,dI b0_0_Grade,dI b0_0_Day,dL 1 eI b0_0_Sources,dI b0_0_Bundle,dL 1 eI b0_0_Path,dI b0_1_Course_School,dS b0_1_Course_Code,dI b0_1_Credits,dI b0_1_Grade,dI b0_1_Day,dL 1 eI b0_1_Sources,dI b0_1_Bundle,dL 1 eI b0_1_Path,dI b0_2_Course_School,dS b0_2_Course_Code,dI b0_2_Credits,dI b0_2_Grade,dI b0_2_Day,dL 1 eI b0_2_Sources,dI b0_2_Bundle,dL 1 eI b0_2_Path]),(1,bR 52 8 qc e)],2,53⟩)):=by
 intro left0_Course_School left0_Course_Code left0_Credits left0_Grade left0_Day left0_Sources left0_Bundle left0_Path left1_Course_School left1_Course_Code left1_Credits left1_Grade left1_Day left1_Sources left1_Bundle left1_Path b0_0_Course_School b0_0_Course_Code b0_0_Credits b0_0_Grade b0_0_Day b0_0_Sources b0_0_Bundle b0_0_Path b0_1_Course_School b0_1_Course_Code b0_1_Credits b0_1_Grade b0_1_Day b0_1_Sources b0_1_Bundle b0_1_Path b0_2_Course_School b0_2_Course_Code b0_2_Credits b0_2_Grade b0_2_Day b0_2_Sources b0_2_Bundle b0_2_Path s_Worst s_Best s_Pass k;have h:=qY [(qa.mk (qb.mk left0_Course_School left0_Course_Code) left0_Credits left0_Grade left0_Day left0_Sources left0_Bundle left0_Path),(qa.mk (qb.mk left1_Course_School left1_Course_Code) left1_Credits left1_Grade left1_Day left1_Sources left1_Bundle left1_Path)] ((qa.mk (qb.mk b0_0_Course_School b0_0_Course_Code) b0_0_Credits b0_0_Grade b0_0_Day b0_0_Sources b0_0_Bundle b0_0_Path)).Course.School ((qa.mk (qb.mk b0_0_Course_School b0_0_Course_Code) b0_0_Credits b0_0_Grade b0_0_Day b0_0_Sources b0_0_Bundle b0_0_Path)).Course.Code ((qa.mk (qb.mk b0_0_Course_School b0_0_Course_Code) b0_0_Credits b0_0_Grade b0_0_Day b0_0_Sources b0_0_Bundle b0_0_Path)).Credits ((qa.mk (qb.mk b0_0_Course_School b0_0_Course_Code) b0_0_Credits b0_0_Grade b0_0_Day b0_0_Sources b0_0_Bundle b0_0_Path)).Grade ((qa.mk (qb.mk b0_0_Course_School b0_0_Course_Code) b0_0_Credits b0_0_Grade b0_0_Day b0_0_Sources b0_0_Bundle b0_0_Path)).Day ((qa.mk (qb.mk b0_0_Course_School b0_0_Course_Code) b0_0_Credits b0_0_Grade b0_0_Day b0_0_Sources b0_0_Bundle b0_0_Path)).Sources ((qa.mk (qb.mk b0_0_Course_School b0_0_Course_Code) b0_0_Credits b0_0_Grade b0_0_Day b0_0_Sources b0_0_Bundle b0_0_Path)).Bundle ((qa.mk (qb.mk b0_0_Course_School b0_0_Course_Code) b0_0_Credits b0_0_Grade b0_0_Day b0_0_Sources b0_0_Bundle b0_0_Path)).Path ((qa.mk (qb.mk b0_1_Course_School b0_1_Course_Code) b0_1_Credits b0_1_Grade b0_1_Day b0_1_Sources b0_1_Bundle b0_1_Path)).Course.School ((qa.mk (qb.mk b0_1_Course_School b0_1_Course_Code) b0_1_Credits b0_1_Grade b0_1_Day b0_1_Sources b0_1_Bundle b0_1_Path)).Course.Code ((qa.mk (qb.mk b0_1_Course_School b0_1_Course_Code) b0_1_Credits b0_1_Grade b0_1_Day b0_1_Sources b0_1_Bundle b0_1_Path)).Credits ((qa.mk (qb.mk b0_1_Course_School b0_1_Course_Code) b0_1_Credits b0_1_Grade b0_1_Day b0_1_Sources b0_1_Bundle b0_1_Path)).Grade ((qa.mk (qb.mk b0_1_Course_School b0_1_Course_Code) b0_1_Credits b0_1_Grade b0_1_Day b0_1_Sources b0_1_Bundle b0_1_Path)).Day ((qa.mk (qb.mk b0_1_Course_School b0_1_Course_Code) b0_1_Credits b0_1_Grade b0_1_Day b0_1_Sources b0_1_Bundle b0_1_Path)).Sources ((qa.mk (qb.mk b0_1_Course_School b0_1_Course_Code) b0_1_Credits b0_1_Grade b0_1_Day b0_1_Sources b0_1_Bundle b0_1_Path)).Bundle ((qa.mk (qb.mk b0_1_Course_School b0_1_Course_Code) b0_1_Credits b0_1_Grade b0_1_Day b0_1_Sources b0_1_Bundle b0_1_Path)).Path ((qa.mk (qb.mk b0_2_Course_School b0_2_Course_Code) b0_2_Credits b0_2_Grade b0_2_Day b0_2_Sources b0_2_Bundle b0_2_Path)).Course.School ((qa.mk (qb.mk b0_2_Course_School b0_2_Course_Code) b0_2_Credits b0_2_Grade b0_2_Day b0_2_Sources b0_2_Bundle b0_2_Path)).Course.Code ((qa.mk (qb.mk b0_2_Course_School b0_2_Course_Code) b0_2_Credits b0_2_Grade b0_2_Day b0_2_Sources b0_2_Bundle b0_2_Path)).Credits ((qa.mk (qb.mk b0_2_Course_School b0_2_Course_Code) b0_2_Credits b0_2_Grade b0_2_Day b0_2_Sources b0_2_Bundle b0_2_Path)).Grade ((qa.mk (qb.mk b0_2_Course_School b0_2_Course_Code) b0_2_Credits b0_2_Grade b0_2_Day b0_2_Sources b0_2_Bundle b0_2_Path)).Day ((qa.mk (qb.mk b0_2_Course_School b0_2_Course_Code) b0_2_Credits b0_2_Grade b0_2_Day b0_2_Sources b0_2_Bundle b0_2_Path)).Sources ((qa.mk (qb.mk b0_2_Course_School b0_2_Course_Code) b0_2_Credits b0_2_Grade b0_2_Day b0_2_Sources b0_2_Bundle b0_2_Path)).Bundle ((qa.mk (qb.mk b0_2_Course_School b0_2_Course_Code) b0_2_Credits b0_2_Grade b0_2_Day b0_2_Sources b0_2_Bundle b0_2_Path)).Path ((qe.mk s_Worst s_Best s_Pass)).Worst ((qe.mk s_Worst s_Best s_Pass)).Best ((qe.mk s_Worst s_Best s_Pass)).Pass k _ rfl
 first
  | exact h
  | (simp only[rL,dL,bR,bZ,Nat.reduceAdd] at h;exact h)
theorem Ja:∀(left0_Course_School:Int) (left0_Course_Code:ByteArray) (left0_Credits left0_Grade left0_Day:Int) (left0_Sources:List Int) (left0_Bundle:Int) (left0_Path:List Int) (b0_0_Course_School:Int) (b0_0_Course_Code:ByteArray) (b0_0_Credits b0_0_Grade b0_0_Day:Int) (b0_0_Sources:List Int) (b0_0_Bundle:Int) (b0_0_Path:List Int) (b0_1_Course_School:Int) (b0_1_Course_Code:ByteArray) (b0_1_Credits b0_1_Grade b0_1_Day:Int) (b0_1_Sources:List Int) (b0_1_Bundle:Int) (b0_1_Path:List Int) (b0_2_Course_School:Int) (b0_2_Course_Code:ByteArray) (b0_2_Credits b0_2_Grade b0_2_Day:Int) (b0_2_Sources:List Int) (b0_2_Bundle:Int) (b0_2_Path:List Int) (s_Worst s_Best s_Pass k:Int),XL2 evo 11 1 9 ⟨[(6,rP 1),(10,rO 2 8 1),(13,rI k)],[(0,B.blk 52 [dI b0_0_Course_School,dS b0_0_Course_Code,dI b0_0_Credits,dI b0_0_Grade,dI b0_0_Day,dL 1 eI b0_0_Sources,dI b0_0_Bundle,dL 1 eI b0_0_Path,dI b0_1_Course_School,dS b0_1_Course_Code,dI b0_1_Credits,dI b0_1_Grade,dI b0_1_Day,dL 1 eI b0_1_Sources,dI b0_1_Bundle,dL 1 eI b0_1_Path,dI b0_2_Course_School,dS b0_2_Course_Code,dI b0_2_Credits,dI b0_2_Grade,dI b0_2_Day,dL 1 eI b0_2_Sources,dI b0_2_Bundle,dL 1 eI b0_2_Path]),(1,B.blk 30 [dI s_Worst,dI s_Best,dI s_Pass]),(2,B.row 52 8 [dI left0_Course_School,dS left0_Course_Code,dI left0_Credits,dI left0_Grade,dI left0_Day,dL 1 eI left0_Sources,dI left0_Bundle,dL 1 eI left0_Path])],3,53⟩=(qB (qk (qa.mk (qb.mk b0_0_Course_School b0_0_Course_Code) b0_0_Credits b0_0_Grade b0_0_Day b0_0_Sources b0_0_Bundle b0_0_Path) (qa.mk (qb.mk b0_1_Course_School b0_1_Course_Code) b0_1_Credits b0_1_Grade b0_1_Day b0_1_Sources b0_1_Bundle b0_1_Path) (qa.mk (qb.mk b0_2_Course_School b0_2_Course_Code) b0_2_Credits b0_2_Grade b0_2_Day b0_2_Sources b0_2_Bundle b0_2_Path) (qe.mk s_Worst s_Best s_Pass)) ([(qa.mk (qb.mk left0_Course_School left0_Course_Code) left0_Credits left0_Grade left0_Day left0_Sources left0_Bundle left0_Path)],k)).bind (fun(e:List qa)=>some (Exit.exit 2,⟨[(10,rO 1 8 e.length)],[(0,B.blk 52 [dI b0_0_Course_School,dS b0_0_Course_Code,dI b0_0_Credits,dI b0_0_Grade,dI b0_0_Day,dL 1 eI b0_0_Sources,dI b0_0_Bundle,dL 1 eI b0_0_Path,dI b0_1_Course_School,dS b0_1_Course_Code,dI b0_1_Credits,dI b0_1_Grade,dI b0_1_Day,dL 1 eI b0_1_Sources,dI b0_1_Bundle,dL 1 eI b0_1_Path,dI b0_2_Course_School,dS b0_2_Course_Code,dI b0_2_Credits,dI b0_2_Grade,dI b0_2_Day,dL 1 eI b0_2_Sources,dI b0_2_Bundle,dL 1 eI b0_2_Path]),(1,bR 52 8 qc e)],2,53⟩)):=by
 intro left0_Course_School left0_Course_Code left0_Credits left0_Grade left0_Day left0_Sources left0_Bundle left0_Path b0_0_Course_School b0_0_Course_Code b0_0_Credits b0_0_Grade b0_0_Day b0_0_Sources b0_0_Bundle b0_0_Path b0_1_Course_School b0_1_Course_Code b0_1_Credits b0_1_Grade b0_1_Day b0_1_Sources b0_1_Bundle b0_1_Path b0_2_Course_School b0_2_Course_Code b0_2_Credits b0_2_Grade b0_2_Day b0_2_Sources b0_2_Bundle b0_2_Path s_Worst s_Best s_Pass k;have h:=qY [(qa.mk (qb.mk left0_Course_School left0_Course_Code) left0_Credits left0_Grade left0_Day left0_Sources left0_Bundle left0_Path)] ((qa.mk (qb.mk b0_0_Course_School b0_0_Course_Code) b0_0_Credits b0_0_Grade b0_0_Day b0_0_Sources b0_0_Bundle b0_0_Path)).Course.School ((qa.mk (qb.mk b0_0_Course_School b0_0_Course_Code) b0_0_Credits b0_0_Grade b0_0_Day b0_0_Sources b0_0_Bundle b0_0_Path)).Course.Code ((qa.mk (qb.mk b0_0_Course_School b0_0_Course_Code) b0_0_Credits b0_0_Grade b0_0_Day b0_0_Sources b0_0_Bundle b0_0_Path)).Credits ((qa.mk (qb.mk b0_0_Course_School b0_0_Course_Code) b0_0_Credits b0_0_Grade b0_0_Day b0_0_Sources b0_0_Bundle b0_0_Path)).Grade ((qa.mk (qb.mk b0_0_Course_School b0_0_Course_Code) b0_0_Credits b0_0_Grade b0_0_Day b0_0_Sources b0_0_Bundle b0_0_Path)).Day ((qa.mk (qb.mk b0_0_Course_School b0_0_Course_Code) b0_0_Credits b0_0_Grade b0_0_Day b0_0_Sources b0_0_Bundle b0_0_Path)).Sources ((qa.mk (qb.mk b0_0_Course_School b0_0_Course_Code) b0_0_Credits b0_0_Grade b0_0_Day b0_0_Sources b0_0_Bundle b0_0_Path)).Bundle ((qa.mk (qb.mk b0_0_Course_School b0_0_Course_Code) b0_0_Credits b0_0_Grade b0_0_Day b0_0_Sources b0_0_Bundle b0_0_Path)).Path ((qa.mk (qb.mk b0_1_Course_School b0_1_Course_Code) b0_1_Credits b0_1_Grade b0_1_Day b0_1_Sources b0_1_Bundle b0_1_Path)).Course.School ((qa.mk (qb.mk b0_1_Course_School b0_1_Course_Code) b0_1_Credits b0_1_Grade b0_1_Day b0_1_Sources b0_1_Bundle b0_1_Path)).Course.Code ((qa.mk (qb.mk b0_1_Course_School b0_1_Course_Code) b0_1_Credits b0_1_Grade b0_1_Day b0_1_Sources b0_1_Bundle b0_1_Path)).Credits ((qa.mk (qb.mk b0_1_Course_School b0_1_Course_Code) b0_1_Credits b0_1_Grade b0_1_Day b0_1_Sources b0_1_Bundle b0_1_Path)).Grade ((qa.mk (qb.mk b0_1_Course_School b0_1_Course_Code) b0_1_Credits b0_1_Grade b0_1_Day b0_1_Sources b0_1_Bundle b0_1_Path)).Day ((qa.mk (qb.mk b0_1_Course_School b0_1_Course_Code) b0_1_Credits b0_1_Grade b0_1_Day b0_1_Sources b0_1_Bundle b0_1_Path)).Sources ((qa.mk (qb.mk b0_1_Course_School b0_1_Course_Code) b0_1_Credits b0_1_Grade b0_1_Day b0_1_Sources b0_1_Bundle b0_1_Path)).Bundle ((qa.mk (qb.mk b0_1_Course_School b0_1_Course_Code) b0_1_Credits b0_1_Grade b0_1_Day b0_1_Sources b0_1_Bundle b0_1_Path)).Path ((qa.mk (qb.mk b0_2_Course_School b0_2_Course_Code) b0_2_Credits b0_2_Grade b0_2_Day b0_2_Sources b0_2_Bundle b0_2_Path)).Course.School ((qa.mk (qb.mk b0_2_Course_School b0_2_Course_Code) b0_2_Credits b0_2_Grade b0_2_Day b0_2_Sources b0_2_Bundle b0_2_Path)).Course.Code ((qa.mk (qb.mk b0_2_Course_School b0_2_Course_Code) b0_2_Credits b0_2_Grade b0_2_Day b0_2_Sources b0_2_Bundle b0_2_Path)).Credits ((qa.mk (qb.mk b0_2_Course_School b0_2_Course_Code) b0_2_Credits b0_2_Grade b0_2_Day b0_2_Sources b0_2_Bundle b0_2_Path)).Grade ((qa.mk (qb.mk b0_2_Course_School b0_2_Course_Code) b0_2_Credits b0_2_Grade b0_2_Day b0_2_Sources b0_2_Bundle b0_2_Path)).Day ((qa.mk (qb.mk b0_2_Course_School b0_2_Course_Code) b0_2_Credits b0_2_Grade b0_2_Day b0_2_Sources b0_2_Bundle b0_2_Path)).Sources ((qa.mk (qb.mk b0_2_Course_School b0_2_Course_Code) b0_2_Credits b0_2_Grade b0_2_Day b0_2_Sources b0_2_Bundle b0_2_Path)).Bundle ((qa.mk (qb.mk b0_2_Course_School b0_2_Course_Code) b0_2_Credits b0_2_Grade b0_2_Day b0_2_Sources b0_2_Bundle b0_2_Path)).Path ((qe.mk s_Worst s_Best s_Pass)).Worst ((qe.mk s_Worst s_Best s_Pass)).Best ((qe.mk s_Worst s_Best s_Pass)).Pass k _ rfl
 first
  | exact h
  | (simp only[rL,dL,bR,bZ,Nat.reduceAdd] at h;exact h)
theorem J0:∀(left0_Course_School:Int) (left0_Course_Code:ByteArray) (left0_Credits left0_Grade left0_Day:Int) (left0_Sources:List Int) (left0_Bundle:Int) (left0_Path:List Int) (left1_Course_School:Int) (left1_Course_Code:ByteArray) (left1_Credits left1_Grade left1_Day:Int) (left1_Sources:List Int) (left1_Bundle:Int) (left1_Path:List Int) (left2_Course_School:Int) (left2_Course_Code:ByteArray) (left2_Credits left2_Grade left2_Day:Int) (left2_Sources:List Int) (left2_Bundle:Int) (left2_Path:List Int) (b0_0_Course_School:Int) (b0_0_Course_Code:ByteArray) (b0_0_Credits b0_0_Grade b0_0_Day:Int) (b0_0_Sources:List Int) (b0_0_Bundle:Int) (b0_0_Path:List Int) (b0_1_Course_School:Int) (b0_1_Course_Code:ByteArray) (b0_1_Credits b0_1_Grade b0_1_Day:Int) (b0_1_Sources:List Int) (b0_1_Bundle:Int) (b0_1_Path:List Int) (b0_2_Course_School:Int) (b0_2_Course_Code:ByteArray) (b0_2_Credits b0_2_Grade b0_2_Day:Int) (b0_2_Sources:List Int) (b0_2_Bundle:Int) (b0_2_Path:List Int) (s_Worst s_Best s_Pass k:Int),XL2 evo 11 1 9 ⟨[(6,rP 1),(10,rO 2 8 3),(13,rI k)],[(0,B.blk 52 [dI b0_0_Course_School,dS b0_0_Course_Code,dI b0_0_Credits,dI b0_0_Grade,dI b0_0_Day,dL 1 eI b0_0_Sources,dI b0_0_Bundle,dL 1 eI b0_0_Path,dI b0_1_Course_School,dS b0_1_Course_Code,dI b0_1_Credits,dI b0_1_Grade,dI b0_1_Day,dL 1 eI b0_1_Sources,dI b0_1_Bundle,dL 1 eI b0_1_Path,dI b0_2_Course_School,dS b0_2_Course_Code,dI b0_2_Credits,dI b0_2_Grade,dI b0_2_Day,dL 1 eI b0_2_Sources,dI b0_2_Bundle,dL 1 eI b0_2_Path]),(1,B.blk 30 [dI s_Worst,dI s_Best,dI s_Pass]),(2,B.row 52 8 [dI left0_Course_School,dS left0_Course_Code,dI left0_Credits,dI left0_Grade,dI left0_Day,dL 1 eI left0_Sources,dI left0_Bundle,dL 1 eI left0_Path,dI left1_Course_School,dS left1_Course_Code,dI left1_Credits,dI left1_Grade,dI left1_Day,dL 1 eI left1_Sources,dI left1_Bundle,dL 1 eI left1_Path,dI left2_Course_School,dS left2_Course_Code,dI left2_Credits,dI left2_Grade,dI left2_Day,dL 1 eI left2_Sources,dI left2_Bundle,dL 1 eI left2_Path])],3,53⟩=(qB (qk (qa.mk (qb.mk b0_0_Course_School b0_0_Course_Code) b0_0_Credits b0_0_Grade b0_0_Day b0_0_Sources b0_0_Bundle b0_0_Path) (qa.mk (qb.mk b0_1_Course_School b0_1_Course_Code) b0_1_Credits b0_1_Grade b0_1_Day b0_1_Sources b0_1_Bundle b0_1_Path) (qa.mk (qb.mk b0_2_Course_School b0_2_Course_Code) b0_2_Credits b0_2_Grade b0_2_Day b0_2_Sources b0_2_Bundle b0_2_Path) (qe.mk s_Worst s_Best s_Pass)) ([(qa.mk (qb.mk left0_Course_School left0_Course_Code) left0_Credits left0_Grade left0_Day left0_Sources left0_Bundle left0_Path),(qa.mk (qb.mk left1_Course_School left1_Course_Code) left1_Credits left1_Grade left1_Day left1_Sources left1_Bundle left1_Path),(qa.mk (qb.mk left2_Course_School left2_Course_Code) left2_Credits left2_Grade left2_Day left2_Sources left2_Bundle left2_Path)],k)).bind (fun(e:List qa)=>some (Exit.exit 2,⟨[(10,rO 1 8 e.length)],[(0,B.blk 52 [dI b0_0_Course_School,dS b0_0_Course_Code,dI b0_0_Credits,dI b0_0_Grade,dI b0_0_Day,dL 1 eI b0_0_Sources,dI b0_0_Bundle,dL 1 eI b0_0_Path,dI b0_1_Course_School,dS b0_1_Course_Code,dI b0_1_Credits,dI b0_1_Grade,dI b0_1_Day,dL 1 eI b0_1_Sources,dI b0_1_Bundle,dL 1 eI b0_1_Path,dI b0_2_Course_School,dS b0_2_Course_Code,dI b0_2_Credits,dI b0_2_Grade,dI b0_2_Day,dL 1 eI b0_2_Sources,dI b0_2_Bundle,dL 1 eI b0_2_Path]),(1,bR 52 8 qc e)],2,53⟩)):=by
 intro left0_Course_School left0_Course_Code left0_Credits left0_Grade left0_Day left0_Sources left0_Bundle left0_Path left1_Course_School left1_Course_Code left1_Credits left1_Grade left1_Day left1_Sources left1_Bundle left1_Path left2_Course_School left2_Course_Code left2_Credits left2_Grade left2_Day left2_Sources left2_Bundle left2_Path b0_0_Course_School b0_0_Course_Code b0_0_Credits b0_0_Grade b0_0_Day b0_0_Sources b0_0_Bundle b0_0_Path b0_1_Course_School b0_1_Course_Code b0_1_Credits b0_1_Grade b0_1_Day b0_1_Sources b0_1_Bundle b0_1_Path b0_2_Course_School b0_2_Course_Code b0_2_Credits b0_2_Grade b0_2_Day b0_2_Sources b0_2_Bundle b0_2_Path s_Worst s_Best s_Pass k;have h:=qY [(qa.mk (qb.mk left0_Course_School left0_Course_Code) left0_Credits left0_Grade left0_Day left0_Sources left0_Bundle left0_Path),(qa.mk (qb.mk left1_Course_School left1_Course_Code) left1_Credits left1_Grade left1_Day left1_Sources left1_Bundle left1_Path),(qa.mk (qb.mk left2_Course_School left2_Course_Code) left2_Credits left2_Grade left2_Day left2_Sources left2_Bundle left2_Path)] ((qa.mk (qb.mk b0_0_Course_School b0_0_Course_Code) b0_0_Credits b0_0_Grade b0_0_Day b0_0_Sources b0_0_Bundle b0_0_Path)).Course.School ((qa.mk (qb.mk b0_0_Course_School b0_0_Course_Code) b0_0_Credits b0_0_Grade b0_0_Day b0_0_Sources b0_0_Bundle b0_0_Path)).Course.Code ((qa.mk (qb.mk b0_0_Course_School b0_0_Course_Code) b0_0_Credits b0_0_Grade b0_0_Day b0_0_Sources b0_0_Bundle b0_0_Path)).Credits ((qa.mk (qb.mk b0_0_Course_School b0_0_Course_Code) b0_0_Credits b0_0_Grade b0_0_Day b0_0_Sources b0_0_Bundle b0_0_Path)).Grade ((qa.mk (qb.mk b0_0_Course_School b0_0_Course_Code) b0_0_Credits b0_0_Grade b0_0_Day b0_0_Sources b0_0_Bundle b0_0_Path)).Day ((qa.mk (qb.mk b0_0_Course_School b0_0_Course_Code) b0_0_Credits b0_0_Grade b0_0_Day b0_0_Sources b0_0_Bundle b0_0_Path)).Sources ((qa.mk (qb.mk b0_0_Course_School b0_0_Course_Code) b0_0_Credits b0_0_Grade b0_0_Day b0_0_Sources b0_0_Bundle b0_0_Path)).Bundle ((qa.mk (qb.mk b0_0_Course_School b0_0_Course_Code) b0_0_Credits b0_0_Grade b0_0_Day b0_0_Sources b0_0_Bundle b0_0_Path)).Path ((qa.mk (qb.mk b0_1_Course_School b0_1_Course_Code) b0_1_Credits b0_1_Grade b0_1_Day b0_1_Sources b0_1_Bundle b0_1_Path)).Course.School ((qa.mk (qb.mk b0_1_Course_School b0_1_Course_Code) b0_1_Credits b0_1_Grade b0_1_Day b0_1_Sources b0_1_Bundle b0_1_Path)).Course.Code ((qa.mk (qb.mk b0_1_Course_School b0_1_Course_Code) b0_1_Credits b0_1_Grade b0_1_Day b0_1_Sources b0_1_Bundle b0_1_Path)).Credits ((qa.mk (qb.mk b0_1_Course_School b0_1_Course_Code) b0_1_Credits b0_1_Grade b0_1_Day b0_1_Sources b0_1_Bundle b0_1_Path)).Grade ((qa.mk (qb.mk b0_1_Course_School b0_1_Course_Code) b0_1_Credits b0_1_Grade b0_1_Day b0_1_Sources b0_1_Bundle b0_1_Path)).Day ((qa.mk (qb.mk b0_1_Course_School b0_1_Course_Code) b0_1_Credits b0_1_Grade b0_1_Day b0_1_Sources b0_1_Bundle b0_1_Path)).Sources ((qa.mk (qb.mk b0_1_Course_School b0_1_Course_Code) b0_1_Credits b0_1_Grade b0_1_Day b0_1_Sources b0_1_Bundle b0_1_Path)).Bundle ((qa.mk (qb.mk b0_1_Course_School b0_1_Course_Code) b0_1_Credits b0_1_Grade b0_1_Day b0_1_Sources b0_1_Bundle b0_1_Path)).Path ((qa.mk (qb.mk b0_2_Course_School b0_2_Course_Code) b0_2_Credits b0_2_Grade b0_2_Day b0_2_Sources b0_2_Bundle b0_2_Path)).Course.School ((qa.mk (qb.mk b0_2_Course_School b0_2_Course_Code) b0_2_Credits b0_2_Grade b0_2_Day b0_2_Sources b0_2_Bundle b0_2_Path)).Course.Code ((qa.mk (qb.mk b0_2_Course_School b0_2_Course_Code) b0_2_Credits b0_2_Grade b0_2_Day b0_2_Sources b0_2_Bundle b0_2_Path)).Credits ((qa.mk (qb.mk b0_2_Course_School b0_2_Course_Code) b0_2_Credits b0_2_Grade b0_2_Day b0_2_Sources b0_2_Bundle b0_2_Path)).Grade ((qa.mk (qb.mk b0_2_Course_School b0_2_Course_Code) b0_2_Credits b0_2_Grade b0_2_Day b0_2_Sources b0_2_Bundle b0_2_Path)).Day ((qa.mk (qb.mk b0_2_Course_School b0_2_Course_Code) b0_2_Credits b0_2_Grade b0_2_Day b0_2_Sources b0_2_Bundle b0_2_Path)).Sources ((qa.mk (qb.mk b0_2_Course_School b0_2_Course_Code) b0_2_Credits b0_2_Grade b0_2_Day b0_2_Sources b0_2_Bundle b0_2_Path)).Bundle ((qa.mk (qb.mk b0_2_Course_School b0_2_Course_Code) b0_2_Credits b0_2_Grade b0_2_Day b0_2_Sources b0_2_Bundle b0_2_Path)).Path ((qe.mk s_Worst s_Best s_Pass)).Worst ((qe.mk s_Worst s_Best s_Pass)).Best ((qe.mk s_Worst s_Best s_Pass)).Pass k _ rfl
 first
  | exact h
  | (simp only[rL,dL,bR,bZ,Nat.reduceAdd] at h;exact h)
theorem J4:∀(left0_Course_School:Int) (left0_Course_Code:ByteArray) (left0_Credits left0_Grade left0_Day:Int) (left0_Sources:List Int) (left0_Bundle:Int) (left0_Path:List Int) (left1_Course_School:Int) (left1_Course_Code:ByteArray) (left1_Credits left1_Grade left1_Day:Int) (left1_Sources:List Int) (left1_Bundle:Int) (left1_Path:List Int) (b0_0_Course_School:Int) (b0_0_Course_Code:ByteArray) (b0_0_Credits b0_0_Grade b0_0_Day:Int) (b0_0_Sources:List Int) (b0_0_Bundle:Int) (b0_0_Path:List Int) (b0_1_Course_School:Int) (b0_1_Course_Code:ByteArray) (b0_1_Credits b0_1_Grade b0_1_Day:Int) (b0_1_Sources:List Int) (b0_1_Bundle:Int) (b0_1_Path:List Int) (b0_2_Course_School:Int) (b0_2_Course_Code:ByteArray) (b0_2_Credits b0_2_Grade b0_2_Day:Int) (b0_2_Sources:List Int) (b0_2_Bundle:Int) (b0_2_Path:List Int) (s_Worst s_Best s_Pass k:Int),XL2 evo 11 1 9 ⟨[(6,rP 1),(10,rO 2 8 2),(13,rI k)],[(0,B.blk 52 [dI b0_0_Course_School,dS b0_0_Course_Code,dI b0_0_Credits,dI b0_0_Grade,dI b0_0_Day,dL 1 eI b0_0_Sources,dI b0_0_Bundle,dL 1 eI b0_0_Path,dI b0_1_Course_School,dS b0_1_Course_Code,dI b0_1_Credits,dI b0_1_Grade,dI b0_1_Day,dL 1 eI b0_1_Sources,dI b0_1_Bundle,dL 1 eI b0_1_Path,dI b0_2_Course_School,dS b0_2_Course_Code,dI b0_2_Credits,dI b0_2_Grade,dI b0_2_Day,dL 1 eI b0_2_Sources,dI b0_2_Bundle,dL 1 eI b0_2_Path]),(1,B.blk 30 [dI s_Worst,dI s_Best,dI s_Pass]),(2,B.row 52 8 [dI left0_Course_School,dS left0_Course_Code,dI left0_Credits,dI left0_Grade,dI left0_Day,dL 1 eI left0_Sources,dI left0_Bundle,dL 1 eI left0_Path,dI left1_Course_School,dS left1_Course_Code,dI left1_Credits,dI left1_Grade,dI left1_Day,dL 1 eI left1_Sources,dI left1_Bundle,dL 1 eI left1_Path])],3,53⟩=(qB (qk (qa.mk (qb.mk b0_0_Course_School b0_0_Course_Code) b0_0_Credits b0_0_Grade b0_0_Day b0_0_Sources b0_0_Bundle b0_0_Path) (qa.mk (qb.mk b0_1_Course_School b0_1_Course_Code) b0_1_Credits b0_1_Grade b0_1_Day b0_1_Sources b0_1_Bundle b0_1_Path) (qa.mk (qb.mk b0_2_Course_School b0_2_Course_Code) b0_2_Credits b0_2_Grade b0_2_Day b0_2_Sources b0_2_Bundle b0_2_Path) (qe.mk s_Worst s_Best s_Pass)) ([(qa.mk (qb.mk left0_Course_School left0_Course_Code) left0_Credits left0_Grade left0_Day left0_Sources left0_Bundle left0_Path),(qa.mk (qb.mk left1_Course_School left1_Course_Code) left1_Credits left1_Grade left1_Day left1_Sources left1_Bundle left1_Path)],k)).bind (fun(e:List qa)=>some (Exit.exit 2,⟨[(10,rO 1 8 e.length)],[(0,B.blk 52 [dI b0_0_Course_School,dS b0_0_Course_Code,dI b0_0_Credits,dI b0_0_Grade,dI b0_0_Day,dL 1 eI b0_0_Sources,dI b0_0_Bundle,dL 1 eI b0_0_Path,dI b0_1_Course_School,dS b0_1_Course_Code,dI b0_1_Credits,dI b0_1_Grade,dI b0_1_Day,dL 1 eI b0_1_Sources,dI b0_1_Bundle,dL 1 eI b0_1_Path,dI b0_2_Course_School,dS b0_2_Course_Code,dI b0_2_Credits,dI b0_2_Grade,dI b0_2_Day,dL 1 eI b0_2_Sources,dI b0_2_Bundle,dL 1 eI b0_2_Path]),(1,bR 52 8 qc e)],2,53⟩)):=by
 intro left0_Course_School left0_Course_Code left0_Credits left0_Grade left0_Day left0_Sources left0_Bundle left0_Path left1_Course_School left1_Course_Code left1_Credits left1_Grade left1_Day left1_Sources left1_Bundle left1_Path b0_0_Course_School b0_0_Course_Code b0_0_Credits b0_0_Grade b0_0_Day b0_0_Sources b0_0_Bundle b0_0_Path b0_1_Course_School b0_1_Course_Code b0_1_Credits b0_1_Grade b0_1_Day b0_1_Sources b0_1_Bundle b0_1_Path b0_2_Course_School b0_2_Course_Code b0_2_Credits b0_2_Grade b0_2_Day b0_2_Sources b0_2_Bundle b0_2_Path s_Worst s_Best s_Pass k;have h:=qY [(qa.mk (qb.mk left0_Course_School left0_Course_Code) left0_Credits left0_Grade left0_Day left0_Sources left0_Bundle left0_Path),(qa.mk (qb.mk left1_Course_School left1_Course_Code) left1_Credits left1_Grade left1_Day left1_Sources left1_Bundle left1_Path)] ((qa.mk (qb.mk b0_0_Course_School b0_0_Course_Code) b0_0_Credits b0_0_Grade b0_0_Day b0_0_Sources b0_0_Bundle b0_0_Path)).Course.School ((qa.mk (qb.mk b0_0_Course_School b0_0_Course_Code) b0_0_Credits b0_0_Grade b0_0_Day b0_0_Sources b0_0_Bundle b0_0_Path)).Course.Code ((qa.mk (qb.mk b0_0_Course_School b0_0_Course_Code) b0_0_Credits b0_0_Grade b0_0_Day b0_0_Sources b0_0_Bundle b0_0_Path)).Credits ((qa.mk (qb.mk b0_0_Course_School b0_0_Course_Code) b0_0_Credits b0_0_Grade b0_0_Day b0_0_Sources b0_0_Bundle b0_0_Path)).Grade ((qa.mk (qb.mk b0_0_Course_School b0_0_Course_Code) b0_0_Credits b0_0_Grade b0_0_Day b0_0_Sources b0_0_Bundle b0_0_Path)).Day ((qa.mk (qb.mk b0_0_Course_School b0_0_Course_Code) b0_0_Credits b0_0_Grade b0_0_Day b0_0_Sources b0_0_Bundle b0_0_Path)).Sources ((qa.mk (qb.mk b0_0_Course_School b0_0_Course_Code) b0_0_Credits b0_0_Grade b0_0_Day b0_0_Sources b0_0_Bundle b0_0_Path)).Bundle ((qa.mk (qb.mk b0_0_Course_School b0_0_Course_Code) b0_0_Credits b0_0_Grade b0_0_Day b0_0_Sources b0_0_Bundle b0_0_Path)).Path ((qa.mk (qb.mk b0_1_Course_School b0_1_Course_Code) b0_1_Credits b0_1_Grade b0_1_Day b0_1_Sources b0_1_Bundle b0_1_Path)).Course.School ((qa.mk (qb.mk b0_1_Course_School b0_1_Course_Code) b0_1_Credits b0_1_Grade b0_1_Day b0_1_Sources b0_1_Bundle b0_1_Path)).Course.Code ((qa.mk (qb.mk b0_1_Course_School b0_1_Course_Code) b0_1_Credits b0_1_Grade b0_1_Day b0_1_Sources b0_1_Bundle b0_1_Path)).Credits ((qa.mk (qb.mk b0_1_Course_School b0_1_Course_Code) b0_1_Credits b0_1_Grade b0_1_Day b0_1_Sources b0_1_Bundle b0_1_Path)).Grade ((qa.mk (qb.mk b0_1_Course_School b0_1_Course_Code) b0_1_Credits b0_1_Grade b0_1_Day b0_1_Sources b0_1_Bundle b0_1_Path)).Day ((qa.mk (qb.mk b0_1_Course_School b0_1_Course_Code) b0_1_Credits b0_1_Grade b0_1_Day b0_1_Sources b0_1_Bundle b0_1_Path)).Sources ((qa.mk (qb.mk b0_1_Course_School b0_1_Course_Code) b0_1_Credits b0_1_Grade b0_1_Day b0_1_Sources b0_1_Bundle b0_1_Path)).Bundle ((qa.mk (qb.mk b0_1_Course_School b0_1_Course_Code) b0_1_Credits b0_1_Grade b0_1_Day b0_1_Sources b0_1_Bundle b0_1_Path)).Path ((qa.mk (qb.mk b0_2_Course_School b0_2_Course_Code) b0_2_Credits b0_2_Grade b0_2_Day b0_2_Sources b0_2_Bundle b0_2_Path)).Course.School ((qa.mk (qb.mk b0_2_Course_School b0_2_Course_Code) b0_2_Credits b0_2_Grade b0_2_Day b0_2_Sources b0_2_Bundle b0_2_Path)).Course.Code ((qa.mk (qb.mk b0_2_Course_School b0_2_Course_Code) b0_2_Credits b0_2_Grade b0_2_Day b0_2_Sources b0_2_Bundle b0_2_Path)).Credits ((qa.mk (qb.mk b0_2_Course_School b0_2_Course_Code) b0_2_Credits b0_2_Grade b0_2_Day b0_2_Sources b0_2_Bundle b0_2_Path)).Grade ((qa.mk (qb.mk b0_2_Course_School b0_2_Course_Code) b0_2_Credits b0_2_Grade b0_2_Day b0_2_Sources b0_2_Bundle b0_2_Path)).Day ((qa.mk (qb.mk b0_2_Course_School b0_2_Course_Code) b0_2_Credits b0_2_Grade b0_2_Day b0_2_Sources b0_2_Bundle b0_2_Path)).Sources ((qa.mk (qb.mk b0_2_Course_School b0_2_Course_Code) b0_2_Credits b0_2_Grade b0_2_Day b0_2_Sources b0_2_Bundle b0_2_Path)).Bundle ((qa.mk (qb.mk b0_2_Course_School b0_2_Course_Code) b0_2_Credits b0_2_Grade b0_2_Day b0_2_Sources b0_2_Bundle b0_2_Path)).Path ((qe.mk s_Worst s_Best s_Pass)).Worst ((qe.mk s_Worst s_Best s_Pass)).Best ((qe.mk s_Worst s_Best s_Pass)).Pass k _ rfl
 first
  | exact h
  | (simp only[rL,dL,bR,bZ,Nat.reduceAdd] at h;exact h)
theorem J1:∀(left0_Course_School:Int) (left0_Course_Code:ByteArray) (left0_Credits left0_Grade left0_Day:Int) (left0_Sources:List Int) (left0_Bundle:Int) (left0_Path:List Int) (b0_0_Course_School:Int) (b0_0_Course_Code:ByteArray) (b0_0_Credits b0_0_Grade b0_0_Day:Int) (b0_0_Sources:List Int) (b0_0_Bundle:Int) (b0_0_Path:List Int) (b0_1_Course_School:Int) (b0_1_Course_Code:ByteArray) (b0_1_Credits b0_1_Grade b0_1_Day:Int) (b0_1_Sources:List Int) (b0_1_Bundle:Int) (b0_1_Path:List Int) (b0_2_Course_School:Int) (b0_2_Course_Code:ByteArray) (b0_2_Credits b0_2_Grade b0_2_Day:Int) (b0_2_Sources:List Int) (b0_2_Bundle:Int) (b0_2_Path:List Int) (s_Worst s_Best s_Pass k:Int),XL2 evo 11 1 9 ⟨[(6,rP 1),(10,rO 2 8 1),(13,rI k)],[(0,B.blk 52 [dI b0_0_Course_School,dS b0_0_Course_Code,dI b0_0_Credits,dI b0_0_Grade,dI b0_0_Day,dL 1 eI b0_0_Sources,dI b0_0_Bundle,dL 1 eI b0_0_Path,dI b0_1_Course_School,dS b0_1_Course_Code,dI b0_1_Credits,dI b0_1_Grade,dI b0_1_Day,dL 1 eI b0_1_Sources,dI b0_1_Bundle,dL 1 eI b0_1_Path,dI b0_2_Course_School,dS b0_2_Course_Code,dI b0_2_Credits,dI b0_2_Grade,dI b0_2_Day,dL 1 eI b0_2_Sources,dI b0_2_Bundle,dL 1 eI b0_2_Path]),(1,B.blk 30 [dI s_Worst,dI s_Best,dI s_Pass]),(2,B.row 52 8 [dI left0_Course_School,dS left0_Course_Code,dI left0_Credits,dI left0_Grade,dI left0_Day,dL 1 eI left0_Sources,dI left0_Bundle,dL 1 eI left0_Path])],3,53⟩=(qB (qk (qa.mk (qb.mk b0_0_Course_School b0_0_Course_Code) b0_0_Credits b0_0_Grade b0_0_Day b0_0_Sources b0_0_Bundle b0_0_Path) (qa.mk (qb.mk b0_1_Course_School b0_1_Course_Code) b0_1_Credits b0_1_Grade b0_1_Day b0_1_Sources b0_1_Bundle b0_1_Path) (qa.mk (qb.mk b0_2_Course_School b0_2_Course_Code) b0_2_Credits b0_2_Grade b0_2_Day b0_2_Sources b0_2_Bundle b0_2_Path) (qe.mk s_Worst s_Best s_Pass)) ([(qa.mk (qb.mk left0_Course_School left0_Course_Code) left0_Credits left0_Grade left0_Day left0_Sources left0_Bundle left0_Path)],k)).bind (fun(e:List qa)=>some (Exit.exit 2,⟨[(10,rO 1 8 e.length)],[(0,B.blk 52 [dI b0_0_Course_School,dS b0_0_Course_Code,dI b0_0_Credits,dI b0_0_Grade,dI b0_0_Day,dL 1 eI b0_0_Sources,dI b0_0_Bundle,dL 1 eI b0_0_Path,dI b0_1_Course_School,dS b0_1_Course_Code,dI b0_1_Credits,dI b0_1_Grade,dI b0_1_Day,dL 1 eI b0_1_Sources,dI b0_1_Bundle,dL 1 eI b0_1_Path,dI b0_2_Course_School,dS b0_2_Course_Code,dI b0_2_Credits,dI b0_2_Grade,dI b0_2_Day,dL 1 eI b0_2_Sources,dI b0_2_Bundle,dL 1 eI b0_2_Path]),(1,bR 52 8 qc e)],2,53⟩)):=by
 intro left0_Course_School left0_Course_Code left0_Credits left0_Grade left0_Day left0_Sources left0_Bundle left0_Path b0_0_Course_School b0_0_Course_Code b0_0_Credits b0_0_Grade b0_0_Day b0_0_Sources b0_0_Bundle b0_0_Path b0_1_Course_School b0_1_Course_Code b0_1_Credits b0_1_Grade b0_1_Day b0_1_Sources b0_1_Bundle b0_1_Path b0_2_Course_School b0_2_Course_Code b0_2_Credits b0_2_Grade b0_2_Day b0_2_Sources b0_2_Bundle b0_2_Path s_Worst s_Best s_Pass k;have h:=qY [(qa.mk (qb.mk left0_Course_School left0_Course_Code) left0_Credits left0_Grade left0_Day left0_Sources left0_Bundle left0_Path)] ((qa.mk (qb.mk b0_0_Course_School b0_0_Course_Code) b0_0_Credits b0_0_Grade b0_0_Day b0_0_Sources b0_0_Bundle b0_0_Path)).Course.School ((qa.mk (qb.mk b0_0_Course_School b0_0_Course_Code) b0_0_Credits b0_0_Grade b0_0_Day b0_0_Sources b0_0_Bundle b0_0_Path)).Course.Code ((qa.mk (qb.mk b0_0_Course_School b0_0_Course_Code) b0_0_Credits b0_0_Grade b0_0_Day b0_0_Sources b0_0_Bundle b0_0_Path)).Credits ((qa.mk (qb.mk b0_0_Course_School b0_0_Course_Code) b0_0_Credits b0_0_Grade b0_0_Day b0_0_Sources b0_0_Bundle b0_0_Path)).Grade ((qa.mk (qb.mk b0_0_Course_School b0_0_Course_Code) b0_0_Credits b0_0_Grade b0_0_Day b0_0_Sources b0_0_Bundle b0_0_Path)).Day ((qa.mk (qb.mk b0_0_Course_School b0_0_Course_Code) b0_0_Credits b0_0_Grade b0_0_Day b0_0_Sources b0_0_Bundle b0_0_Path)).Sources ((qa.mk (qb.mk b0_0_Course_School b0_0_Course_Code) b0_0_Credits b0_0_Grade b0_0_Day b0_0_Sources b0_0_Bundle b0_0_Path)).Bundle ((qa.mk (qb.mk b0_0_Course_School b0_0_Course_Code) b0_0_Credits b0_0_Grade b0_0_Day b0_0_Sources b0_0_Bundle b0_0_Path)).Path ((qa.mk (qb.mk b0_1_Course_School b0_1_Course_Code) b0_1_Credits b0_1_Grade b0_1_Day b0_1_Sources b0_1_Bundle b0_1_Path)).Course.School ((qa.mk (qb.mk b0_1_Course_School b0_1_Course_Code) b0_1_Credits b0_1_Grade b0_1_Day b0_1_Sources b0_1_Bundle b0_1_Path)).Course.Code ((qa.mk (qb.mk b0_1_Course_School b0_1_Course_Code) b0_1_Credits b0_1_Grade b0_1_Day b0_1_Sources b0_1_Bundle b0_1_Path)).Credits ((qa.mk (qb.mk b0_1_Course_School b0_1_Course_Code) b0_1_Credits b0_1_Grade b0_1_Day b0_1_Sources b0_1_Bundle b0_1_Path)).Grade ((qa.mk (qb.mk b0_1_Course_School b0_1_Course_Code) b0_1_Credits b0_1_Grade b0_1_Day b0_1_Sources b0_1_Bundle b0_1_Path)).Day ((qa.mk (qb.mk b0_1_Course_School b0_1_Course_Code) b0_1_Credits b0_1_Grade b0_1_Day b0_1_Sources b0_1_Bundle b0_1_Path)).Sources ((qa.mk (qb.mk b0_1_Course_School b0_1_Course_Code) b0_1_Credits b0_1_Grade b0_1_Day b0_1_Sources b0_1_Bundle b0_1_Path)).Bundle ((qa.mk (qb.mk b0_1_Course_School b0_1_Course_Code) b0_1_Credits b0_1_Grade b0_1_Day b0_1_Sources b0_1_Bundle b0_1_Path)).Path ((qa.mk (qb.mk b0_2_Course_School b0_2_Course_Code) b0_2_Credits b0_2_Grade b0_2_Day b0_2_Sources b0_2_Bundle b0_2_Path)).Course.School ((qa.mk (qb.mk b0_2_Course_School b0_2_Course_Code) b0_2_Credits b0_2_Grade b0_2_Day b0_2_Sources b0_2_Bundle b0_2_Path)).Course.Code ((qa.mk (qb.mk b0_2_Course_School b0_2_Course_Code) b0_2_Credits b0_2_Grade b0_2_Day b0_2_Sources b0_2_Bundle b0_2_Path)).Credits ((qa.mk (qb.mk b0_2_Course_School b0_2_Course_Code) b0_2_Credits b0_2_Grade b0_2_Day b0_2_Sources b0_2_Bundle b0_2_Path)).Grade ((qa.mk (qb.mk b0_2_Course_School b0_2_Course_Code) b0_2_Credits b0_2_Grade b0_2_Day b0_2_Sources b0_2_Bundle b0_2_Path)).Day ((qa.mk (qb.mk b0_2_Course_School b0_2_Course_Code) b0_2_Credits b0_2_Grade b0_2_Day b0_2_Sources b0_2_Bundle b0_2_Path)).Sources ((qa.mk (qb.mk b0_2_Course_School b0_2_Course_Code) b0_2_Credits b0_2_Grade b0_2_Day b0_2_Sources b0_2_Bundle b0_2_Path)).Bundle ((qa.mk (qb.mk b0_2_Course_School b0_2_Course_Code) b0_2_Credits b0_2_Grade b0_2_Day b0_2_Sources b0_2_Bundle b0_2_Path)).Path ((qe.mk s_Worst s_Best s_Pass)).Worst ((qe.mk s_Worst s_Best s_Pass)).Best ((qe.mk s_Worst s_Best s_Pass)).Pass k _ rfl
 first
  | exact h
  | (simp only[rL,dL,bR,bZ,Nat.reduceAdd] at h;exact h)
def Q9 (l_n:Nat) (p:qf) (s:qe) (day:Int) (l_0:qa) (l_1:qa) (l_2:qa):Option (List qa×Int):=if 0<((l_n:Nat):Int) then if 0<((l_n:Nat):Int) then Option.bind (qG p l_0 day) fun(a:Bool)=>if(!a)=Bool.true then Option.bind (qv l_0) fun(a2:Unit)=>if 1≤maxLen then if 1<((l_n:Nat):Int) then if 1<((l_n:Nat):Int) then Option.bind (qG p l_1 day) fun(a3:Bool)=>if(!a3)=Bool.true then Option.bind (qv l_1) fun(a4:Unit)=>if 2≤maxLen then if 2<((l_n:Nat):Int) then if 2<((l_n:Nat):Int) then Option.bind (qG p l_2 day) fun(a5:Bool)=>if(!a5)=Bool.true then Option.bind (qv l_2) fun(a6:Unit)=>if 3≤maxLen then if 3<((l_n:Nat):Int) then none else Option.bind (qB (qk l_0 l_1 l_2 s) ([l_0,l_1,l_2],2)) fun(a7:List qa)=>if 10<((a7.length:Nat):Int) then some ([],2) else some (a7,0) else none else if 3<((l_n:Nat):Int) then none else Option.bind (qB (qk l_0 l_1 l_2 s) ([l_0,l_1],1)) fun(a8:List qa)=>if 10<((a8.length:Nat):Int) then some ([],2) else some (a8,0) else none else Option.bind (qB (qk l_0 l_1 l_2 s) ([l_0,l_1],1)) fun(a9:List qa)=>if 10<((a9.length:Nat):Int) then some ([],2) else some (a9,0) else none else if 2<((l_n:Nat):Int) then if 2<((l_n:Nat):Int) then Option.bind (qG p l_2 day) fun(a10:Bool)=>if(!a10)=Bool.true then Option.bind (qv l_2) fun(a11:Unit)=>if 2≤maxLen then if 3<((l_n:Nat):Int) then none else Option.bind (qB (qk l_0 l_1 l_2 s) ([l_0,l_2],1)) fun(a12:List qa)=>if 10<((a12.length:Nat):Int) then some ([],2) else some (a12,0) else none else if 3<((l_n:Nat):Int) then none else Option.bind (qB (qk l_0 l_1 l_2 s) ([l_0],0)) fun(a13:List qa)=>if 10<((a13.length:Nat):Int) then some ([],2) else some (a13,0) else none else Option.bind (qB (qk l_0 l_1 l_2 s) ([l_0],0)) fun(a14:List qa)=>if 10<((a14.length:Nat):Int) then some ([],2) else some (a14,0) else none else Option.bind (qB (qk l_0 l_1 l_2 s) ([l_0],0)) fun(a15:List qa)=>if 10<((a15.length:Nat):Int) then some ([],2) else some (a15,0) else none else if 1<((l_n:Nat):Int) then if 1<((l_n:Nat):Int) then Option.bind (qG p l_1 day) fun(a16:Bool)=>if(!a16)=Bool.true then Option.bind (qv l_1) fun(a17:Unit)=>if 1≤maxLen then if 2<((l_n:Nat):Int) then if 2<((l_n:Nat):Int) then Option.bind (qG p l_2 day) fun(a18:Bool)=>if(!a18)=Bool.true then Option.bind (qv l_2) fun(a19:Unit)=>if 2≤maxLen then if 3<((l_n:Nat):Int) then none else Option.bind (qB (qk l_0 l_1 l_2 s) ([l_1,l_2],1)) fun(a20:List qa)=>if 10<((a20.length:Nat):Int) then some ([],2) else some (a20,0) else none else if 3<((l_n:Nat):Int) then none else Option.bind (qB (qk l_0 l_1 l_2 s) ([l_1],0)) fun(a21:List qa)=>if 10<((a21.length:Nat):Int) then some ([],2) else some (a21,0) else none else Option.bind (qB (qk l_0 l_1 l_2 s) ([l_1],0)) fun(a22:List qa)=>if 10<((a22.length:Nat):Int) then some ([],2) else some (a22,0) else none else if 2<((l_n:Nat):Int) then if 2<((l_n:Nat):Int) then Option.bind (qG p l_2 day) fun(a23:Bool)=>if(!a23)=Bool.true then Option.bind (qv l_2) fun(a24:Unit)=>if 1≤maxLen then if 3<((l_n:Nat):Int) then none else Option.bind (qB (qk l_0 l_1 l_2 s) ([l_2],0)) fun(a25:List qa)=>if 10<((a25.length:Nat):Int) then some ([],2) else some (a25,0) else none else if 3<((l_n:Nat):Int) then none else Option.bind (qB (qk l_0 l_1 l_2 s) ([],(-1))) fun(a26:List qa)=>if 10<((a26.length:Nat):Int) then some ([],2) else some (a26,0) else none else Option.bind (qB (qk l_0 l_1 l_2 s) ([],(-1))) fun(a27:List qa)=>if 10<((a27.length:Nat):Int) then some ([],2) else some (a27,0) else none else Option.bind (qB (qk l_0 l_1 l_2 s) ([],(-1))) fun(a28:List qa)=>if 10<((a28.length:Nat):Int) then some ([],2) else some (a28,0) else none else Option.bind (qB (qk l_0 l_1 l_2 s) ([],(-1))) fun(a29:List qa)=>if 10<((a29.length:Nat):Int) then some ([],2) else some (a29,0)
theorem q1a:∀(l_n:Nat) (p_School p_Id p_Version p_From:Int) (p_Name:ByteArray) (p_Need_Kind p_Need_N p_Need_Min:Int) (p_Need_Set:List qb) (p_Need_L:List qg) (p_Total p_Own p_Age:Int) (p_Exclude:List (QM qb)) (s_Worst s_Best s_Pass day l_0_Course_School:Int) (l_0_Course_Code:ByteArray) (l_0_Credits l_0_Grade l_0_Day:Int) (l_0_Sources:List Int) (l_0_Bundle:Int) (l_0_Path:List Int) (l_1_Course_School:Int) (l_1_Course_Code:ByteArray) (l_1_Credits l_1_Grade l_1_Day:Int) (l_1_Sources:List Int) (l_1_Bundle:Int) (l_1_Path:List Int) (l_2_Course_School:Int) (l_2_Course_Code:ByteArray) (l_2_Credits l_2_Grade l_2_Day:Int) (l_2_Sources:List Int) (l_2_Bundle:Int) (l_2_Path:List Int),ev 11 1 [rO 0 8 l_n,R.agg [dI p_School,dI p_Id,dI p_Version,dI p_From,dS p_Name,dI p_Need_Kind,dI p_Need_N,dI p_Need_Min,dL 2 qj p_Need_Set,dL 5 qr p_Need_L,dI p_Total,dI p_Own,dI p_Age,dL 4 (eA2 qj) p_Exclude],R.agg [dI s_Worst,dI s_Best,dI s_Pass],rI day] [(0,B.blk 52 [dI l_0_Course_School,dS l_0_Course_Code,dI l_0_Credits,dI l_0_Grade,dI l_0_Day,dL 1 eI l_0_Sources,dI l_0_Bundle,dL 1 eI l_0_Path,dI l_1_Course_School,dS l_1_Course_Code,dI l_1_Credits,dI l_1_Grade,dI l_1_Day,dL 1 eI l_1_Sources,dI l_1_Bundle,dL 1 eI l_1_Path,dI l_2_Course_School,dS l_2_Course_Code,dI l_2_Credits,dI l_2_Grade,dI l_2_Day,dL 1 eI l_2_Sources,dI l_2_Bundle,dL 1 eI l_2_Path])]=(Q9 l_n (qf.mk p_School p_Id p_Version p_From p_Name (qg.mk p_Need_Kind p_Need_N p_Need_Min p_Need_Set p_Need_L) p_Total p_Own p_Age p_Exclude) (qe.mk s_Worst s_Best s_Pass) day (qa.mk (qb.mk l_0_Course_School l_0_Course_Code) l_0_Credits l_0_Grade l_0_Day l_0_Sources l_0_Bundle l_0_Path) (qa.mk (qb.mk l_1_Course_School l_1_Course_Code) l_1_Credits l_1_Grade l_1_Day l_1_Sources l_1_Bundle l_1_Path) (qa.mk (qb.mk l_2_Course_School l_2_Course_Code) l_2_Credits l_2_Grade l_2_Day l_2_Sources l_2_Bundle l_2_Path)).bind (fun(e:List qa×Int)=>some (R.tup [rL 8 qc e.1,rI e.2],[(0,B.blk 52 [dI l_0_Course_School,dS l_0_Course_Code,dI l_0_Credits,dI l_0_Grade,dI l_0_Day,dL 1 eI l_0_Sources,dI l_0_Bundle,dL 1 eI l_0_Path,dI l_1_Course_School,dS l_1_Course_Code,dI l_1_Credits,dI l_1_Grade,dI l_1_Day,dL 1 eI l_1_Sources,dI l_1_Bundle,dL 1 eI l_1_Path,dI l_2_Course_School,dS l_2_Course_Code,dI l_2_Credits,dI l_2_Grade,dI l_2_Day,dL 1 eI l_2_Sources,dI l_2_Bundle,dL 1 eI l_2_Path])])):=
 fun l_n p_School p_Id p_Version p_From p_Name p_Need_Kind p_Need_N p_Need_Min p_Need_Set p_Need_L p_Total p_Own p_Age p_Exclude s_Worst s_Best s_Pass day l_0_Course_School l_0_Course_Code l_0_Credits l_0_Grade l_0_Day l_0_Sources l_0_Bundle l_0_Path l_1_Course_School l_1_Course_Code l_1_Credits l_1_Grade l_1_Day l_1_Sources l_1_Bundle l_1_Path l_2_Course_School l_2_Course_Code l_2_Credits l_2_Grade l_2_Day l_2_Sources l_2_Bundle l_2_Path=>by
  rw[qR qjq qoQ.2.2.2 qof]
  have:=qo7;have:=@q0v;have:=@ZW;have:=@Jt;have:=@J5;have:=@Jc;have:=@Ja;have:=@Q9.eq_1;have:=fun(E:Orc) (k:Nat) (s:S)=>q75 (E:=E) (k:=k) (s:=s) qfY qgi;have:=@q8m.eq_1;have:=@q3Q;have:=@q6X;have:=@qbP;have:=@q76;have:=@qbA;have:=@q6J;have:=@qaG;exact gA
theorem JY:∀(p_School p_Id p_Version p_From:Int) (p_Name:ByteArray) (p_Need_Kind p_Need_N p_Need_Min p_Total p_Own p_Age l_0_Course_School:Int) (l_0_Course_Code:ByteArray) (l_0_Credits l_0_Grade l_0_Day l_0_Sources0 l_0_Bundle l_1_Course_School:Int) (l_1_Course_Code:ByteArray) (l_1_Credits l_1_Grade l_1_Day l_1_Sources0 l_1_Bundle l_2_Course_School:Int) (l_2_Course_Code:ByteArray) (l_2_Credits l_2_Grade l_2_Day l_2_Sources0 l_2_Bundle:Int) (l_n:Nat) (s_Worst s_Best s_Pass day:Int),ev 11 1 [rO 0 8 l_n,R.agg [dI p_School,dI p_Id,dI p_Version,dI p_From,dS p_Name,dI p_Need_Kind,dI p_Need_N,dI p_Need_Min,C.d (D.sl 2 0 []),C.d (D.sl 5 0 []),dI p_Total,dI p_Own,dI p_Age,C.d (D.sl 4 0 [])],R.agg [dI s_Worst,dI s_Best,dI s_Pass],rI day] [(0,B.blk 52 [dI l_0_Course_School,dS l_0_Course_Code,dI l_0_Credits,dI l_0_Grade,dI l_0_Day,C.d (D.sl 1 1 [D.int .i64 l_0_Sources0]),dI l_0_Bundle,C.d (D.sl 1 0 []),dI l_1_Course_School,dS l_1_Course_Code,dI l_1_Credits,dI l_1_Grade,dI l_1_Day,C.d (D.sl 1 1 [D.int .i64 l_1_Sources0]),dI l_1_Bundle,C.d (D.sl 1 0 []),dI l_2_Course_School,dS l_2_Course_Code,dI l_2_Credits,dI l_2_Grade,dI l_2_Day,C.d (D.sl 1 1 [D.int .i64 l_2_Sources0]),dI l_2_Bundle,C.d (D.sl 1 0 [])])]=(Q9 l_n (qf.mk p_School p_Id p_Version p_From p_Name (qg.mk p_Need_Kind p_Need_N p_Need_Min [] []) p_Total p_Own p_Age []) (qe.mk s_Worst s_Best s_Pass) day (qa.mk (qb.mk l_0_Course_School l_0_Course_Code) l_0_Credits l_0_Grade l_0_Day [l_0_Sources0] l_0_Bundle []) (qa.mk (qb.mk l_1_Course_School l_1_Course_Code) l_1_Credits l_1_Grade l_1_Day [l_1_Sources0] l_1_Bundle []) (qa.mk (qb.mk l_2_Course_School l_2_Course_Code) l_2_Credits l_2_Grade l_2_Day [l_2_Sources0] l_2_Bundle [])).bind (fun(e:List qa×Int)=>some (R.tup [rL 8 qc e.1,rI e.2],[(0,B.blk 52 [dI l_0_Course_School,dS l_0_Course_Code,dI l_0_Credits,dI l_0_Grade,dI l_0_Day,C.d (D.sl 1 [l_0_Sources0].length ([l_0_Sources0].flatMap eI)),dI l_0_Bundle,C.d (D.sl 1 ([]:List Int).length (([]:List Int).flatMap eI)),dI l_1_Course_School,dS l_1_Course_Code,dI l_1_Credits,dI l_1_Grade,dI l_1_Day,C.d (D.sl 1 [l_1_Sources0].length ([l_1_Sources0].flatMap eI)),dI l_1_Bundle,C.d (D.sl 1 ([]:List Int).length (([]:List Int).flatMap eI)),dI l_2_Course_School,dS l_2_Course_Code,dI l_2_Credits,dI l_2_Grade,dI l_2_Day,C.d (D.sl 1 [l_2_Sources0].length ([l_2_Sources0].flatMap eI)),dI l_2_Bundle,C.d (D.sl 1 ([]:List Int).length (([]:List Int).flatMap eI))])])):=by
 intro p_School p_Id p_Version p_From p_Name p_Need_Kind p_Need_N p_Need_Min p_Total p_Own p_Age l_0_Course_School l_0_Course_Code l_0_Credits l_0_Grade l_0_Day l_0_Sources0 l_0_Bundle l_1_Course_School l_1_Course_Code l_1_Credits l_1_Grade l_1_Day l_1_Sources0 l_1_Bundle l_2_Course_School l_2_Course_Code l_2_Credits l_2_Grade l_2_Day l_2_Sources0 l_2_Bundle l_n s_Worst s_Best s_Pass day;have h:=q1a l_n ((qf.mk p_School p_Id p_Version p_From p_Name (qg.mk p_Need_Kind p_Need_N p_Need_Min [] []) p_Total p_Own p_Age [])).School ((qf.mk p_School p_Id p_Version p_From p_Name (qg.mk p_Need_Kind p_Need_N p_Need_Min [] []) p_Total p_Own p_Age [])).Id ((qf.mk p_School p_Id p_Version p_From p_Name (qg.mk p_Need_Kind p_Need_N p_Need_Min [] []) p_Total p_Own p_Age [])).Version ((qf.mk p_School p_Id p_Version p_From p_Name (qg.mk p_Need_Kind p_Need_N p_Need_Min [] []) p_Total p_Own p_Age [])).From ((qf.mk p_School p_Id p_Version p_From p_Name (qg.mk p_Need_Kind p_Need_N p_Need_Min [] []) p_Total p_Own p_Age [])).Name ((qf.mk p_School p_Id p_Version p_From p_Name (qg.mk p_Need_Kind p_Need_N p_Need_Min [] []) p_Total p_Own p_Age [])).Need.Kind ((qf.mk p_School p_Id p_Version p_From p_Name (qg.mk p_Need_Kind p_Need_N p_Need_Min [] []) p_Total p_Own p_Age [])).Need.N ((qf.mk p_School p_Id p_Version p_From p_Name (qg.mk p_Need_Kind p_Need_N p_Need_Min [] []) p_Total p_Own p_Age [])).Need.Min ((qf.mk p_School p_Id p_Version p_From p_Name (qg.mk p_Need_Kind p_Need_N p_Need_Min [] []) p_Total p_Own p_Age [])).Need.Set ((qf.mk p_School p_Id p_Version p_From p_Name (qg.mk p_Need_Kind p_Need_N p_Need_Min [] []) p_Total p_Own p_Age [])).Need.L ((qf.mk p_School p_Id p_Version p_From p_Name (qg.mk p_Need_Kind p_Need_N p_Need_Min [] []) p_Total p_Own p_Age [])).Total ((qf.mk p_School p_Id p_Version p_From p_Name (qg.mk p_Need_Kind p_Need_N p_Need_Min [] []) p_Total p_Own p_Age [])).Own ((qf.mk p_School p_Id p_Version p_From p_Name (qg.mk p_Need_Kind p_Need_N p_Need_Min [] []) p_Total p_Own p_Age [])).Age ((qf.mk p_School p_Id p_Version p_From p_Name (qg.mk p_Need_Kind p_Need_N p_Need_Min [] []) p_Total p_Own p_Age [])).Exclude ((qe.mk s_Worst s_Best s_Pass)).Worst ((qe.mk s_Worst s_Best s_Pass)).Best ((qe.mk s_Worst s_Best s_Pass)).Pass day ((qa.mk (qb.mk l_0_Course_School l_0_Course_Code) l_0_Credits l_0_Grade l_0_Day [l_0_Sources0] l_0_Bundle [])).Course.School ((qa.mk (qb.mk l_0_Course_School l_0_Course_Code) l_0_Credits l_0_Grade l_0_Day [l_0_Sources0] l_0_Bundle [])).Course.Code ((qa.mk (qb.mk l_0_Course_School l_0_Course_Code) l_0_Credits l_0_Grade l_0_Day [l_0_Sources0] l_0_Bundle [])).Credits ((qa.mk (qb.mk l_0_Course_School l_0_Course_Code) l_0_Credits l_0_Grade l_0_Day [l_0_Sources0] l_0_Bundle [])).Grade ((qa.mk (qb.mk l_0_Course_School l_0_Course_Code) l_0_Credits l_0_Grade l_0_Day [l_0_Sources0] l_0_Bundle [])).Day ((qa.mk (qb.mk l_0_Course_School l_0_Course_Code) l_0_Credits l_0_Grade l_0_Day [l_0_Sources0] l_0_Bundle [])).Sources ((qa.mk (qb.mk l_0_Course_School l_0_Course_Code) l_0_Credits l_0_Grade l_0_Day [l_0_Sources0] l_0_Bundle [])).Bundle ((qa.mk (qb.mk l_0_Course_School l_0_Course_Code) l_0_Credits l_0_Grade l_0_Day [l_0_Sources0] l_0_Bundle [])).Path ((qa.mk (qb.mk l_1_Course_School l_1_Course_Code) l_1_Credits l_1_Grade l_1_Day [l_1_Sources0] l_1_Bundle [])).Course.School ((qa.mk (qb.mk l_1_Course_School l_1_Course_Code) l_1_Credits l_1_Grade l_1_Day [l_1_Sources0] l_1_Bundle [])).Course.Code ((qa.mk (qb.mk l_1_Course_School l_1_Course_Code) l_1_Credits l_1_Grade l_1_Day [l_1_Sources0] l_1_Bundle [])).Credits ((qa.mk (qb.mk l_1_Course_School l_1_Course_Code) l_1_Credits l_1_Grade l_1_Day [l_1_Sources0] l_1_Bundle [])).Grade ((qa.mk (qb.mk l_1_Course_School l_1_Course_Code) l_1_Credits l_1_Grade l_1_Day [l_1_Sources0] l_1_Bundle [])).Day ((qa.mk (qb.mk l_1_Course_School l_1_Course_Code) l_1_Credits l_1_Grade l_1_Day [l_1_Sources0] l_1_Bundle [])).Sources ((qa.mk (qb.mk l_1_Course_School l_1_Course_Code) l_1_Credits l_1_Grade l_1_Day [l_1_Sources0] l_1_Bundle [])).Bundle ((qa.mk (qb.mk l_1_Course_School l_1_Course_Code) l_1_Credits l_1_Grade l_1_Day [l_1_Sources0] l_1_Bundle [])).Path ((qa.mk (qb.mk l_2_Course_School l_2_Course_Code) l_2_Credits l_2_Grade l_2_Day [l_2_Sources0] l_2_Bundle [])).Course.School ((qa.mk (qb.mk l_2_Course_School l_2_Course_Code) l_2_Credits l_2_Grade l_2_Day [l_2_Sources0] l_2_Bundle [])).Course.Code ((qa.mk (qb.mk l_2_Course_School l_2_Course_Code) l_2_Credits l_2_Grade l_2_Day [l_2_Sources0] l_2_Bundle [])).Credits ((qa.mk (qb.mk l_2_Course_School l_2_Course_Code) l_2_Credits l_2_Grade l_2_Day [l_2_Sources0] l_2_Bundle [])).Grade ((qa.mk (qb.mk l_2_Course_School l_2_Course_Code) l_2_Credits l_2_Grade l_2_Day [l_2_Sources0] l_2_Bundle [])).Day ((qa.mk (qb.mk l_2_Course_School l_2_Course_Code) l_2_Credits l_2_Grade l_2_Day [l_2_Sources0] l_2_Bundle [])).Sources ((qa.mk (qb.mk l_2_Course_School l_2_Course_Code) l_2_Credits l_2_Grade l_2_Day [l_2_Sources0] l_2_Bundle [])).Bundle ((qa.mk (qb.mk l_2_Course_School l_2_Course_Code) l_2_Credits l_2_Grade l_2_Day [l_2_Sources0] l_2_Bundle [])).Path
 first
  | exact h
  | (simp only[rL,dL,bR,bZ,Nat.reduceAdd] at h;exact h)
def qp (w1:List Int) (b0_0:qa) (b0_1:qa) (b0_2_Course_School:Int) (b0_2_Course_Code:ByteArray) (b0_2_Credits:Int) (b0_2_Grade:Int) (b0_2_Day:Int) (b0_2_Bundle:Int) (b0_2_Path:List Int) (s:qe):(List qa×Int)→Option ((List qa×Int)⊕(List qa))|(left,k)=>if 0≤k then Option.bind (Q2 left s k) fun(a:Bool)=>if a=Bool.true then Option.bind (qm k (w64 (k+1)) left) fun(a2:List qa)=>some (Sum.inl (a2,w64 (((a2.length:Nat):Int)-1))) else some (Sum.inl (left,w64 (k-1))) else some (Sum.inr left)
theorem Qt:∀(w1:List Int) (left:List qa) (b0_0_Course_School:Int) (b0_0_Course_Code:ByteArray) (b0_0_Credits b0_0_Grade b0_0_Day:Int) (b0_0_Sources:List Int) (b0_0_Bundle:Int) (b0_0_Path:List Int) (b0_1_Course_School:Int) (b0_1_Course_Code:ByteArray) (b0_1_Credits b0_1_Grade b0_1_Day:Int) (b0_1_Sources:List Int) (b0_1_Bundle:Int) (b0_1_Path:List Int) (b0_2_Course_School:Int) (b0_2_Course_Code:ByteArray) (b0_2_Credits b0_2_Grade b0_2_Day b0_2_Bundle:Int) (b0_2_Path:List Int) (s_Worst s_Best s_Pass k:Int) (left_len w1_len:Nat),left_len=left.length→w1_len=w1.length→XL2 evo 11 1 9 ⟨[(6,rP 2),(10,rO 3 8 left_len),(13,rI k)],[(0,B.blk 52 [dI b0_0_Course_School,dS b0_0_Course_Code,dI b0_0_Credits,dI b0_0_Grade,dI b0_0_Day,dL 1 eI b0_0_Sources,dI b0_0_Bundle,dL 1 eI b0_0_Path,dI b0_1_Course_School,dS b0_1_Course_Code,dI b0_1_Credits,dI b0_1_Grade,dI b0_1_Day,dL 1 eI b0_1_Sources,dI b0_1_Bundle,dL 1 eI b0_1_Path,dI b0_2_Course_School,dS b0_2_Course_Code,dI b0_2_Credits,dI b0_2_Grade,dI b0_2_Day,dO 1 1 w1_len,dI b0_2_Bundle,dL 1 eI b0_2_Path]),(1,bR 3 1 eI w1),(2,B.blk 30 [dI s_Worst,dI s_Best,dI s_Pass]),(3,bR 52 8 qc left)],4,53⟩=(qB (qp w1 (qa.mk (qb.mk b0_0_Course_School b0_0_Course_Code) b0_0_Credits b0_0_Grade b0_0_Day b0_0_Sources b0_0_Bundle b0_0_Path) (qa.mk (qb.mk b0_1_Course_School b0_1_Course_Code) b0_1_Credits b0_1_Grade b0_1_Day b0_1_Sources b0_1_Bundle b0_1_Path) b0_2_Course_School b0_2_Course_Code b0_2_Credits b0_2_Grade b0_2_Day b0_2_Bundle b0_2_Path (qe.mk s_Worst s_Best s_Pass)) (left,k)).bind (fun(e:List qa)=>some (Exit.exit 2,⟨[(10,rO 2 8 e.length)],[(0,B.blk 52 [dI b0_0_Course_School,dS b0_0_Course_Code,dI b0_0_Credits,dI b0_0_Grade,dI b0_0_Day,dL 1 eI b0_0_Sources,dI b0_0_Bundle,dL 1 eI b0_0_Path,dI b0_1_Course_School,dS b0_1_Course_Code,dI b0_1_Credits,dI b0_1_Grade,dI b0_1_Day,dL 1 eI b0_1_Sources,dI b0_1_Bundle,dL 1 eI b0_1_Path,dI b0_2_Course_School,dS b0_2_Course_Code,dI b0_2_Credits,dI b0_2_Grade,dI b0_2_Day,dO 1 1 w1.length,dI b0_2_Bundle,dL 1 eI b0_2_Path]),(1,bR 3 1 eI w1),(2,bR 52 8 qc e)],3,53⟩)):=
 by
 intro w1 left b0_0_Course_School b0_0_Course_Code b0_0_Credits b0_0_Grade b0_0_Day b0_0_Sources b0_0_Bundle b0_0_Path b0_1_Course_School b0_1_Course_Code b0_1_Credits b0_1_Grade b0_1_Day b0_1_Sources b0_1_Bundle b0_1_Path b0_2_Course_School b0_2_Course_Code b0_2_Credits b0_2_Grade b0_2_Day b0_2_Bundle b0_2_Path s_Worst s_Best s_Pass k left_len w1_len h0 h1
 subst h0 h1
 revert k;revert left;exact q6A qgc qgn (fun e=>by exact⟨_,rfl,fun h=>by cases h⟩) fun left k=>by
  have:=qo7;have:=@q8a.eq_1;have:=@ZR;have:=@z7;have:=@qp.eq_1;exact gA
theorem ZZ:∀  (w1:List Int) (b0_0_Course_School:Int) (b0_0_Course_Code:ByteArray) (b0_0_Credits b0_0_Grade b0_0_Day:Int) (b0_0_Sources:List Int) (b0_0_Bundle:Int) (b0_0_Path:List Int) (b0_1_Course_School:Int) (b0_1_Course_Code:ByteArray) (b0_1_Credits b0_1_Grade b0_1_Day:Int) (b0_1_Sources:List Int) (b0_1_Bundle:Int) (b0_1_Path:List Int) (b0_2_Course_School:Int) (b0_2_Course_Code:ByteArray) (b0_2_Credits b0_2_Grade b0_2_Day b0_2_Bundle:Int) (b0_2_Path:List Int) (s_Worst s_Best s_Pass k:Int) (w1_len:Nat),w1_len=w1.length→XL2 evo 11 1 9 ⟨[(6,rP 2),(10,rO 3 8 0),(13,rI k)],[(0,B.blk 52 [dI b0_0_Course_School,dS b0_0_Course_Code,dI b0_0_Credits,dI b0_0_Grade,dI b0_0_Day,dL 1 eI b0_0_Sources,dI b0_0_Bundle,dL 1 eI b0_0_Path,dI b0_1_Course_School,dS b0_1_Course_Code,dI b0_1_Credits,dI b0_1_Grade,dI b0_1_Day,dL 1 eI b0_1_Sources,dI b0_1_Bundle,dL 1 eI b0_1_Path,dI b0_2_Course_School,dS b0_2_Course_Code,dI b0_2_Credits,dI b0_2_Grade,dI b0_2_Day,dO 1 1 w1_len,dI b0_2_Bundle,dL 1 eI b0_2_Path]),(1,bR 3 1 eI w1),(2,B.blk 30 [dI s_Worst,dI s_Best,dI s_Pass]),(3,B.row 52 8 [])],4,53⟩=(qB (qp w1 (qa.mk (qb.mk b0_0_Course_School b0_0_Course_Code) b0_0_Credits b0_0_Grade b0_0_Day b0_0_Sources b0_0_Bundle b0_0_Path) (qa.mk (qb.mk b0_1_Course_School b0_1_Course_Code) b0_1_Credits b0_1_Grade b0_1_Day b0_1_Sources b0_1_Bundle b0_1_Path) b0_2_Course_School b0_2_Course_Code b0_2_Credits b0_2_Grade b0_2_Day b0_2_Bundle b0_2_Path (qe.mk s_Worst s_Best s_Pass)) ([],k)).bind (fun(e:List qa)=>some (Exit.exit 2,⟨[(10,rO 2 8 e.length)],[(0,B.blk 52 [dI b0_0_Course_School,dS b0_0_Course_Code,dI b0_0_Credits,dI b0_0_Grade,dI b0_0_Day,dL 1 eI b0_0_Sources,dI b0_0_Bundle,dL 1 eI b0_0_Path,dI b0_1_Course_School,dS b0_1_Course_Code,dI b0_1_Credits,dI b0_1_Grade,dI b0_1_Day,dL 1 eI b0_1_Sources,dI b0_1_Bundle,dL 1 eI b0_1_Path,dI b0_2_Course_School,dS b0_2_Course_Code,dI b0_2_Credits,dI b0_2_Grade,dI b0_2_Day,dO 1 1 w1.length,dI b0_2_Bundle,dL 1 eI b0_2_Path]),(1,bR 3 1 eI w1),(2,bR 52 8 qc e)],3,53⟩)):=by
 intro w1 b0_0_Course_School b0_0_Course_Code b0_0_Credits b0_0_Grade b0_0_Day b0_0_Sources b0_0_Bundle b0_0_Path b0_1_Course_School b0_1_Course_Code b0_1_Credits b0_1_Grade b0_1_Day b0_1_Sources b0_1_Bundle b0_1_Path b0_2_Course_School b0_2_Course_Code b0_2_Credits b0_2_Grade b0_2_Day b0_2_Bundle b0_2_Path s_Worst s_Best s_Pass k w1_len h0;subst h0;have h:=Qt w1 [] ((qa.mk (qb.mk b0_0_Course_School b0_0_Course_Code) b0_0_Credits b0_0_Grade b0_0_Day b0_0_Sources b0_0_Bundle b0_0_Path)).Course.School ((qa.mk (qb.mk b0_0_Course_School b0_0_Course_Code) b0_0_Credits b0_0_Grade b0_0_Day b0_0_Sources b0_0_Bundle b0_0_Path)).Course.Code ((qa.mk (qb.mk b0_0_Course_School b0_0_Course_Code) b0_0_Credits b0_0_Grade b0_0_Day b0_0_Sources b0_0_Bundle b0_0_Path)).Credits ((qa.mk (qb.mk b0_0_Course_School b0_0_Course_Code) b0_0_Credits b0_0_Grade b0_0_Day b0_0_Sources b0_0_Bundle b0_0_Path)).Grade ((qa.mk (qb.mk b0_0_Course_School b0_0_Course_Code) b0_0_Credits b0_0_Grade b0_0_Day b0_0_Sources b0_0_Bundle b0_0_Path)).Day ((qa.mk (qb.mk b0_0_Course_School b0_0_Course_Code) b0_0_Credits b0_0_Grade b0_0_Day b0_0_Sources b0_0_Bundle b0_0_Path)).Sources ((qa.mk (qb.mk b0_0_Course_School b0_0_Course_Code) b0_0_Credits b0_0_Grade b0_0_Day b0_0_Sources b0_0_Bundle b0_0_Path)).Bundle ((qa.mk (qb.mk b0_0_Course_School b0_0_Course_Code) b0_0_Credits b0_0_Grade b0_0_Day b0_0_Sources b0_0_Bundle b0_0_Path)).Path ((qa.mk (qb.mk b0_1_Course_School b0_1_Course_Code) b0_1_Credits b0_1_Grade b0_1_Day b0_1_Sources b0_1_Bundle b0_1_Path)).Course.School ((qa.mk (qb.mk b0_1_Course_School b0_1_Course_Code) b0_1_Credits b0_1_Grade b0_1_Day b0_1_Sources b0_1_Bundle b0_1_Path)).Course.Code ((qa.mk (qb.mk b0_1_Course_School b0_1_Course_Code) b0_1_Credits b0_1_Grade b0_1_Day b0_1_Sources b0_1_Bundle b0_1_Path)).Credits ((qa.mk (qb.mk b0_1_Course_School b0_1_Course_Code) b0_1_Credits b0_1_Grade b0_1_Day b0_1_Sources b0_1_Bundle b0_1_Path)).Grade ((qa.mk (qb.mk b0_1_Course_School b0_1_Course_Code) b0_1_Credits b0_1_Grade b0_1_Day b0_1_Sources b0_1_Bundle b0_1_Path)).Day ((qa.mk (qb.mk b0_1_Course_School b0_1_Course_Code) b0_1_Credits b0_1_Grade b0_1_Day b0_1_Sources b0_1_Bundle b0_1_Path)).Sources ((qa.mk (qb.mk b0_1_Course_School b0_1_Course_Code) b0_1_Credits b0_1_Grade b0_1_Day b0_1_Sources b0_1_Bundle b0_1_Path)).Bundle ((qa.mk (qb.mk b0_1_Course_School b0_1_Course_Code) b0_1_Credits b0_1_Grade b0_1_Day b0_1_Sources b0_1_Bundle b0_1_Path)).Path b0_2_Course_School b0_2_Course_Code b0_2_Credits b0_2_Grade b0_2_Day b0_2_Bundle b0_2_Path ((qe.mk s_Worst s_Best s_Pass)).Worst ((qe.mk s_Worst s_Best s_Pass)).Best ((qe.mk s_Worst s_Best s_Pass)).Pass k _ _ rfl rfl
 first
  | exact h
  | (simp only[rL,dL,bR,bZ,Nat.reduceAdd] at h;exact h)
theorem J9:∀(left0_Course_School:Int) (left0_Course_Code:ByteArray) (left0_Credits left0_Grade left0_Day:Int) (left0_Sources:List Int) (left0_Bundle:Int) (left0_Path:List Int) (left1_Course_School:Int) (left1_Course_Code:ByteArray) (left1_Credits left1_Grade left1_Day:Int) (left1_Sources:List Int) (left1_Bundle:Int) (left1_Path w1:List Int) (b0_0_Course_School:Int) (b0_0_Course_Code:ByteArray) (b0_0_Credits b0_0_Grade b0_0_Day:Int) (b0_0_Sources:List Int) (b0_0_Bundle:Int) (b0_0_Path:List Int) (b0_1_Course_School:Int) (b0_1_Course_Code:ByteArray) (b0_1_Credits b0_1_Grade b0_1_Day:Int) (b0_1_Sources:List Int) (b0_1_Bundle:Int) (b0_1_Path:List Int) (b0_2_Course_School:Int) (b0_2_Course_Code:ByteArray) (b0_2_Credits b0_2_Grade b0_2_Day b0_2_Bundle:Int) (b0_2_Path:List Int) (s_Worst s_Best s_Pass k:Int) (w1_len:Nat),w1_len=w1.length→XL2 evo 11 1 9 ⟨[(6,rP 2),(10,rO 3 8 2),(13,rI k)],[(0,B.blk 52 [dI b0_0_Course_School,dS b0_0_Course_Code,dI b0_0_Credits,dI b0_0_Grade,dI b0_0_Day,dL 1 eI b0_0_Sources,dI b0_0_Bundle,dL 1 eI b0_0_Path,dI b0_1_Course_School,dS b0_1_Course_Code,dI b0_1_Credits,dI b0_1_Grade,dI b0_1_Day,dL 1 eI b0_1_Sources,dI b0_1_Bundle,dL 1 eI b0_1_Path,dI b0_2_Course_School,dS b0_2_Course_Code,dI b0_2_Credits,dI b0_2_Grade,dI b0_2_Day,dO 1 1 w1_len,dI b0_2_Bundle,dL 1 eI b0_2_Path]),(1,bR 3 1 eI w1),(2,B.blk 30 [dI s_Worst,dI s_Best,dI s_Pass]),(3,B.row 52 8 [dI left0_Course_School,dS left0_Course_Code,dI left0_Credits,dI left0_Grade,dI left0_Day,dL 1 eI left0_Sources,dI left0_Bundle,dL 1 eI left0_Path,dI left1_Course_School,dS left1_Course_Code,dI left1_Credits,dI left1_Grade,dI left1_Day,dL 1 eI left1_Sources,dI left1_Bundle,dL 1 eI left1_Path])],4,53⟩=(qB (qp w1 (qa.mk (qb.mk b0_0_Course_School b0_0_Course_Code) b0_0_Credits b0_0_Grade b0_0_Day b0_0_Sources b0_0_Bundle b0_0_Path) (qa.mk (qb.mk b0_1_Course_School b0_1_Course_Code) b0_1_Credits b0_1_Grade b0_1_Day b0_1_Sources b0_1_Bundle b0_1_Path) b0_2_Course_School b0_2_Course_Code b0_2_Credits b0_2_Grade b0_2_Day b0_2_Bundle b0_2_Path (qe.mk s_Worst s_Best s_Pass)) ([(qa.mk (qb.mk left0_Course_School left0_Course_Code) left0_Credits left0_Grade left0_Day left0_Sources left0_Bundle left0_Path),(qa.mk (qb.mk left1_Course_School left1_Course_Code) left1_Credits left1_Grade left1_Day left1_Sources left1_Bundle left1_Path)],k)).bind (fun(e:List qa)=>some (Exit.exit 2,⟨[(10,rO 2 8 e.length)],[(0,B.blk 52 [dI b0_0_Course_School,dS b0_0_Course_Code,dI b0_0_Credits,dI b0_0_Grade,dI b0_0_Day,dL 1 eI b0_0_Sources,dI b0_0_Bundle,dL 1 eI b0_0_Path,dI b0_1_Course_School,dS b0_1_Course_Code,dI b0_1_Credits,dI b0_1_Grade,dI b0_1_Day,dL 1 eI b0_1_Sources,dI b0_1_Bundle,dL 1 eI b0_1_Path,dI b0_2_Course_School,dS b0_2_Course_Code,dI b0_2_Credits,dI b0_2_Grade,dI b0_2_Day,dO 1 1 w1.length,dI b0_2_Bundle,dL 1 eI b0_2_Path]),(1,bR 3 1 eI w1),(2,bR 52 8 qc e)],3,53⟩)):=by
 intro left0_Course_School left0_Course_Code left0_Credits left0_Grade left0_Day left0_Sources left0_Bundle left0_Path left1_Course_School left1_Course_Code left1_Credits left1_Grade left1_Day left1_Sources left1_Bundle left1_Path w1 b0_0_Course_School b0_0_Course_Code b0_0_Credits b0_0_Grade b0_0_Day b0_0_Sources b0_0_Bundle b0_0_Path b0_1_Course_School b0_1_Course_Code b0_1_Credits b0_1_Grade b0_1_Day b0_1_Sources b0_1_Bundle b0_1_Path b0_2_Course_School b0_2_Course_Code b0_2_Credits b0_2_Grade b0_2_Day b0_2_Bundle b0_2_Path s_Worst s_Best s_Pass k w1_len h0;subst h0;have h:=Qt w1 [(qa.mk (qb.mk left0_Course_School left0_Course_Code) left0_Credits left0_Grade left0_Day left0_Sources left0_Bundle left0_Path),(qa.mk (qb.mk left1_Course_School left1_Course_Code) left1_Credits left1_Grade left1_Day left1_Sources left1_Bundle left1_Path)] ((qa.mk (qb.mk b0_0_Course_School b0_0_Course_Code) b0_0_Credits b0_0_Grade b0_0_Day b0_0_Sources b0_0_Bundle b0_0_Path)).Course.School ((qa.mk (qb.mk b0_0_Course_School b0_0_Course_Code) b0_0_Credits b0_0_Grade b0_0_Day b0_0_Sources b0_0_Bundle b0_0_Path)).Course.Code ((qa.mk (qb.mk b0_0_Course_School b0_0_Course_Code) b0_0_Credits b0_0_Grade b0_0_Day b0_0_Sources b0_0_Bundle b0_0_Path)).Credits ((qa.mk (qb.mk b0_0_Course_School b0_0_Course_Code) b0_0_Credits b0_0_Grade b0_0_Day b0_0_Sources b0_0_Bundle b0_0_Path)).Grade ((qa.mk (qb.mk b0_0_Course_School b0_0_Course_Code) b0_0_Credits b0_0_Grade b0_0_Day b0_0_Sources b0_0_Bundle b0_0_Path)).Day ((qa.mk (qb.mk b0_0_Course_School b0_0_Course_Code) b0_0_Credits b0_0_Grade b0_0_Day b0_0_Sources b0_0_Bundle b0_0_Path)).Sources ((qa.mk (qb.mk b0_0_Course_School b0_0_Course_Code) b0_0_Credits b0_0_Grade b0_0_Day b0_0_Sources b0_0_Bundle b0_0_Path)).Bundle ((qa.mk (qb.mk b0_0_Course_School b0_0_Course_Code) b0_0_Credits b0_0_Grade b0_0_Day b0_0_Sources b0_0_Bundle b0_0_Path)).Path ((qa.mk (qb.mk b0_1_Course_School b0_1_Course_Code) b0_1_Credits b0_1_Grade b0_1_Day b0_1_Sources b0_1_Bundle b0_1_Path)).Course.School ((qa.mk (qb.mk b0_1_Course_School b0_1_Course_Code) b0_1_Credits b0_1_Grade b0_1_Day b0_1_Sources b0_1_Bundle b0_1_Path)).Course.Code ((qa.mk (qb.mk b0_1_Course_School b0_1_Course_Code) b0_1_Credits b0_1_Grade b0_1_Day b0_1_Sources b0_1_Bundle b0_1_Path)).Credits ((qa.mk (qb.mk b0_1_Course_School b0_1_Course_Code) b0_1_Credits b0_1_Grade b0_1_Day b0_1_Sources b0_1_Bundle b0_1_Path)).Grade ((qa.mk (qb.mk b0_1_Course_School b0_1_Course_Code) b0_1_Credits b0_1_Grade b0_1_Day b0_1_Sources b0_1_Bundle b0_1_Path)).Day ((qa.mk (qb.mk b0_1_Course_School b0_1_Course_Code) b0_1_Credits b0_1_Grade b0_1_Day b0_1_Sources b0_1_Bundle b0_1_Path)).Sources ((qa.mk (qb.mk b0_1_Course_School b0_1_Course_Code) b0_1_Credits b0_1_Grade b0_1_Day b0_1_Sources b0_1_Bundle b0_1_Path)).Bundle ((qa.mk (qb.mk b0_1_Course_School b0_1_Course_Code) b0_1_Credits b0_1_Grade b0_1_Day b0_1_Sources b0_1_Bundle b0_1_Path)).Path b0_2_Course_School b0_2_Course_Code b0_2_Credits b0_2_Grade b0_2_Day b0_2_Bundle b0_2_Path ((qe.mk s_Worst s_Best s_Pass)).Worst ((qe.mk s_Worst s_Best s_Pass)).Best ((qe.mk s_Worst s_Best s_Pass)).Pass k _ _ rfl rfl
 first
  | exact h
  | (simp only[rL,dL,bR,bZ,Nat.reduceAdd] at h;exact h)
theorem ZX:∀(left0_Course_School:Int) (left0_Course_Code:ByteArray) (left0_Credits left0_Grade left0_Day:Int) (left0_Sources:List Int) (left0_Bundle:Int) (left0_Path w1:List Int) (b0_0_Course_School:Int) (b0_0_Course_Code:ByteArray) (b0_0_Credits b0_0_Grade b0_0_Day:Int) (b0_0_Sources:List Int) (b0_0_Bundle:Int) (b0_0_Path:List Int) (b0_1_Course_School:Int) (b0_1_Course_Code:ByteArray) (b0_1_Credits b0_1_Grade b0_1_Day:Int) (b0_1_Sources:List Int) (b0_1_Bundle:Int) (b0_1_Path:List Int) (b0_2_Course_School:Int) (b0_2_Course_Code:ByteArray) (b0_2_Credits b0_2_Grade b0_2_Day b0_2_Bundle:Int) (b0_2_Path:List Int) (s_Worst s_Best s_Pass k:Int) (w1_len:Nat),w1_len=w1.length→XL2 evo 11 1 9 ⟨[(6,rP 2),(10,rO 3 8 1),(13,rI k)],[(0,B.blk 52 [dI b0_0_Course_School,dS b0_0_Course_Code,dI b0_0_Credits,dI b0_0_Grade,dI b0_0_Day,dL 1 eI b0_0_Sources,dI b0_0_Bundle,dL 1 eI b0_0_Path,dI b0_1_Course_School,dS b0_1_Course_Code,dI b0_1_Credits,dI b0_1_Grade,dI b0_1_Day,dL 1 eI b0_1_Sources,dI b0_1_Bundle,dL 1 eI b0_1_Path,dI b0_2_Course_School,dS b0_2_Course_Code,dI b0_2_Credits,dI b0_2_Grade,dI b0_2_Day,dO 1 1 w1_len,dI b0_2_Bundle,dL 1 eI b0_2_Path]),(1,bR 3 1 eI w1),(2,B.blk 30 [dI s_Worst,dI s_Best,dI s_Pass]),(3,B.row 52 8 [dI left0_Course_School,dS left0_Course_Code,dI left0_Credits,dI left0_Grade,dI left0_Day,dL 1 eI left0_Sources,dI left0_Bundle,dL 1 eI left0_Path])],4,53⟩=(qB (qp w1 (qa.mk (qb.mk b0_0_Course_School b0_0_Course_Code) b0_0_Credits b0_0_Grade b0_0_Day b0_0_Sources b0_0_Bundle b0_0_Path) (qa.mk (qb.mk b0_1_Course_School b0_1_Course_Code) b0_1_Credits b0_1_Grade b0_1_Day b0_1_Sources b0_1_Bundle b0_1_Path) b0_2_Course_School b0_2_Course_Code b0_2_Credits b0_2_Grade b0_2_Day b0_2_Bundle b0_2_Path (qe.mk s_Worst s_Best s_Pass)) ([(qa.mk (qb.mk left0_Course_School left0_Course_Code) left0_Credits left0_Grade left0_Day left0_Sources left0_Bundle left0_Path)],k)).bind (fun(e:List qa)=>some (Exit.exit 2,⟨[(10,rO 2 8 e.length)],[(0,B.blk 52 [dI b0_0_Course_School,dS b0_0_Course_Code,dI b0_0_Credits,dI b0_0_Grade,dI b0_0_Day,dL 1 eI b0_0_Sources,dI b0_0_Bundle,dL 1 eI b0_0_Path,dI b0_1_Course_School,dS b0_1_Course_Code,dI b0_1_Credits,dI b0_1_Grade,dI b0_1_Day,dL 1 eI b0_1_Sources,dI b0_1_Bundle,dL 1 eI b0_1_Path,dI b0_2_Course_School,dS b0_2_Course_Code,dI b0_2_Credits,dI b0_2_Grade,dI b0_2_Day,dO 1 1 w1.length,dI b0_2_Bundle,dL 1 eI b0_2_Path]),(1,bR 3 1 eI w1),(2,bR 52 8 qc e)],3,53⟩)):=by
 intro left0_Course_School left0_Course_Code left0_Credits left0_Grade left0_Day left0_Sources left0_Bundle left0_Path w1 b0_0_Course_School b0_0_Course_Code b0_0_Credits b0_0_Grade b0_0_Day b0_0_Sources b0_0_Bundle b0_0_Path b0_1_Course_School b0_1_Course_Code b0_1_Credits b0_1_Grade b0_1_Day b0_1_Sources b0_1_Bundle b0_1_Path b0_2_Course_School b0_2_Course_Code b0_2_Credits b0_2_Grade b0_2_Day b0_2_Bundle b0_2_Path s_Worst s_Best s_Pass k w1_len h0;subst h0;have h:=Qt w1 [(qa.mk (qb.mk left0_Course_School left0_Course_Code) left0_Credits left0_Grade left0_Day left0_Sources left0_Bundle left0_Path)] ((qa.mk (qb.mk b0_0_Course_School b0_0_Course_Code) b0_0_Credits b0_0_Grade b0_0_Day b0_0_Sources b0_0_Bundle b0_0_Path)).Course.School ((qa.mk (qb.mk b0_0_Course_School b0_0_Course_Code) b0_0_Credits b0_0_Grade b0_0_Day b0_0_Sources b0_0_Bundle b0_0_Path)).Course.Code ((qa.mk (qb.mk b0_0_Course_School b0_0_Course_Code) b0_0_Credits b0_0_Grade b0_0_Day b0_0_Sources b0_0_Bundle b0_0_Path)).Credits ((qa.mk (qb.mk b0_0_Course_School b0_0_Course_Code) b0_0_Credits b0_0_Grade b0_0_Day b0_0_Sources b0_0_Bundle b0_0_Path)).Grade ((qa.mk (qb.mk b0_0_Course_School b0_0_Course_Code) b0_0_Credits b0_0_Grade b0_0_Day b0_0_Sources b0_0_Bundle b0_0_Path)).Day ((qa.mk (qb.mk b0_0_Course_School b0_0_Course_Code) b0_0_Credits b0_0_Grade b0_0_Day b0_0_Sources b0_0_Bundle b0_0_Path)).Sources ((qa.mk (qb.mk b0_0_Course_School b0_0_Course_Code) b0_0_Credits b0_0_Grade b0_0_Day b0_0_Sources b0_0_Bundle b0_0_Path)).Bundle ((qa.mk (qb.mk b0_0_Course_School b0_0_Course_Code) b0_0_Credits b0_0_Grade b0_0_Day b0_0_Sources b0_0_Bundle b0_0_Path)).Path ((qa.mk (qb.mk b0_1_Course_School b0_1_Course_Code) b0_1_Credits b0_1_Grade b0_1_Day b0_1_Sources b0_1_Bundle b0_1_Path)).Course.School ((qa.mk (qb.mk b0_1_Course_School b0_1_Course_Code) b0_1_Credits b0_1_Grade b0_1_Day b0_1_Sources b0_1_Bundle b0_1_Path)).Course.Code ((qa.mk (qb.mk b0_1_Course_School b0_1_Course_Code) b0_1_Credits b0_1_Grade b0_1_Day b0_1_Sources b0_1_Bundle b0_1_Path)).Credits ((qa.mk (qb.mk b0_1_Course_School b0_1_Course_Code) b0_1_Credits b0_1_Grade b0_1_Day b0_1_Sources b0_1_Bundle b0_1_Path)).Grade ((qa.mk (qb.mk b0_1_Course_School b0_1_Course_Code) b0_1_Credits b0_1_Grade b0_1_Day b0_1_Sources b0_1_Bundle b0_1_Path)).Day ((qa.mk (qb.mk b0_1_Course_School b0_1_Course_Code) b0_1_Credits b0_1_Grade b0_1_Day b0_1_Sources b0_1_Bundle b0_1_Path)).Sources ((qa.mk (qb.mk b0_1_Course_School b0_1_Course_Code) b0_1_Credits b0_1_Grade b0_1_Day b0_1_Sources b0_1_Bundle b0_1_Path)).Bundle ((qa.mk (qb.mk b0_1_Course_School b0_1_Course_Code) b0_1_Credits b0_1_Grade b0_1_Day b0_1_Sources b0_1_Bundle b0_1_Path)).Path b0_2_Course_School b0_2_Course_Code b0_2_Credits b0_2_Grade b0_2_Day b0_2_Bundle b0_2_Path ((qe.mk s_Worst s_Best s_Pass)).Worst ((qe.mk s_Worst s_Best s_Pass)).Best ((qe.mk s_Worst s_Best s_Pass)).Pass k _ _ rfl rfl
 first
  | exact h
  | (simp only[rL,dL,bR,bZ,Nat.reduceAdd] at h;exact h)
end
noncomputable section
open Go.RowKit
set_option maxRecDepth 20000
set_option maxHeartbeats 8000000
def Q8 (l_n:Nat) (p:qf) (s:qe) (day:Int) (w1:List Int) (l_0:qa) (l_1:qa) (l_2_Course_School:Int) (l_2_Course_Code:ByteArray) (l_2_Credits:Int) (l_2_Grade:Int) (l_2_Day:Int) (l_2_Bundle:Int) (l_2_Path:List Int):Option ((List qa×Int×qa)⊕(List qa×Int)):=if 0<((l_n:Nat):Int) then if 0<((l_n:Nat):Int) then Option.bind (qG p l_0 day) fun(a:Bool)=>if(!a)=Bool.true then Option.bind (qv l_0) fun(a2:Unit)=>if 1≤maxLen then if 1<((l_n:Nat):Int) then if 1<((l_n:Nat):Int) then Option.bind (qG p l_1 day) fun(a3:Bool)=>if(!a3)=Bool.true then Option.bind (qv l_1) fun(a4:Unit)=>if 2≤maxLen then if 2<((l_n:Nat):Int) then if 2<((l_n:Nat):Int) then Option.bind (qG p (qa.mk (qb.mk l_2_Course_School l_2_Course_Code) l_2_Credits l_2_Grade l_2_Day w1 l_2_Bundle l_2_Path) day) fun(a5:Bool)=>if(!a5)=Bool.true then Option.bind (qv (qa.mk (qb.mk l_2_Course_School l_2_Course_Code) l_2_Credits l_2_Grade l_2_Day w1 l_2_Bundle l_2_Path)) fun(a6:Unit)=>if 3≤maxLen then if 3<((l_n:Nat):Int) then none else Option.bind (qB (qk l_0 l_1 (qa.mk (qb.mk l_2_Course_School l_2_Course_Code) l_2_Credits l_2_Grade l_2_Day w1 l_2_Bundle l_2_Path) s) ([l_0,l_1,qa.mk (qb.mk l_2_Course_School l_2_Course_Code) l_2_Credits l_2_Grade l_2_Day w1 l_2_Bundle l_2_Path],2)) fun(a7:List qa)=>if 10<((a7.length:Nat):Int) then some (Sum.inl ([],2,qa.mk (qb.mk l_2_Course_School l_2_Course_Code) l_2_Credits l_2_Grade l_2_Day w1 l_2_Bundle l_2_Path)) else some (Sum.inl (a7,0,qa.mk (qb.mk l_2_Course_School l_2_Course_Code) l_2_Credits l_2_Grade l_2_Day w1 l_2_Bundle l_2_Path)) else none else if 3<((l_n:Nat):Int) then none else Option.bind (qB (qp w1 l_0 l_1 l_2_Course_School l_2_Course_Code l_2_Credits l_2_Grade l_2_Day l_2_Bundle l_2_Path s) ([l_0,l_1],1)) fun(a8:List qa)=>if 10<((a8.length:Nat):Int) then some (Sum.inr ([],2)) else some (Sum.inr (a8,0)) else none else Option.bind (qB (qp w1 l_0 l_1 l_2_Course_School l_2_Course_Code l_2_Credits l_2_Grade l_2_Day l_2_Bundle l_2_Path s) ([l_0,l_1],1)) fun(a9:List qa)=>if 10<((a9.length:Nat):Int) then some (Sum.inr ([],2)) else some (Sum.inr (a9,0)) else none else if 2<((l_n:Nat):Int) then if 2<((l_n:Nat):Int) then Option.bind (qG p (qa.mk (qb.mk l_2_Course_School l_2_Course_Code) l_2_Credits l_2_Grade l_2_Day w1 l_2_Bundle l_2_Path) day) fun(a10:Bool)=>if(!a10)=Bool.true then Option.bind (qv (qa.mk (qb.mk l_2_Course_School l_2_Course_Code) l_2_Credits l_2_Grade l_2_Day w1 l_2_Bundle l_2_Path)) fun(a11:Unit)=>if 2≤maxLen then if 3<((l_n:Nat):Int) then none else Option.bind (qB (qk l_0 l_1 (qa.mk (qb.mk l_2_Course_School l_2_Course_Code) l_2_Credits l_2_Grade l_2_Day w1 l_2_Bundle l_2_Path) s) ([l_0,qa.mk (qb.mk l_2_Course_School l_2_Course_Code) l_2_Credits l_2_Grade l_2_Day w1 l_2_Bundle l_2_Path],1)) fun(a12:List qa)=>if 10<((a12.length:Nat):Int) then some (Sum.inl ([],2,qa.mk (qb.mk l_2_Course_School l_2_Course_Code) l_2_Credits l_2_Grade l_2_Day w1 l_2_Bundle l_2_Path)) else some (Sum.inl (a12,0,qa.mk (qb.mk l_2_Course_School l_2_Course_Code) l_2_Credits l_2_Grade l_2_Day w1 l_2_Bundle l_2_Path)) else none else if 3<((l_n:Nat):Int) then none else Option.bind (qB (qp w1 l_0 l_1 l_2_Course_School l_2_Course_Code l_2_Credits l_2_Grade l_2_Day l_2_Bundle l_2_Path s) ([l_0],0)) fun(a13:List qa)=>if 10<((a13.length:Nat):Int) then some (Sum.inr ([],2)) else some (Sum.inr (a13,0)) else none else Option.bind (qB (qp w1 l_0 l_1 l_2_Course_School l_2_Course_Code l_2_Credits l_2_Grade l_2_Day l_2_Bundle l_2_Path s) ([l_0],0)) fun(a14:List qa)=>if 10<((a14.length:Nat):Int) then some (Sum.inr ([],2)) else some (Sum.inr (a14,0)) else none else Option.bind (qB (qp w1 l_0 l_1 l_2_Course_School l_2_Course_Code l_2_Credits l_2_Grade l_2_Day l_2_Bundle l_2_Path s) ([l_0],0)) fun(a15:List qa)=>if 10<((a15.length:Nat):Int) then some (Sum.inr ([],2)) else some (Sum.inr (a15,0)) else none else if 1<((l_n:Nat):Int) then if 1<((l_n:Nat):Int) then Option.bind (qG p l_1 day) fun(a16:Bool)=>if(!a16)=Bool.true then Option.bind (qv l_1) fun(a17:Unit)=>if 1≤maxLen then if 2<((l_n:Nat):Int) then if 2<((l_n:Nat):Int) then Option.bind (qG p (qa.mk (qb.mk l_2_Course_School l_2_Course_Code) l_2_Credits l_2_Grade l_2_Day w1 l_2_Bundle l_2_Path) day) fun(a18:Bool)=>if(!a18)=Bool.true then Option.bind (qv (qa.mk (qb.mk l_2_Course_School l_2_Course_Code) l_2_Credits l_2_Grade l_2_Day w1 l_2_Bundle l_2_Path)) fun(a19:Unit)=>if 2≤maxLen then if 3<((l_n:Nat):Int) then none else Option.bind (qB (qk l_0 l_1 (qa.mk (qb.mk l_2_Course_School l_2_Course_Code) l_2_Credits l_2_Grade l_2_Day w1 l_2_Bundle l_2_Path) s) ([l_1,qa.mk (qb.mk l_2_Course_School l_2_Course_Code) l_2_Credits l_2_Grade l_2_Day w1 l_2_Bundle l_2_Path],1)) fun(a20:List qa)=>if 10<((a20.length:Nat):Int) then some (Sum.inl ([],2,qa.mk (qb.mk l_2_Course_School l_2_Course_Code) l_2_Credits l_2_Grade l_2_Day w1 l_2_Bundle l_2_Path)) else some (Sum.inl (a20,0,qa.mk (qb.mk l_2_Course_School l_2_Course_Code) l_2_Credits l_2_Grade l_2_Day w1 l_2_Bundle l_2_Path)) else none else if 3<((l_n:Nat):Int) then none else Option.bind (qB (qp w1 l_0 l_1 l_2_Course_School l_2_Course_Code l_2_Credits l_2_Grade l_2_Day l_2_Bundle l_2_Path s) ([l_1],0)) fun(a21:List qa)=>if 10<((a21.length:Nat):Int) then some (Sum.inr ([],2)) else some (Sum.inr (a21,0)) else none else Option.bind (qB (qp w1 l_0 l_1 l_2_Course_School l_2_Course_Code l_2_Credits l_2_Grade l_2_Day l_2_Bundle l_2_Path s) ([l_1],0)) fun(a22:List qa)=>if 10<((a22.length:Nat):Int) then some (Sum.inr ([],2)) else some (Sum.inr (a22,0)) else none else if 2<((l_n:Nat):Int) then if 2<((l_n:Nat):Int) then Option.bind (qG p (qa.mk (qb.mk l_2_Course_School l_2_Course_Code) l_2_Credits l_2_Grade l_2_Day w1 l_2_Bundle l_2_Path) day) fun(a23:Bool)=>if(!a23)=Bool.true then Option.bind (qv (qa.mk (qb.mk l_2_Course_School l_2_Course_Code) l_2_Credits l_2_Grade l_2_Day w1 l_2_Bundle l_2_Path)) fun(a24:Unit)=>if 1≤maxLen then if 3<((l_n:Nat):Int) then none else Option.bind (qB (qk l_0 l_1 (qa.mk (qb.mk l_2_Course_School l_2_Course_Code) l_2_Credits l_2_Grade l_2_Day w1 l_2_Bundle l_2_Path) s) ([qa.mk (qb.mk l_2_Course_School l_2_Course_Code) l_2_Credits l_2_Grade l_2_Day w1 l_2_Bundle l_2_Path],0)) fun(a25:List qa)=>if 10<((a25.length:Nat):Int) then some (Sum.inl ([],2,qa.mk (qb.mk l_2_Course_School l_2_Course_Code) l_2_Credits l_2_Grade l_2_Day w1 l_2_Bundle l_2_Path)) else some (Sum.inl (a25,0,qa.mk (qb.mk l_2_Course_School l_2_Course_Code) l_2_Credits l_2_Grade l_2_Day w1 l_2_Bundle l_2_Path)) else none else if 3<((l_n:Nat):Int) then none else Option.bind (qB (qp w1 l_0 l_1 l_2_Course_School l_2_Course_Code l_2_Credits l_2_Grade l_2_Day l_2_Bundle l_2_Path s) ([],(-1))) fun(a26:List qa)=>if 10<((a26.length:Nat):Int) then some (Sum.inr ([],2)) else some (Sum.inr (a26,0)) else none else Option.bind (qB (qp w1 l_0 l_1 l_2_Course_School l_2_Course_Code l_2_Credits l_2_Grade l_2_Day l_2_Bundle l_2_Path s) ([],(-1))) fun(a27:List qa)=>if 10<((a27.length:Nat):Int) then some (Sum.inr ([],2)) else some (Sum.inr (a27,0)) else none else Option.bind (qB (qp w1 l_0 l_1 l_2_Course_School l_2_Course_Code l_2_Credits l_2_Grade l_2_Day l_2_Bundle l_2_Path s) ([],(-1))) fun(a28:List qa)=>if 10<((a28.length:Nat):Int) then some (Sum.inr ([],2)) else some (Sum.inr (a28,0)) else none else Option.bind (qB (qp w1 l_0 l_1 l_2_Course_School l_2_Course_Code l_2_Credits l_2_Grade l_2_Day l_2_Bundle l_2_Path s) ([],(-1))) fun(a29:List qa)=>if 10<((a29.length:Nat):Int) then some (Sum.inr ([],2)) else some (Sum.inr (a29,0))
theorem q0Y:∀(l_n:Nat) (p_School p_Id p_Version p_From:Int) (p_Name:ByteArray) (p_Need_Kind p_Need_N p_Need_Min:Int) (p_Need_Set:List qb) (p_Need_L:List qg) (p_Total p_Own p_Age:Int) (p_Exclude:List (QM qb)) (s_Worst s_Best s_Pass day:Int) (w1:List Int) (l_0_Course_School:Int) (l_0_Course_Code:ByteArray) (l_0_Credits l_0_Grade l_0_Day:Int) (l_0_Sources:List Int) (l_0_Bundle:Int) (l_0_Path:List Int) (l_1_Course_School:Int) (l_1_Course_Code:ByteArray) (l_1_Credits l_1_Grade l_1_Day:Int) (l_1_Sources:List Int) (l_1_Bundle:Int) (l_1_Path:List Int) (l_2_Course_School:Int) (l_2_Course_Code:ByteArray) (l_2_Credits l_2_Grade l_2_Day l_2_Bundle:Int) (l_2_Path:List Int) (w1_len:Nat),w1_len=w1.length→ev 11 1 [rO 0 8 l_n,R.agg [dI p_School,dI p_Id,dI p_Version,dI p_From,dS p_Name,dI p_Need_Kind,dI p_Need_N,dI p_Need_Min,dL 2 qj p_Need_Set,dL 5 qr p_Need_L,dI p_Total,dI p_Own,dI p_Age,dL 4 (eA2 qj) p_Exclude],R.agg [dI s_Worst,dI s_Best,dI s_Pass],rI day] [(0,B.blk 52 [dI l_0_Course_School,dS l_0_Course_Code,dI l_0_Credits,dI l_0_Grade,dI l_0_Day,dL 1 eI l_0_Sources,dI l_0_Bundle,dL 1 eI l_0_Path,dI l_1_Course_School,dS l_1_Course_Code,dI l_1_Credits,dI l_1_Grade,dI l_1_Day,dL 1 eI l_1_Sources,dI l_1_Bundle,dL 1 eI l_1_Path,dI l_2_Course_School,dS l_2_Course_Code,dI l_2_Credits,dI l_2_Grade,dI l_2_Day,dO 1 1 w1_len,dI l_2_Bundle,dL 1 eI l_2_Path]),(1,bR 3 1 eI w1)]=(Q8 l_n (qf.mk p_School p_Id p_Version p_From p_Name (qg.mk p_Need_Kind p_Need_N p_Need_Min p_Need_Set p_Need_L) p_Total p_Own p_Age p_Exclude) (qe.mk s_Worst s_Best s_Pass) day w1 (qa.mk (qb.mk l_0_Course_School l_0_Course_Code) l_0_Credits l_0_Grade l_0_Day l_0_Sources l_0_Bundle l_0_Path) (qa.mk (qb.mk l_1_Course_School l_1_Course_Code) l_1_Credits l_1_Grade l_1_Day l_1_Sources l_1_Bundle l_1_Path) l_2_Course_School l_2_Course_Code l_2_Credits l_2_Grade l_2_Day l_2_Bundle l_2_Path).bind (Sum.elim (fun(e:List qa×Int×qa)=>some (R.tup [rL 8 qc e.1,rI e.2.1],[(0,B.blk 52 [dI l_0_Course_School,dS l_0_Course_Code,dI l_0_Credits,dI l_0_Grade,dI l_0_Day,dL 1 eI l_0_Sources,dI l_0_Bundle,dL 1 eI l_0_Path,dI l_1_Course_School,dS l_1_Course_Code,dI l_1_Credits,dI l_1_Grade,dI l_1_Day,dL 1 eI l_1_Sources,dI l_1_Bundle,dL 1 eI l_1_Path,dI e.2.2.Course.School,dS e.2.2.Course.Code,dI e.2.2.Credits,dI e.2.2.Grade,dI e.2.2.Day,dL 1 eI e.2.2.Sources,dI e.2.2.Bundle,dL 1 eI e.2.2.Path])])) (fun(e:List qa×Int)=>some (R.tup [rL 8 qc e.1,rI e.2],[(0,B.blk 52 [dI l_0_Course_School,dS l_0_Course_Code,dI l_0_Credits,dI l_0_Grade,dI l_0_Day,dL 1 eI l_0_Sources,dI l_0_Bundle,dL 1 eI l_0_Path,dI l_1_Course_School,dS l_1_Course_Code,dI l_1_Credits,dI l_1_Grade,dI l_1_Day,dL 1 eI l_1_Sources,dI l_1_Bundle,dL 1 eI l_1_Path,dI l_2_Course_School,dS l_2_Course_Code,dI l_2_Credits,dI l_2_Grade,dI l_2_Day,dO 1 1 w1.length,dI l_2_Bundle,dL 1 eI l_2_Path]),(1,bR 3 1 eI w1)]))):=
 by
 intro l_n p_School p_Id p_Version p_From p_Name p_Need_Kind p_Need_N p_Need_Min p_Need_Set p_Need_L p_Total p_Own p_Age p_Exclude s_Worst s_Best s_Pass day w1 l_0_Course_School l_0_Course_Code l_0_Credits l_0_Grade l_0_Day l_0_Sources l_0_Bundle l_0_Path l_1_Course_School l_1_Course_Code l_1_Credits l_1_Grade l_1_Day l_1_Sources l_1_Bundle l_1_Path l_2_Course_School l_2_Course_Code l_2_Credits l_2_Grade l_2_Day l_2_Bundle l_2_Path w1_len h0
 subst h0
 rw[qR qjq qoQ.2.2.2 qof]
 have:=qo7;have:=@q0v;have:=@ZZ;have:=@Jt;have:=@J0;have:=@J9;have:=@J4;have:=@ZX;have:=@J1;have:=@Q8.eq_1;have:=fun(E:Orc) (k:Nat) (s:S)=>q75 (E:=E) (k:=k) (s:=s) qfY qgi;have:=@q8m.eq_1;have:=@q3Q;have:=@q6X;have:=@qbP;have:=@q76;have:=@qbA;have:=@q6J;have:=@qaG;exact gA
theorem JV:∀(p_School p_Id p_Version p_From:Int) (p_Name:ByteArray) (p_Need_Kind p_Need_N p_Need_Min p_Total p_Own p_Age w10 l_0_Course_School:Int) (l_0_Course_Code:ByteArray) (l_0_Credits l_0_Grade l_0_Day l_0_Sources0 l_0_Bundle l_1_Course_School:Int) (l_1_Course_Code:ByteArray) (l_1_Credits l_1_Grade l_1_Day l_1_Sources0 l_1_Bundle:Int) (l_n:Nat) (s_Worst s_Best s_Pass day l_2_Course_School:Int) (l_2_Course_Code:ByteArray) (l_2_Credits l_2_Grade l_2_Day l_2_Bundle:Int),ev 11 1 [rO 0 8 l_n,R.agg [dI p_School,dI p_Id,dI p_Version,dI p_From,dS p_Name,dI p_Need_Kind,dI p_Need_N,dI p_Need_Min,C.d (D.sl 2 0 []),C.d (D.sl 5 0 []),dI p_Total,dI p_Own,dI p_Age,C.d (D.sl 4 0 [])],R.agg [dI s_Worst,dI s_Best,dI s_Pass],rI day] [(0,B.blk 52 [dI l_0_Course_School,dS l_0_Course_Code,dI l_0_Credits,dI l_0_Grade,dI l_0_Day,C.d (D.sl 1 1 [D.int .i64 l_0_Sources0]),dI l_0_Bundle,C.d (D.sl 1 0 []),dI l_1_Course_School,dS l_1_Course_Code,dI l_1_Credits,dI l_1_Grade,dI l_1_Day,C.d (D.sl 1 1 [D.int .i64 l_1_Sources0]),dI l_1_Bundle,C.d (D.sl 1 0 []),dI l_2_Course_School,dS l_2_Course_Code,dI l_2_Credits,dI l_2_Grade,dI l_2_Day,dO 1 1 1,dI l_2_Bundle,C.d (D.sl 1 0 [])]),(1,B.row 3 1 [dI w10])]=(Q8 l_n (qf.mk p_School p_Id p_Version p_From p_Name (qg.mk p_Need_Kind p_Need_N p_Need_Min ([]:List qb) ([]:List qg)) p_Total p_Own p_Age ([]:List (QM qb))) (qe.mk s_Worst s_Best s_Pass) day [w10] (qa.mk (qb.mk l_0_Course_School l_0_Course_Code) l_0_Credits l_0_Grade l_0_Day [l_0_Sources0] l_0_Bundle ([]:List Int)) (qa.mk (qb.mk l_1_Course_School l_1_Course_Code) l_1_Credits l_1_Grade l_1_Day [l_1_Sources0] l_1_Bundle ([]:List Int)) l_2_Course_School l_2_Course_Code l_2_Credits l_2_Grade l_2_Day l_2_Bundle ([]:List Int)).bind (Sum.elim (fun(e:List qa×Int×qa)=>some (R.tup [rL 8 qc e.1,rI e.2.1],[(0,B.blk 52 [dI l_0_Course_School,dS l_0_Course_Code,dI l_0_Credits,dI l_0_Grade,dI l_0_Day,C.d (D.sl 1 [l_0_Sources0].length ([l_0_Sources0].flatMap eI)),dI l_0_Bundle,C.d (D.sl 1 ([]:List Int).length (([]:List Int).flatMap eI)),dI l_1_Course_School,dS l_1_Course_Code,dI l_1_Credits,dI l_1_Grade,dI l_1_Day,C.d (D.sl 1 [l_1_Sources0].length ([l_1_Sources0].flatMap eI)),dI l_1_Bundle,C.d (D.sl 1 ([]:List Int).length (([]:List Int).flatMap eI)),dI e.2.2.Course.School,dS e.2.2.Course.Code,dI e.2.2.Credits,dI e.2.2.Grade,dI e.2.2.Day,dL 1 eI e.2.2.Sources,dI e.2.2.Bundle,dL 1 eI e.2.2.Path])])) (fun(e:List qa×Int)=>some (R.tup [rL 8 qc e.1,rI e.2],[(0,B.blk 52 [dI l_0_Course_School,dS l_0_Course_Code,dI l_0_Credits,dI l_0_Grade,dI l_0_Day,C.d (D.sl 1 [l_0_Sources0].length ([l_0_Sources0].flatMap eI)),dI l_0_Bundle,C.d (D.sl 1 ([]:List Int).length (([]:List Int).flatMap eI)),dI l_1_Course_School,dS l_1_Course_Code,dI l_1_Credits,dI l_1_Grade,dI l_1_Day,C.d (D.sl 1 [l_1_Sources0].length ([l_1_Sources0].flatMap eI)),dI l_1_Bundle,C.d (D.sl 1 ([]:List Int).length (([]:List Int).flatMap eI)),dI l_2_Course_School,dS l_2_Course_Code,dI l_2_Credits,dI l_2_Grade,dI l_2_Day,C.own 1 1 0 [w10].length,dI l_2_Bundle,C.d (D.sl 1 ([]:List Int).length (([]:List Int).flatMap eI))]),(1,B.row 3 1 (([w10].flatMap eI).map C.d))]))):=by
 intro p_School p_Id p_Version p_From p_Name p_Need_Kind p_Need_N p_Need_Min p_Total p_Own p_Age w10 l_0_Course_School l_0_Course_Code l_0_Credits l_0_Grade l_0_Day l_0_Sources0 l_0_Bundle l_1_Course_School l_1_Course_Code l_1_Credits l_1_Grade l_1_Day l_1_Sources0 l_1_Bundle l_n s_Worst s_Best s_Pass day l_2_Course_School l_2_Course_Code l_2_Credits l_2_Grade l_2_Day l_2_Bundle;have h:=q0Y l_n ((qf.mk p_School p_Id p_Version p_From p_Name (qg.mk p_Need_Kind p_Need_N p_Need_Min ([]:List qb) ([]:List qg)) p_Total p_Own p_Age ([]:List (QM qb)))).School ((qf.mk p_School p_Id p_Version p_From p_Name (qg.mk p_Need_Kind p_Need_N p_Need_Min ([]:List qb) ([]:List qg)) p_Total p_Own p_Age ([]:List (QM qb)))).Id ((qf.mk p_School p_Id p_Version p_From p_Name (qg.mk p_Need_Kind p_Need_N p_Need_Min ([]:List qb) ([]:List qg)) p_Total p_Own p_Age ([]:List (QM qb)))).Version ((qf.mk p_School p_Id p_Version p_From p_Name (qg.mk p_Need_Kind p_Need_N p_Need_Min ([]:List qb) ([]:List qg)) p_Total p_Own p_Age ([]:List (QM qb)))).From ((qf.mk p_School p_Id p_Version p_From p_Name (qg.mk p_Need_Kind p_Need_N p_Need_Min ([]:List qb) ([]:List qg)) p_Total p_Own p_Age ([]:List (QM qb)))).Name ((qf.mk p_School p_Id p_Version p_From p_Name (qg.mk p_Need_Kind p_Need_N p_Need_Min ([]:List qb) ([]:List qg)) p_Total p_Own p_Age ([]:List (QM qb)))).Need.Kind ((qf.mk p_School p_Id p_Version p_From p_Name (qg.mk p_Need_Kind p_Need_N p_Need_Min ([]:List qb) ([]:List qg)) p_Total p_Own p_Age ([]:List (QM qb)))).Need.N ((qf.mk p_School p_Id p_Version p_From p_Name (qg.mk p_Need_Kind p_Need_N p_Need_Min ([]:List qb) ([]:List qg)) p_Total p_Own p_Age ([]:List (QM qb)))).Need.Min ((qf.mk p_School p_Id p_Version p_From p_Name (qg.mk p_Need_Kind p_Need_N p_Need_Min ([]:List qb) ([]:List qg)) p_Total p_Own p_Age ([]:List (QM qb)))).Need.Set ((qf.mk p_School p_Id p_Version p_From p_Name (qg.mk p_Need_Kind p_Need_N p_Need_Min ([]:List qb) ([]:List qg)) p_Total p_Own p_Age ([]:List (QM qb)))).Need.L ((qf.mk p_School p_Id p_Version p_From p_Name (qg.mk p_Need_Kind p_Need_N p_Need_Min ([]:List qb) ([]:List qg)) p_Total p_Own p_Age ([]:List (QM qb)))).Total ((qf.mk p_School p_Id p_Version p_From p_Name (qg.mk p_Need_Kind p_Need_N p_Need_Min ([]:List qb) ([]:List qg)) p_Total p_Own p_Age ([]:List (QM qb)))).Own ((qf.mk p_School p_Id p_Version p_From p_Name (qg.mk p_Need_Kind p_Need_N p_Need_Min ([]:List qb) ([]:List qg)) p_Total p_Own p_Age ([]:List (QM qb)))).Age ((qf.mk p_School p_Id p_Version p_From p_Name (qg.mk p_Need_Kind p_Need_N p_Need_Min ([]:List qb) ([]:List qg)) p_Total p_Own p_Age ([]:List (QM qb)))).Exclude ((qe.mk s_Worst s_Best s_Pass)).Worst ((qe.mk s_Worst s_Best s_Pass)).Best ((qe.mk s_Worst s_Best s_Pass)).Pass day [w10] ((qa.mk (qb.mk l_0_Course_School l_0_Course_Code) l_0_Credits l_0_Grade l_0_Day [l_0_Sources0] l_0_Bundle ([]:List Int))).Course.School ((qa.mk (qb.mk l_0_Course_School l_0_Course_Code) l_0_Credits l_0_Grade l_0_Day [l_0_Sources0] l_0_Bundle ([]:List Int))).Course.Code ((qa.mk (qb.mk l_0_Course_School l_0_Course_Code) l_0_Credits l_0_Grade l_0_Day [l_0_Sources0] l_0_Bundle ([]:List Int))).Credits ((qa.mk (qb.mk l_0_Course_School l_0_Course_Code) l_0_Credits l_0_Grade l_0_Day [l_0_Sources0] l_0_Bundle ([]:List Int))).Grade ((qa.mk (qb.mk l_0_Course_School l_0_Course_Code) l_0_Credits l_0_Grade l_0_Day [l_0_Sources0] l_0_Bundle ([]:List Int))).Day ((qa.mk (qb.mk l_0_Course_School l_0_Course_Code) l_0_Credits l_0_Grade l_0_Day [l_0_Sources0] l_0_Bundle ([]:List Int))).Sources ((qa.mk (qb.mk l_0_Course_School l_0_Course_Code) l_0_Credits l_0_Grade l_0_Day [l_0_Sources0] l_0_Bundle ([]:List Int))).Bundle ((qa.mk (qb.mk l_0_Course_School l_0_Course_Code) l_0_Credits l_0_Grade l_0_Day [l_0_Sources0] l_0_Bundle ([]:List Int))).Path ((qa.mk (qb.mk l_1_Course_School l_1_Course_Code) l_1_Credits l_1_Grade l_1_Day [l_1_Sources0] l_1_Bundle ([]:List Int))).Course.School ((qa.mk (qb.mk l_1_Course_School l_1_Course_Code) l_1_Credits l_1_Grade l_1_Day [l_1_Sources0] l_1_Bundle ([]:List Int))).Course.Code ((qa.mk (qb.mk l_1_Course_School l_1_Course_Code) l_1_Credits l_1_Grade l_1_Day [l_1_Sources0] l_1_Bundle ([]:List Int))).Credits ((qa.mk (qb.mk l_1_Course_School l_1_Course_Code) l_1_Credits l_1_Grade l_1_Day [l_1_Sources0] l_1_Bundle ([]:List Int))).Grade ((qa.mk (qb.mk l_1_Course_School l_1_Course_Code) l_1_Credits l_1_Grade l_1_Day [l_1_Sources0] l_1_Bundle ([]:List Int))).Day ((qa.mk (qb.mk l_1_Course_School l_1_Course_Code) l_1_Credits l_1_Grade l_1_Day [l_1_Sources0] l_1_Bundle ([]:List Int))).Sources ((qa.mk (qb.mk l_1_Course_School l_1_Course_Code) l_1_Credits l_1_Grade l_1_Day [l_1_Sources0] l_1_Bundle ([]:List Int))).Bundle ((qa.mk (qb.mk l_1_Course_School l_1_Course_Code) l_1_Credits l_1_Grade l_1_Day [l_1_Sources0] l_1_Bundle ([]:List Int))).Path l_2_Course_School l_2_Course_Code l_2_Credits l_2_Grade l_2_Day l_2_Bundle ([]:List Int) _ rfl
 first
  | exact h
  | (simp only[rL,dL,bR,bZ,Nat.reduceAdd] at h;exact h)
theorem qr8:okL 18 q7Y:=qS (qi qnU) (by kernel_rfl) (by kernel_rfl)
def qsh:=JA_ @q7Y.eq_1 (JA_ @Try.f18.eq_1 @qnU)
theorem qmE:lbO 18 4=qak:=zP (qi qnU) rfl
theorem qke:okL 18 qak:=z8 qr8 (quH (i:=0) (by kernel_rfl))
def zr (a:List (List Int)) (b:List (List Int)):Int→Option (Int⊕(Unit⊕Unit))|k=>if k<((a.length:Nat):Int) then if 0≤k∧k<((a.length:Nat):Int) then Option.bind a[Int.toNat k]? fun(a2:List Int)=>if 0≤k∧k<((b.length:Nat):Int) then Option.bind b[Int.toNat k]? fun(a3:List Int)=>Option.bind (Qr a2 a3) fun(a4:Bool)=>if(!a4)=Bool.true then some (Sum.inr (Sum.inl ())) else some (Sum.inl (w64 (k+1))) else none else none else some (Sum.inr (Sum.inr ()))
theorem Jr:∀(a b:List (List Int)) (k:Int),XL2 evo 18 0 4 ⟨[(0,rL 1 (eL 1 eI) a),(1,rL 1 (eL 1 eI) b),(5,rI k)],[],0,29⟩=(qB (zr a b) k).bind (Sum.elim (fun(e:Unit)=>some (Exit.ret,⟨[(4,rB Bool.false)],[],0,29⟩)) (fun(e:Unit)=>some (Exit.exit 0,⟨[(4,R.any)],[],0,29⟩))):=
 fun a b k=>by
  revert k;exact q98 qmE qke (fun e=>by rcases e with _|_<;>exact⟨_,rfl,fun h=>by cases h⟩) fun x=>by
   have:=qsh;have:=@qak.eq_1;have:=@q1b;have:=@zr.eq_1;exact gA
def zw (a:List (List Int)) (b:List (List Int)):Option Bool:=if(((a.length:Nat):Int) != ((b.length:Nat):Int))=Bool.true then some Bool.false else Option.bind (qB (zr a b) 0) fun(a2:Sum Unit Unit)=>Sum.elim (fun(a3:Unit)=>some Bool.false) (fun(a4:Unit)=>some Bool.true) a2
theorem q0f:∀(a b:List (List Int)),ev 18 0 [rL 1 (eL 1 eI) a,rL 1 (eL 1 eI) b] []=(zw a b).bind (fun(e:Bool)=>some (rB e,[])):=
 fun a b=>by
  rw[qR qnU qsv.2.2.2 qr8]
  have:=qsh;have:=@Jr;have:=@zw.eq_1;exact gA
theorem Jj:∀(b00 b01 b02 b10:Int) (a:List (List Int)),ev 18 0 [rL 1 (eL 1 eI) a,R.c (C.d (D.sl 1 2 [D.sl 1 3 [D.int .i64 b00,D.int .i64 b01,D.int .i64 b02],D.sl 1 1 [D.int .i64 b10]]))] []=(zw a [[b00,b01,b02],[b10]]).bind (fun(e:Bool)=>some (rB e,[])):=by
 intro b00 b01 b02 b10 a;have h:=q0f a [[b00,b01,b02],[b10]]
 first
  | exact h
  | (simp only[rL,dL,bR,bZ,Nat.reduceAdd] at h;exact h)
def QI:Option Bool:=Option.bind (Q9 3 (qf.mk 1 0 0 0 (ByteArray.mk (List.toArray [])) (qg.mk 0 0 0 [] []) 0 0 0 []) (qe.mk 0 100 50) 100 (qa.mk (qb.mk 1 (ByteArray.mk (List.toArray [65,49]))) 5 60 5 [(1:Int)] 0 []) (qa.mk (qb.mk 1 (ByteArray.mk (List.toArray [65,49]))) 5 70 9 [(2:Int)] 0 []) (qa.mk (qb.mk 1 (ByteArray.mk (List.toArray [66,49]))) 5 50 0 [(3:Int)] 0 [])) fun(a:Prod (List qa) Int)=>Option.bind (Q8 3 (qf.mk 1 0 0 0 (ByteArray.mk (List.toArray [])) (qg.mk 0 0 0 [] []) 0 0 0 []) (qe.mk 0 100 50) 100 [(2:Int)] (qa.mk (qb.mk 1 (ByteArray.mk (List.toArray [65,49]))) 5 60 5 [(1:Int)] 0 []) (qa.mk (qb.mk 1 (ByteArray.mk (List.toArray [65,49]))) 5 70 9 [(2:Int)] 0 []) 1 (ByteArray.mk (List.toArray [66,49])) 5 50 0 1 []) fun(a2:Sum (Prod (List qa) (Prod Int qa)) (Prod (List qa) Int))=>Sum.elim (fun(a3:Prod (List qa) (Prod Int qa))=>if(a.2 != 0)=Bool.true then some Bool.false else if(a3.2.1 != 0)=Bool.true then some Bool.false else if(((a.1.length:Nat):Int) != 2)=Bool.true then some Bool.false else if 0<((a.1.length:Nat):Int) then Option.bind a.1[0]? fun(a5:qa)=>if(a5.Grade != 70)=Bool.true then some Bool.false else if 1<((a.1.length:Nat):Int) then Option.bind a.1[1]? fun(a6:qa)=>if(!(ByteArray.toList a6.Course.Code==ByteArray.toList (ByteArray.mk (List.toArray [66,49]))))=Bool.true then some Bool.false else if(((a3.1.length:Nat):Int) != 3)=Bool.true then some Bool.false else Option.bind (Qz [qa.mk (qb.mk 1 (ByteArray.mk (List.toArray [65,49]))) 5 60 0 [(1:Int)] 0 [],qa.mk (qb.mk 1 (ByteArray.mk (List.toArray [66,49]))) 10 60 0 [(3:Int)] 0 [],qa.mk (qb.mk 1 (ByteArray.mk (List.toArray [65,49]))) 6 60 0 [(2:Int)] 0 []]) fun(a7:Prod Int Int)=>if(a7.2==0)=Bool.true then if(a7.1==16)=Bool.true then Option.bind (zY [qa.mk (qb.mk 1 (ByteArray.mk (List.toArray [65,49]))) 5 60 0 [(1:Int)] 0 [],qa.mk (qb.mk 1 (ByteArray.mk (List.toArray [66,49]))) 10 60 0 [(3:Int)] 0 [],qa.mk (qb.mk 1 (ByteArray.mk (List.toArray [65,49]))) 6 60 0 [(2:Int)] 0 [],qa.mk (qb.mk 1 (ByteArray.mk (List.toArray [67,49]))) 5 60 0 [(2:Int)] 1 []]) fun(a8:List (List Int))=>Option.bind (zw a8 [[(0:Int),2,3],[(1:Int)]]) fun(e0:Bool)=>some e0 else some Bool.false else some Bool.false else none else none) (fun(a4:Prod (List qa) Int)=>if(a.2 != 0)=Bool.true then some Bool.false else if(a4.2 != 0)=Bool.true then some Bool.false else if(((a.1.length:Nat):Int) != 2)=Bool.true then some Bool.false else if 0<((a.1.length:Nat):Int) then Option.bind a.1[0]? fun(a9:qa)=>if(a9.Grade != 70)=Bool.true then some Bool.false else if 1<((a.1.length:Nat):Int) then Option.bind a.1[1]? fun(a10:qa)=>if(!(ByteArray.toList a10.Course.Code==ByteArray.toList (ByteArray.mk (List.toArray [66,49]))))=Bool.true then some Bool.false else if(((a4.1.length:Nat):Int) != 3)=Bool.true then some Bool.false else Option.bind (Qz [qa.mk (qb.mk 1 (ByteArray.mk (List.toArray [65,49]))) 5 60 0 [(1:Int)] 0 [],qa.mk (qb.mk 1 (ByteArray.mk (List.toArray [66,49]))) 10 60 0 [(3:Int)] 0 [],qa.mk (qb.mk 1 (ByteArray.mk (List.toArray [65,49]))) 6 60 0 [(2:Int)] 0 []]) fun(a11:Prod Int Int)=>if(a11.2==0)=Bool.true then if(a11.1==16)=Bool.true then Option.bind (zY [qa.mk (qb.mk 1 (ByteArray.mk (List.toArray [65,49]))) 5 60 0 [(1:Int)] 0 [],qa.mk (qb.mk 1 (ByteArray.mk (List.toArray [66,49]))) 10 60 0 [(3:Int)] 0 [],qa.mk (qb.mk 1 (ByteArray.mk (List.toArray [65,49]))) 6 60 0 [(2:Int)] 0 [],qa.mk (qb.mk 1 (ByteArray.mk (List.toArray [67,49]))) 5 60 0 [(2:Int)] 1 []]) fun(a12:List (List Int))=>Option.bind (zw a12 [[(0:Int),2,3],[(1:Int)]]) fun(e02:Bool)=>some e02 else some Bool.false else some Bool.false else none else none) a2
theorem q2a:ev 8 0 [] []=(QI).bind (fun(e:Bool)=>some (rB e,[])):=
 by
  rw[qR bd8 pw8.2.2.2 lo8]
  have:=cx8;have:=@q47;have:=@q1F;have:=@JY;have:=@JV;have:=@q1l;have:=@q0L;have:=@Jj;have:=@QI.eq_1;exact gA
end

noncomputable section
open Go.RowKit
structure Z1 (d:qd):Prop where
 lo:0≤d.At
 hi:d.At≤d.L.length
 len:d.L.length≤9223372036854775807
theorem Jn {d:qd} (h:Z1 d) {most:Int} (h0:0<most) (h1:most≤1000000):∃v d',qh most d=some (v,d')∧0≤v∧v<most∧Z1 d':=by
 obtain⟨a,b,c⟩:=h
 unfold qh
 by_cases he:(d.L.length:Int)≤d.At
 ·exact⟨0,d,if_pos he,Int.le_refl _,h0,⟨a,b,c⟩⟩
 ·obtain⟨x,hx⟩:∃x,d.L[Int.toNat d.At]?=some x:=⟨_,quI (by omega)⟩
  have e1:=Int.tmod_lt_of_pos x h0
  have e2 : -most<Int.tmod x most:=by
   have:=Int.tmod_lt_of_pos (-x) h0
   rw[Int.neg_tmod] at this;omega
  have e3:w64 (Int.tmod x most+most)=Int.tmod x most+most:=Ql (by omega) (by omega)
  have e4:=Int.tmod_lt_of_pos (Int.tmod x most+most) h0
  have e5:0≤Int.tmod (Int.tmod x most+most) most:=Int.tmod_nonneg _ (by omega)
  have e6:w64 (d.At+1)=d.At+1:=Ql (by omega) (by omega)
  refine⟨Int.tmod (Int.tmod x most+most) most,⟨d.L,d.At+1⟩,?_,e5,e4,⟨by show 0≤d.At+1;omega,by show d.At+1≤d.L.length;omega,c⟩⟩
  rw[if_neg he,if_pos ⟨a,by omega⟩,hx,quG,if_neg (by omega),if_neg (by omega),e3,e6]
def q2N:List Int:=[1,1,1,2,2,3]
def qcG (c:qb):Prop:=c.School∈q2N∧c.Code∈qt
theorem qeB {α:Type} (l:List α) (i:Int) (h0:0≤i) (h1:i<l.length):∃x,l[Int.toNat i]?=some x∧x∈l:=⟨l[Int.toNat i],quI (by omega),qvx _⟩
theorem q6u {d:qd} (h:Z1 d):∃c d',Qc d=some (c,d')∧qcG c∧Z1 d':=by
 obtain⟨v,d1,e1,a1,b1,h1⟩:=Jn h (most:=6) (by omega) (by omega)
 obtain⟨w,d2,e2,a2,b2,h2⟩:=Jn h1 (most:=((qt.length:Nat):Int)) (by unfold qt;simp) (by unfold qt;simp)
 obtain⟨x,hx,mx⟩:=qeB q2N v a1 (by simpa [q2N] using b1)
 obtain⟨y,hy,my⟩:=qeB qt w a2 b2
 refine⟨⟨x,y⟩,d2,?_,⟨mx,my⟩,h2⟩
 unfold Qc
 rw[e1,quG,if_pos ⟨a1,b1⟩]
 unfold q2N at hx
 rw[hx,quG,e2,quG,if_pos ⟨a2,b2⟩,hy,quG]
def q7a (a b:qb):Bool:=zy a b
def ceq (a b:qb):Bool:=(a.School==b.School)&&(a.Code.toList==b.Code.toList)
def qju {α:Type} (l:List α) (k:Nat) (c:α):List α:=l.take k++c::l.drop k
theorem qgg {α:Type}:∀(ys l:List α) (k:Nat),k+ys.length≤l.length→spl l k ys=l.take k++(ys++l.drop (k+ys.length))
 | [],l,k,_=>by rw[spl,qvp,Nat.add_zero,qv0,qvu]
 | x::ys,l,k,h=>by
  simp only[quR] at h ⊢
  rw[spl,qgg ys (l.set k x) (k+1) (by rw[qvr];omega)]
  have e:l.set k x=l.take k++x::l.drop (k+1):=by rw[List.set_eq_take_append_cons_drop,if_pos (by omega)]
  have hl:(l.take k).length=k:=by rw[qv9];omega
  have e1:(l.set k x).take (k+1)=l.take k++[x]:=by
   rw[e,List.take_append,hl,qvL (by omega),show k+1-k=1 by omega];rfl
  have e2:(l.set k x).drop (k+1+ys.length)=l.drop (k+(ys.length+1)):=by
   rw[e,List.drop_append,hl,qvm (by omega),qv0,show k+1+ys.length-k=ys.length+1 by omega,List.drop_succ_cons,qvt]
   congr 1;omega
  rw[e1,e2,qvl]
  rfl
theorem qj1 {α:Type} (l:List α) (z c:α) (k:Nat) (h:k<l.length):List.set (spl (l++[z]) (k+1) (List.take (min (l.length+1-k) (l.length+1-(k+1))) (List.take (l.length+1-k) (List.drop k (l++[z]))))) k c=qju l k c:=by
 have e1:List.take (min (l.length+1-k) (l.length+1-(k+1))) (List.take (l.length+1-k) (List.drop k (l++[z])))=l.drop k:=by
  rw[List.take_take,List.drop_append_of_le_length (by omega),show min (min (l.length+1-k) (l.length+1-(k+1))) (l.length+1-k)=l.length-k by omega,List.take_append_of_le_length (by rw[qvs];omega),qvL (by rw[qvs];omega)]
 rw[e1,qgg _ _ _ (by rw[qvs,quN,quY];omega)]
 unfold qju
 have e2:List.drop (k+1+(l.length-k)) (l++[z])=[]:=qvm (by rw[quN,quY];omega)
 rw[qvs,e2,qv1,List.take_append_of_le_length (by omega)]
 rw[List.take_add_one,quI h,Option.toList_some,qvl,List.set_append_right _ _ (by rw[qv9];omega),qv9,Nat.min_eq_left (by omega),Nat.sub_self]
 rfl
theorem qeP {α:Type} (l:List α) (z c:α):List.set (l++[z]) l.length c=qju l l.length c:=by
 unfold qju
 rw[List.set_append_right _ _ (quW _),Nat.sub_self,List.take_length,List.drop_length]
 rfl
def atF (l:List qb) (c:qb):Nat:=(l.takeWhile fun x=>q7a x c).length
theorem qfQ (l:List qb) (c:qb):atF l c≤l.length:=by
 unfold atF
 induction l with
 | nil=>simp
 | cons x l ih=>rw[List.takeWhile_cons];split<;>simp<;>omega
theorem qgF (out:List qb) (hl:out.length≤1000000) (d:qd) (c:qb) (many k:Int):qB (Qe out d c many k) 0=some ((atF out c:Nat):Int):=by
 have h1:=q9z (ε:=Int) (step:=Qe out d c many k) out (fun(_:Unit) i=>(i:Int)) (fun i _ x=>if q7a x c=true then .inl () else .inr (i:Int)) (fun _=>(out.length:Int)) (fun _ i x hx=>by
   have hi:=Q6 hx
   unfold Qe
   rw[if_pos (by omega),if_pos ⟨by omega,by omega⟩,quJ,hx,quG,q5g hi (by omega)]
   show(if q7a x c=true then _ else _)=_
   cases q7a x c<;>simp) (fun _=>by
   unfold Qe
   rw[if_neg (by omega)]) ()
 rw[show((0:Nat):Int)=0 from rfl] at h1
 rw[h1]
 congr 1
 have:∀(l:List qb) (i:Nat) (n:Nat),i+l.length=n→q7g (ε:=Int) (fun i (_:Unit) (x:qb)=>if q7a x c=true then .inl () else .inr (i:Int)) (fun _=>(n:Int)) l i ()=((i+atF l c:Nat):Int):=by
  intro l
  induction l with
  | nil=>intro i n h;simp at h;unfold q7g atF;simp[h]
  | cons x l ih=>
   intro i n h
   simp only[quR] at h
   unfold q7g
   by_cases hx:q7a x c=true
   ·have e:atF (x::l) c=atF l c+1:=by unfold atF;rw[List.takeWhile_cons,if_pos hx];rfl
    simp only[hx,if_true]
    rw[ih (i+1) n (by omega),e]
    omega
   ·have e:atF (x::l) c=0:=by unfold atF;rw[List.takeWhile_cons,if_neg hx];rfl
    have hx':q7a x c=false:=by simpa using hx
    simp only[hx',Bool.false_eq_true,if_false]
    rw[e];rfl
 have:=this out 0 out.length (by simp)
 simpa using this
def qjt (l:List qb) (c:qb):List qb:=if(l[atF l c]?).any (fun x=>ceq x c)=true then l else qju l (atF l c) c
theorem qhd (l:List qb) (c:qb):l.length≤(qjt l c).length∧(qjt l c).length≤l.length+1∧1≤(qjt l c).length:=by
 have h:=qfQ l c
 unfold qjt
 split
 ·rename_i h2
  refine⟨quW _,by omega,?_⟩
  cases l with
  | nil=>simp at h2
  | cons x l=>simp
 ·unfold qju
  simp only[quN,quR,qv9,qvs]
  omega
theorem qdp (out:List qb) (hl:out.length≤1000) {d:qd} (hd:Z1 d) (many:Int) (k:Nat) (hk:(k:Int)<many) (hk2:k≤1000):∃c d',qcG c∧Z1 d'∧zF many (out,d,(k:Int))=some (.inl (qjt out c,d',((k+1:Nat):Int))):=by
 obtain⟨c,d',h1,h2,h3⟩:=q6u hd
 refine⟨c,d',h2,h3,?_⟩
 have hML:100000≤maxLen:=by unfold maxLen;omega
 have hat:=qfQ out c
 unfold zF
 simp only
 rw[if_pos hk,h1,quG]
 simp only
 rw[qgF out (by omega),quG]
 have hwk:w64 ((k:Int)+1)=((k+1:Nat):Int):=by rw[Ql (by omega) (by omega)];omega
 have hwa:w64 (((atF out c:Nat):Int)+1)=((atF out c+1:Nat):Int):=by rw[Ql (by omega) (by omega)];omega
 rw[hwk,hwa]
 simp only[quJ,qv9,qvs,quN,quR,qvp]
 unfold qjt
 by_cases hlt:atF out c<out.length
 ·obtain⟨x,hx⟩:∃x,out[atF out c]?=some x:=⟨_,quI hlt⟩
  rw[if_pos (by omega),if_pos ⟨by omega,by omega⟩,hx,quG]
  simp only[Option.any_some]
  by_cases hc:ceq x c=true
  ·have hc2:=hc
   unfold ceq at hc2
   simp only[qvc] at hc2
   rw[if_pos hc2,if_pos hc]
  ·have hc2:¬ ((x.School==c.School)=true∧(x.Code.toList==c.Code.toList)=true):=fun h=>hc (by unfold ceq;rw[h.1,h.2];rfl)
   rw[if_neg hc2,if_neg hc]
   repeat (first|rw[if_pos (by omega)]|rw[if_neg (by omega)])
   rw[qj1 _ _ _ _ hlt]
 ·have he:atF out c=out.length:=by omega
  have hnone:out[out.length]?=none:=qve (quW _)
  rw[he,hnone]
  simp only[Option.any_none,Bool.false_eq_true,if_false]
  repeat (first|rw[if_pos (by omega)]|rw[if_neg (by omega)])
  rw[qeP]
theorem qrl {d:qd} (hd:Z1 d):∃S d',zS d=some (S,d')∧Z1 d':=by
 obtain⟨v,d1,e1,a1,b1,h1⟩:=Jn hd (most:=3) (by omega) (by omega)
 obtain⟨m,rfl⟩:∃m:Nat,v=(m:Int):=⟨v.toNat,by omega⟩
 have hw:w64 (1+(m:Int))=((m+1:Nat):Int):=by rw[Ql (by omega) (by omega)];omega
 have key:∀(j k:Nat) (out:List qb) (d:qd),j+k=m+1→Z1 d→out.length≤k→∃S d',qB (zF ((m+1:Nat):Int)) (out,d,(k:Int))=some (S,d')∧Z1 d':=by
  intro j
  induction j with
  | zero=>
   intro k out d hk hd hl1
   refine⟨out,d,zf ?_,hd⟩
   unfold zF
   simp only
   rw[if_neg (by omega)]
  | succ j ih=>
   intro k out d hk hd hl1
   obtain⟨c,d',g1,g2,g3⟩:=qdp out (by omega) hd ((m+1:Nat):Int) k (by omega) (by omega)
   obtain⟨p1,p2,p3⟩:=qhd out c
   rw[zW g3]
   exact ih (k+1) _ d' (by omega) g2 (by omega)
 obtain⟨S,d',g1,g2⟩:=key (m+1) 0 [] d1 (by omega) h1 (by simp)
 refine⟨S,d',?_,g2⟩
 unfold zS
 rw[e1,quG,hw]
 rw[show((0:Nat):Int)=0 from rfl] at g1
 simp only
 rw[g1,quG]
def qcE (d:qd):Option (qg×qd):=Option.bind (qh (3:Int) d) fun a3=>if(a3.1==(0:Int))=Bool.true then Option.bind (qh (12:Int) a3.2) fun a4=>Option.bind (qh (3:Int) a4.2) fun a5=>if(0:Int)≤a5.1∧a5.1<(3:Int) then Option.bind [(0:Int),(50:Int),(60:Int)][Int.toNat a5.1]? fun a6=>Option.bind (zS a5.2) fun a7=>some (qg.mk (2:Int) (w64 ((1:Int)+a4.1)) a6 a7.1 [],a7.2) else none else Option.bind (qh (4:Int) a3.2) fun a8=>if(0:Int)≤a8.1∧a8.1<(4:Int) then Option.bind [(0:Int),(50:Int),(60:Int),(80:Int)][Int.toNat a8.1]? fun a9=>Option.bind (zS a8.2) fun a10=>some (qg.mk (1:Int) (0:Int) a9 a10.1 [],a10.2) else none
theorem q8I {d:qd} (hd:Z1 d):∃n d',qcE d=some (n,d')∧Z1 d':=by
 obtain⟨v,d1,e1,a1,b1,h1⟩:=Jn hd (most:=3) (by omega) (by omega)
 unfold qcE
 rw[e1,quG]
 simp only
 by_cases hv:v=0
 ·obtain⟨w,d2,e2,a2,b2,h2⟩:=Jn h1 (most:=12) (by omega) (by omega)
  obtain⟨u,d3,e3,a3,b3,h3⟩:=Jn h2 (most:=3) (by omega) (by omega)
  obtain⟨x,hx,mx⟩:=qeB [(0:Int),50,60] u a3 (by simpa using b3)
  obtain⟨S,d4,e4,h4⟩:=qrl h3
  have hw:w64 (1+w)=1+w:=Ql (by omega) (by omega)
  refine⟨⟨2,1+w,x,S,[]⟩,d4,?_,h4⟩
  rw[if_pos (by simp[hv]),e2,quG]
  simp only
  rw[e3,quG]
  simp only
  rw[if_pos ⟨a3,b3⟩,hx,quG,e4,quG,hw]
 ·obtain⟨u,d3,e3,a3,b3,h3⟩:=Jn h1 (most:=4) (by omega) (by omega)
  obtain⟨x,hx,mx⟩:=qeB [(0:Int),50,60,80] u a3 (by simpa using b3)
  obtain⟨S,d4,e4,h4⟩:=qrl h3
  refine⟨⟨1,0,x,S,[]⟩,d4,?_,h4⟩
  rw[if_neg (by simpa using hv),e3,quG]
  simp only
  rw[if_pos ⟨a3,b3⟩,hx,quG,e4,quG]
theorem q2m (rF:(Int×Int×qd)→Option (qg×qd)) (x1 x2:Int) (v:qd):QD rF (x1,x2,v)=(qh 6 v).bind fun a2=>
  if x1≤0 then qcE a2.2 else if x2<2 then qcE a2.2 else if a2.1<2 then qcE a2.2 else
  Option.bind (qh (min (3:Int) x2) a2.2) fun a27=>
  Option.bind (qB (zj rF (0:Int) (0:Int) (0:Int) (3:Int) (0:Int) (0:Int) x1 x2 a2.1 (w64 ((1:Int)+a27.1))) ([],(a27.2,(0:Int)))) fun a28=>
  if(3:Int)<a2.1 then Option.bind (qh (w64 ((1:Int)+a27.1)) a28.2) fun a29=>
   some (qg.mk (4:Int) (w64 ((1:Int)+a29.1)) (0:Int) [] a28.1,a29.2)
  else some (qg.mk (3:Int) (0:Int) (0:Int) [] a28.1,a28.2):=rfl
theorem qdg:∀(deep leaves:Nat) (d:qd),deep≤10→leaves≤100→Z1 d→∃n d',zB ((deep:Int),(leaves:Int),d)=some (n,d')∧Z1 d':=by
 intro deep
 induction deep with
 | zero=>
  intro leaves d _ _ hd
  obtain⟨v,d1,e1,a1,b1,h1⟩:=Jn hd (most:=6) (by omega) (by omega)
  obtain⟨n,d',g1,g3⟩:=q8I h1
  refine⟨n,d',?_,g3⟩
  rw[q0c,q2m,e1,quG,if_pos (by omega)]
  exact g1
 | succ deep ih=>
  intro leaves d hdp hlv hd
  obtain⟨v,d1,e1,a1,b1,h1⟩:=Jn hd (most:=6) (by omega) (by omega)
  obtain⟨n0,d0,g1,g3⟩:=q8I h1
  rw[q0c,q2m,e1,quG,if_neg (by omega)]
  by_cases hl:leaves<2
  ·exact⟨n0,d0,by rw[if_pos (by omega)];exact g1,g3⟩
  ·rw[if_neg (by omega)]
   by_cases hv:v<2
   ·exact⟨n0,d0,by rw[if_pos hv];exact g1,g3⟩
   ·rw[if_neg hv]
    clear g1 g3 n0 d0
    obtain⟨w,d2,e2,a2,b2,h2⟩:=Jn h1 (most:=min 3 (leaves:Int)) (by omega) (by omega)
    simp only
    rw[e2,quG]
    simp only
    obtain⟨m,hm⟩:∃m:Nat,(m:Int)=1+w:=⟨(1+w).toNat,by omega⟩
    have hw:w64 (1+w)=(m:Int):=by rw[Ql (by omega) (by omega)];omega
    rw[hw]
    have hm1:1≤m:=by omega
    have hm3:m≤3:=by omega
    have hml:m≤leaves:=by omega
    obtain⟨q,hq⟩:∃q,q=leaves / m:=⟨_,rfl⟩
    have hq1:1≤q:=by rw[hq];exact(Nat.le_div_iff_mul_le (by omega)).2 (by omega)
    have hqm:m*q≤leaves:=by rw[hq];exact Nat.mul_div_le _ _
    have hq2:q≤leaves:=by rw[hq];exact Nat.div_le_self _ _
    have hML:100000≤maxLen:=by unfold maxLen;omega
    have hdiv:w64 (Int.tdiv (leaves:Int) (m:Int))=(q:Int):=by
     rw[←Int.ofNat_tdiv,←hq,Ql (by omega) (by omega)]
    have hdeep:w64 (((deep+1:Nat):Int)-1)=(deep:Int):=by rw[Ql (by omega) (by omega)];omega
    have key:∀(j i:Nat) (l:List qg) (d:qd),j+i=m→l.length=i→Z1 d→∃l' d',qB (zj zB 0 0 0 3 0 0 ((deep+1:Nat):Int) (leaves:Int) v (m:Int)) (l,d,(i:Int))=some (l',d')∧l'.length=m∧Z1 d':=by
     intro j
     induction j with
     | zero=>
      intro i l d hi hl hd
      refine⟨l,d,zf ?_,by omega,hd⟩
      unfold zj
      simp only
      rw[if_neg (by omega)]
     | succ j ihj=>
      intro i l d hi hl hd
      obtain⟨n,d',q1,q3⟩:=ih q d (by omega) (by omega) hd
      have hs:zj zB 0 0 0 3 0 0 ((deep+1:Nat):Int) (leaves:Int) v (m:Int) (l,d,(i:Int))=some (.inl (l++[n],d',((i+1:Nat):Int))):=by
       unfold zj
       simp only
       rw[if_pos (by omega),if_neg (by omega),hdiv,hdeep,q1,quG]
       simp only
       rw[if_pos ⟨by omega,by omega⟩,Ql (by omega) (by omega)]
       rfl
      rw[zW hs]
      exact ihj (i+1) (l++[n]) d' (by omega) (by simp[hl]) q3
    obtain⟨l,d3,q1,q2,q4⟩:=key m 0 [] d2 (by omega) rfl h2
    rw[show((0:Nat):Int)=0 from rfl] at q1
    rw[q1,quG]
    by_cases hv3:(3:Int)<v
    ·obtain⟨u,d4,e4,a4,b4,h4⟩:=Jn q4 (most:=(m:Int)) (by omega) (by omega)
     have hwu:w64 (1+u)=1+u:=Ql (by omega) (by omega)
     simp only
     rw[if_pos hv3,e4,quG,hwu]
     exact⟨_,d4,rfl,h4⟩
    ·simp only
     rw[if_neg hv3]
     exact⟨_,d3,rfl,q4⟩
abbrev nmL:List ByteArray:=[ByteArray.mk (List.toArray [77,117,115,105,99]),ByteArray.mk (List.toArray [76,97,119]),ByteArray.mk (List.toArray [79,108,100,32,109,97,112,115])]
abbrev agL:List Int:=[(0:Int),(0:Int),(0:Int),(2:Int),(5:Int)]
theorem qlc (l:List Int) (hl:l.length≤9223372036854775807):∃p,qI l=some p:=by
 obtain⟨v1,d1,e1,a1,b1,h1⟩:=Jn (d:=⟨l,0⟩) ⟨by show(0:Int)≤0;omega,by show(0:Int)≤(l.length:Int);omega,hl⟩ (most:=3) (by omega) (by omega)
 obtain⟨v2,d2,e2,a2,b2,h2⟩:=Jn h1 (most:=3) (by omega) (by omega)
 obtain⟨v3,d3,e3,a3,b3,h3⟩:=Jn h2 (most:=5) (by omega) (by omega)
 obtain⟨v4,d4,e4,a4,b4,h4⟩:=Jn h3 (most:=3) (by omega) (by omega)
 obtain⟨v6,d6,e6,a6,b6,h6⟩:=Jn h4 (most:=20) (by omega) (by omega)
 obtain⟨v7,d7,e7,a7,b7,h7⟩:=Jn h6 (most:=3) (by omega) (by omega)
 obtain⟨v8,d8,e8,a8,b8,h8⟩:=Jn h7 (most:=6) (by omega) (by omega)
 obtain⟨v9,d9,e9,a9,b9,h9⟩:=Jn h8 (most:=5) (by omega) (by omega)
 obtain⟨v11,d11,e11,a11,b11,h11⟩:=Jn h9 (most:=3) (by omega) (by omega)
 obtain⟨c1,d12,e12,m12,h12⟩:=q6u h11
 obtain⟨c2,d13,e13,m13,h13⟩:=q6u h12
 obtain⟨n1,d14,e14,h14⟩:=qdg 3 6 d13 (by omega) (by omega) h13
 obtain⟨n2,d15,e15,h15⟩:=qdg 3 6 d11 (by omega) (by omega) h11
 obtain⟨nm,g5,q5⟩:=qeB nmL v4 a4 (by show v4<((3:Nat):Int);omega)
 obtain⟨ag,g10,q10⟩:=qeB agL v9 a9 (by show v9<((5:Nat):Int);omega)
 have w1:w64 (1+v1)=1+v1:=Ql (by omega) (by omega)
 have w2:w64 (1+v2)=1+v2:=Ql (by omega) (by omega)
 have w3:w64 (100*v3)=100*v3:=Ql (by omega) (by omega)
 have hm:0≤v7*v8∧v7*v8≤10:=by
  have hv7:v7=0∨v7=1∨v7=2:=by omega
  rcases hv7 with rfl|rfl|rfl<;>omega
 have w4:w64 (v7*v8)=v7*v8:=Ql (by omega) (by omega)
 have e14':zB ((3:Int),((6:Int),d13))=some (n1,d14):=e14
 have e15':zB ((3:Int),((6:Int),d11))=some (n2,d15):=e15
 unfold qI
 rw[e1,quG];dsimp only
 rw[e2,quG];dsimp only
 rw[e3,quG];dsimp only
 rw[e4,quG];dsimp only
 rw[if_pos ⟨a4,b4⟩,g5,quG,e6,quG];dsimp only
 rw[e7,quG];dsimp only
 rw[e8,quG];dsimp only
 rw[e9,quG];dsimp only
 rw[if_pos ⟨a9,b9⟩,g10,quG,e11,quG];dsimp only
 rw[w1,w2,w3,w4]
 by_cases h0:v11=0
 ·rw[if_pos (by simpa using h0),e12,quG];dsimp only
  rw[e13,quG];dsimp only
  by_cases hp:zy c1 c2=true
  ·rw[if_pos hp,e14',quG]
   exact⟨_,rfl⟩
  ·rw[if_neg hp,e14',quG]
   exact⟨_,rfl⟩
 ·rw[if_neg (by simpa using h0),e15',quG]
  exact⟨_,rfl⟩
end
noncomputable section
open Go.RowKit
section
variable {α ε:Type} {step:Int→Option (Int⊕ε)} (l:List α)
theorem q5d (q:α→Bool) (e0 e1:ε) (hs:∀(i:Nat) (a:α),l[i]?=some a→step (i:Int)=some (if q a=true then .inl ((i+1:Nat):Int) else .inr e0)) (he:step ((l.length:Nat):Int)=some (.inr e1)) :
  qB step (0:Int)=some (if l.all q=true then e1 else e0):=by
 have key:∀(r:List α) (i:Nat),r.length+i=l.length→(∀j,r[j]?=l[i+j]?)→qB step (i:Int)=some (if r.all q=true then e1 else e0):=by
  intro r
  induction r with
  | nil=>
   intro i hi _
   have:i=l.length:=by simpa using hi
   subst this
   exact zf he
  | cons a r ih=>
   intro i hi hj
   have ha:l[i]?=some a:=by have:=hj 0;rw[Nat.add_zero] at this;exact this.symm
   have h1:=hs i a ha
   rw[List.all_cons]
   cases hq:q a
   ·rw[hq,if_neg (by decide)] at h1
    exact zf h1
   ·rw[hq,if_pos rfl] at h1
    rw[zW h1,ih (i+1) (by simp only[quR] at hi;omega) (fun j=>by have:=hj (j+1);rw[qv5] at this;rw[this];congr 1;omega),qvd]
 exact key l 0 (by omega) fun j=>by rw[qv4]
theorem q1o (q:α→Bool) (mk:Nat→ε) (e1:ε) (hs:∀(i:Nat) (a:α),l[i]?=some a→step (i:Int)=some (if q a=true then .inr (mk i) else .inl ((i+1:Nat):Int))) (he:step ((l.length:Nat):Int)=some (.inr e1)) :
  (l.any q=true∧∃i,qB step (0:Int)=some (mk i))∨(l.any q=false∧qB step (0:Int)=some e1):=by
 have key:∀(r:List α) (i:Nat),r.length+i=l.length→(∀j,r[j]?=l[i+j]?)→(r.any q=true∧∃k,qB step (i:Int)=some (mk k))∨(r.any q=false∧qB step (i:Int)=some e1):=by
  intro r
  induction r with
  | nil=>
   intro i hi _
   have:i=l.length:=by simpa using hi
   subst this
   exact .inr ⟨rfl,zf he⟩
  | cons a r ih=>
   intro i hi hj
   have ha:l[i]?=some a:=by have:=hj 0;rw[Nat.add_zero] at this;exact this.symm
   have h1:=hs i a ha
   rw[List.any_cons]
   cases hq:q a
   ·rw[hq,if_neg (by decide)] at h1
    rw[zW h1,Bool.false_or]
    exact ih (i+1) (by simp only[quR] at hi;omega) (fun j=>by have:=hj (j+1);rw[qv5] at this;rw[this];congr 1;omega)
   ·rw[hq,if_pos rfl] at h1
    exact .inl ⟨rfl,i,zf h1⟩
 exact key l 0 (by omega) fun j=>by rw[qv4]
end
theorem Qk {i n:Nat} (h:i<n) (hn:n≤1000000):w64 ((i:Int)+1)=((i+1:Nat):Int):=q5g h (by omega)
theorem q2p (s:List Int) (hs:s.length≤1000000) (v:Int):qU s v=some (s.any fun x=>v==x):=by
 have h:=q1o (step:=qT s v ((s.length:Nat):Int)) s (fun x=>v==x) (fun i => .inl (i:Int)) (.inr ()) (fun i a ha=>by
  have hi:=Q6 ha
  unfold qT
  rw[if_pos (by omega),if_pos ⟨by omega,by omega⟩,quJ,ha,quG,Qk hi hs]
  split<;>rfl) (by
  unfold qT
  rw[if_neg (by omega)])
 unfold qU Q4
 rcases h with ⟨h1,i,h2⟩|⟨h1,h2⟩
 ·rw[h2,quG,Sum.elim_inl,quG,h1,qvG (by omega)]
 ·rw[h2,quG,Sum.elim_inr,quG,h1,decide_eq_false (by omega)]
def q65 (a b:List Int):Bool:=a.any fun x=>b.any fun y=>x==y
theorem qhe (a b:List Int) (ha:a.length≤1000000) (hb:b.length≤1000000):Q3 a b=some (q65 a b):=by
 have h:=q1o (step:=qD b a ((a.length:Nat):Int)) a (fun x=>b.any fun y=>x==y) (fun i => .inl (i:Int)) (.inr ()) (fun i x hx=>by
  have hi:=Q6 hx
  unfold qD Qv
  rw[if_pos (by omega),if_pos ⟨by omega,by omega⟩,quJ,hx,quG,q2p b hb,quG,quG,Qk hi ha]
  split<;>rfl) (by
  unfold qD
  rw[if_neg (by omega)])
 unfold Q3 zl zC q65
 rcases h with ⟨h1,i,h2⟩|⟨h1,h2⟩
 ·rw[h2,quG,Sum.elim_inl,quG,h1,qvG (by omega),quG]
 ·rw[h2,quG,Sum.elim_inr,quG,h1,decide_eq_false (by omega),quG]
theorem q5F (a b:List Int) (ha:a.length≤1000000):zh a b=some (decide (a=b)):=by
 unfold zh
 by_cases hl:a.length=b.length
 ·rw[if_neg (by rw[hl];simp)]
  have key:∀(r q:List Int) (i:Nat),r.length+i=a.length→q.length=r.length→(∀j,r[j]?=a[i+j]?)→(∀j,q[j]?=b[i+j]?)→qB (qF a b ((a.length:Nat):Int)) (i:Int)=some (if r=q then .inr () else .inl ()):=by
   intro r
   induction r with
   | nil=>
    intro q i hi hq _ _
    obtain rfl:=quZ hq
    have hi:i=a.length:=by simpa using hi
    refine zf ?_
    unfold qF
    rw[if_neg (by omega),if_pos rfl]
   | cons x r ih=>
    intro q i hi hq hr hb
    cases q with
    | nil=>cases hq
    | cons y q=>
     simp only[quR] at hi hq
     have hx:a[i]?=some x:=by have:=hr 0;rw[Nat.add_zero] at this;exact this.symm
     have hy:b[i]?=some y:=by have:=hb 0;rw[Nat.add_zero] at this;exact this.symm
     have e:qF a b ((a.length:Nat):Int) (i:Int)=some (if(x != y)=true then .inr (.inl ()) else .inl ((i+1:Nat):Int)):=by
      unfold qF
      rw[if_pos (by omega),if_pos ⟨by omega,by omega⟩,quJ,hx,quG,if_pos ⟨by omega,by omega⟩,hy,quG,Qk (Q6 hx) ha]
      split<;>rfl
     by_cases hxy:x=y
     ·subst hxy
      rw[if_neg (by simp)] at e
      rw[zW e,ih q (i+1) (by omega) (by omega) (fun j=>by have:=hr (j+1);rw[qv5] at this;rw[this];congr 1;omega) (fun j=>by have:=hb (j+1);rw[qv5] at this;rw[this];congr 1;omega)]
      simp
     ·rw[if_pos (by simpa using hxy)] at e
      rw[zf e,if_neg (fun h=>hxy (by injection h))]
  have h:=key a b 0 (by omega) hl.symm (fun j=>by rw[qv4]) (fun j=>by rw[qv4])
  change Option.bind (qB _ ((0:Nat):Int)) _=_
  rw[h,quG]
  by_cases e:a=b
  ·rw[if_pos e,Sum.elim_inr,qvG e]
  ·rw[if_neg e,Sum.elim_inl,decide_eq_false e]
 ·rw[if_pos (by simpa using fun h=>hl (by omega)),decide_eq_false (fun e=>hl (by rw[e]))]
def zH (a:qa):Prop:=a.Sources.length≤1000∧a.Path.length≤1000
def Z6 (a b:qa):Bool := !ceq a.Course b.Course&&((decide (0<a.Bundle)&&a.Bundle==b.Bundle&&decide (a.Path=b.Path)) || !q65 a.Sources b.Sources)
theorem q2M {a b:qa} (ha:zH a) (hb:zH b):Qm a b=some (Z6 a b):=by
 have h1:=ha.1;have h2:=ha.2;have h3:=hb.1
 unfold Qm Z6
 rw[q5F _ _ (by omega),qhe _ _ (by omega) (by omega)]
 simp only[quG]
 by_cases hc:ceq a.Course b.Course=true
 ·rw[if_pos (by unfold ceq at hc;rw[qvc] at hc;exact hc),hc];rfl
 ·rw[if_neg (by unfold ceq at hc;rw[qvc] at hc;exact hc),qv8.2 hc]
  by_cases h0:0<a.Bundle
  ·rw[if_pos h0,qvG h0]
   cases hbd:a.Bundle==b.Bundle
   ·rw[if_neg (by decide)];simp
   ·rw[if_pos rfl]
    cases hp:decide (a.Path=b.Path)
    ·rw[if_neg (by decide)];simp
    ·rw[if_pos rfl];simp
  ·rw[if_neg h0,decide_eq_false h0];simp
def qip (l:List qa):Int:=l.foldl (fun n a=>w64 (n+a.Credits)) 0
theorem q4z (l:List qa) (hl:l.length≤1000):QN l=some (qip l):=by
 have h:=q2d (step:=Q0 l ((l.length:Nat):Int)) l (fun(b:Int) k=>(b,(k:Int))) (fun b a=>w64 (b+a.Credits)) (fun b=>b) (fun b k a ha=>by
  have hi:=Q6 ha
  unfold Q0
  dsimp only
  rw[if_pos (by omega),if_pos ⟨by omega,by omega⟩,quJ,ha,quG,Qk hi (by omega)]) (fun b=>by
  unfold Q0
  dsimp only
  rw[if_neg (by omega)]) 0
 unfold QN
 change Option.bind (qB _ ((0:Int),((0:Nat):Int))) _=_
 rw[h];rfl
theorem q8b (x m:Int) (h0:0<m) (h1:m≤1000000):∃v,zQ x m=some v∧0≤v∧v<m:=by
 have e1:=Int.tmod_lt_of_pos x h0
 have e2 : -m<Int.tmod x m:=by
  have:=Int.tmod_lt_of_pos (-x) h0
  rw[Int.neg_tmod] at this;omega
 have e3:w64 (Int.tmod x m+m)=Int.tmod x m+m:=Ql (by omega) (by omega)
 refine⟨Int.tmod (Int.tmod x m+m) m,?_,Int.tmod_nonneg _ (by omega),Int.tmod_lt_of_pos _ h0⟩
 unfold zQ
 rw[if_neg (by omega),if_neg (by omega),e3]
theorem q3I {d:qd} (h:Z1 d) {most:Int} (h0:0<most) (h1:most≤1000000):∃v d',qq most d=some (v,d')∧0≤v∧v<most∧Z1 d':=by
 obtain⟨a,b,c⟩:=h
 unfold qq
 by_cases he:(d.L.length:Int)≤d.At
 ·exact⟨0,d,if_pos he,Int.le_refl _,h0,⟨a,b,c⟩⟩
 ·obtain⟨x,hx⟩:∃x,d.L[Int.toNat d.At]?=some x:=⟨_,quI (by omega)⟩
  obtain⟨v,e1,e2,e3⟩:=q8b x most h0 h1
  have e6:w64 (d.At+1)=d.At+1:=Ql (by omega) (by omega)
  have e7:w64 (d.At+1-1)=d.At:=by rw[Ql (by omega) (by omega)];omega
  refine⟨v,⟨d.L,d.At+1⟩,?_,e2,e3,⟨by show 0≤d.At+1;omega,by show d.At+1≤d.L.length;omega,c⟩⟩
  rw[if_neg he,e6,e7,if_pos ⟨a,by omega⟩,hx,quG,e1,quG]
end
noncomputable section
open Go.RowKit
structure q6o (j:Nat) (a:qa):Prop where
 src:a.Sources.length≤2+j
 pth:a.Path.length≤1+j
 crd:0≤a.Credits∧a.Credits≤40
 day:0≤a.Day∧a.Day≤1000
theorem q6o.fit {j:Nat} {a:qa} (h:q6o j a) (hj:j≤900):zH a:=⟨by have:=h.src;omega,by have:=h.pth;omega⟩
theorem q6o.mono {j j':Nat} {a:qa} (h:q6o j a) (hj:j≤j'):q6o j' a:=⟨by have:=h.src;omega,by have:=h.pth;omega,h.crd,h.day⟩
theorem q5t (t0:List (List Int)) (hq:∀q∈t0,q.length≤9223372036854775807) (l:List qa) (k:Nat) (hl:l.length=k) (hk:k<t0.length) (h8:k<8) :
  ∃a,q6o 0 a∧zG t0 (l,(k:Int))=some (.inl (l++[a],((k+1:Nat):Int))):=by
 have hML:100000≤maxLen:=by unfold maxLen;omega
 obtain⟨q,hqk⟩:∃q,t0[k]?=some q:=⟨_,quI hk⟩
 have hd:Z1 ⟨q,0⟩:=⟨by show(0:Int)≤0;omega,by show(0:Int)≤(q.length:Int);omega,hq q (quH hqk)⟩
 obtain⟨v1,d1,e1,a1,b1,h1⟩:=q3I hd (most:=6) (by omega) (by omega)
 obtain⟨c,hc,_⟩:=qeB qt v1 a1 (by unfold qt;simpa using b1)
 obtain⟨v2,d2,e2,a2,b2,h2⟩:=q3I h1 (most:=3) (by omega) (by omega)
 obtain⟨cr,hcr,mcr⟩:=qeB [(5:Int),6,10] v2 a2 (by simpa using b2)
 obtain⟨v3,d3,e3,a3,b3,h3⟩:=q3I h2 (most:=11) (by omega) (by omega)
 obtain⟨v4,d4,e4,a4,b4,h4⟩:=q3I h3 (most:=60) (by omega) (by omega)
 obtain⟨v5,d5,e5,a5,b5,h5⟩:=q3I h4 (most:=9) (by omega) (by omega)
 obtain⟨v6,d6,e6,a6,b6,h6⟩:=q3I h5 (most:=3) (by omega) (by omega)
 obtain⟨v7,d7,e7,a7,b7,h7⟩:=q3I h6 (most:=3) (by omega) (by omega)
 obtain⟨v8,d8,e8,a8,b8,h8'⟩:=q3I h7 (most:=4) (by omega) (by omega)
 obtain⟨v9,d9,e9,a9,b9,h9⟩:=q3I h8' (most:=3) (by omega) (by omega)
 obtain⟨v10,d10,e10,a10,b10,h10⟩:=q3I h9 (most:=3) (by omega) (by omega)
 obtain⟨v11,d11,e11,a11,b11,h11⟩:=q3I h10 (most:=3) (by omega) (by omega)
 have hw:w64 ((k:Int)+1)=((k+1:Nat):Int):=by rw[Ql (by omega) (by omega)];omega
 have hcr2:0≤cr∧cr≤40:=by
  have:cr=5∨cr=6∨cr=10:=by simpa using mcr
  omega
 have hdy:0≤w64 ((10:Int)*v4)∧w64 ((10:Int)*v4)≤1000:=by rw[Ql (by omega) (by omega)];omega
 unfold zG
 dsimp only
 rw[if_pos (by omega),if_pos (by omega),if_pos ⟨by omega,by omega⟩,quJ,hqk,quG,e1,quG]
 dsimp only
 rw[if_pos ⟨a1,by unfold qt;simpa using b1⟩,hc,quG,e2,quG]
 dsimp only
 rw[if_pos ⟨a2,b2⟩,hcr,quG,e3,quG]
 dsimp only
 rw[e4,quG]
 dsimp only
 rw[e5,quG]
 dsimp only
 rw[e6,quG]
 dsimp only
 rw[e7]
 by_cases h0:v6=0
 ·rw[if_pos (by simpa using h0),quG]
  dsimp only
  rw[e8,quG]
  dsimp only
  rw[e9,quG]
  dsimp only
  rw[e10]
  by_cases h00:v9=0
  ·rw[if_pos (by simpa using h00),quG]
   dsimp only
   rw[e11,quG]
   dsimp only
   rw[if_pos ⟨by omega,by omega⟩,hw]
   exact⟨_,⟨quW _,quW _,hcr2,hdy⟩,rfl⟩
  ·rw[if_neg (by simpa using h00),quG]
   dsimp only
   rw[if_pos ⟨by omega,by omega⟩,hw]
   exact⟨_,⟨by show 1≤2;omega,quW _,hcr2,hdy⟩,rfl⟩
 ·rw[if_neg (by simpa using h0),if_pos ⟨by omega,by omega⟩,hw]
  exact⟨_,⟨by show 1≤2;omega,by show 0≤1;omega,hcr2,hdy⟩,rfl⟩
theorem qmu (t0:List (List Int)) (hq:∀q∈t0,q.length≤9223372036854775807) (ht:t0.length≤9223372036854775807):∃l,Zl t0=some l∧l.length≤8∧∀a∈l,q6o 0 a:=by
 have key:∀(j k:Nat) (l:List qa),j+k=min t0.length 8→l.length=k→(∀a∈l,q6o 0 a)→∃l',qB (zG t0) (l,(k:Int))=some l'∧l'.length=min t0.length 8∧∀a∈l',q6o 0 a:=by
  intro j
  induction j with
  | zero=>
   intro k l hk hl hs
   refine⟨l,zf ?_,by omega,hs⟩
   unfold zG
   dsimp only
   by_cases h:(k:Int)<(t0.length:Int)
   ·rw[if_pos h,if_neg (by omega)]
   ·rw[if_neg h]
  | succ j ih=>
   intro k l hk hl hs
   obtain⟨a,h1,h2⟩:=q5t t0 hq l k hl (by omega) (by omega)
   rw[zW h2]
   refine ih (k+1) (l++[a]) (by omega) (by simp[hl]) fun x hx=>?_
   rcases qva.1 hx with h|h
   ·exact hs x h
   ·rw[qvw.1 h];exact h1
 obtain⟨l,h1,h2,h3⟩:=key (min t0.length 8) 0 [] (by omega) rfl (fun a ha=>by cases ha)
 refine⟨l,?_,by omega,h3⟩
 unfold Zl
 change Option.bind (qB _ ([],((0:Nat):Int))) _=_
 rw[h1];rfl
theorem qa6 {a:qa} (h:zH a):Zj a=some (a.Course.School,a.Course.Code,a.Credits,a.Grade,a.Day,a.Bundle,a.Sources,a.Path):=by
 have hML:100000≤maxLen:=by unfold maxLen;omega
 have h1:=h.1;have h2:=h.2
 unfold Zj
 rw[if_pos ⟨by omega,by omega⟩,if_pos ⟨by omega,by omega⟩]
theorem qpt {j:Nat} (hj:j≤100) {a:qa} (h:q6o j a) (q:QM Int):∃b,Qp a q=some b∧q6o (j+1) b:=by
 have hML:100000≤maxLen:=by unfold maxLen;omega
 have h1:=h.src;have h2:=h.pth;have h3:=h.crd;have h9:=h.day
 obtain⟨n,e1,n0,n1⟩:=q8b q.a1 40 (by omega) (by omega)
 obtain⟨k,e2,k0,k1⟩:=q8b q.a0 8 (by omega) (by omega)
 unfold Qp
 rw[qa6 (h.fit (by omega)),quG,e1,quG,e2,quG]
 dsimp only
 have hmod:0≤Int.tmod n 4∧Int.tmod n 4<4:=⟨Int.tmod_nonneg _ n0,Int.tmod_lt_of_pos _ (by omega)⟩
 obtain⟨c,hc,_⟩:=qeB [ByteArray.mk (List.toArray [65,49]),ByteArray.mk (List.toArray [66,49]),ByteArray.mk (List.toArray []),ByteArray.mk (List.toArray [65])] (Int.tmod n 4) hmod.1 (by simpa using hmod.2)
 have hb:∀(sc:Int) (cd:ByteArray) (cr g d:Int) (S:List Int) (bd:Int) (P:List Int),S.length≤2+(j+1)→P.length≤1+(j+1)→0≤cr∧cr≤40→0≤d∧d≤1000→q6o (j+1) (qa.mk (qb.mk sc cd) cr g d S bd P):=fun sc cd cr g d S bd P a1 a2 a3 a4=>⟨a1,a2,a3,a4⟩
 by_cases h00:k=0
 ·rw[if_pos (by simpa using h00)];exact⟨_,rfl,hb _ _ _ _ _ _ _ _ (by omega) (by omega) h3 h9⟩
 rw[if_neg (by simpa using h00)]
 by_cases h01:k=1
 ·rw[if_pos (by simpa using h01),if_pos hmod,hc,quG];exact⟨_,rfl,hb _ _ _ _ _ _ _ _ (by omega) (by omega) h3 h9⟩
 rw[if_neg (by simpa using h01)]
 by_cases h02:k=2
 ·rw[if_pos (by simpa using h02)];exact⟨_,rfl,hb _ _ _ _ _ _ _ _ (by omega) (by omega) ⟨n0,by omega⟩ h9⟩
 rw[if_neg (by simpa using h02)]
 by_cases h03:k=3
 ·rw[if_pos (by simpa using h03)];exact⟨_,rfl,hb _ _ _ _ _ _ _ _ (by omega) (by omega) h3 h9⟩
 rw[if_neg (by simpa using h03)]
 by_cases h04:k=4
 ·rw[if_pos (by simpa using h04)];exact⟨_,rfl,hb _ _ _ _ _ _ _ _ (by omega) (by omega) h3 (by rw[Ql (by omega) (by omega)];omega)⟩
 rw[if_neg (by simpa using h04)]
 by_cases h05:k=5
 ·rw[if_pos (by simpa using h05),if_pos ⟨by omega,by omega⟩];exact⟨_,rfl,hb _ _ _ _ _ _ _ _ (by simp;omega) (by omega) h3 h9⟩
 rw[if_neg (by simpa using h05)]
 by_cases h06:k=6
 ·rw[if_pos (by simpa using h06)];exact⟨_,rfl,hb _ _ _ _ _ _ _ _ (by omega) (by omega) h3 h9⟩
 rw[if_neg (by simpa using h06)]
 by_cases h07:k=7
 ·rw[if_pos (by simpa using h07),if_pos ⟨by omega,by omega⟩];exact⟨_,rfl,hb _ _ _ _ _ _ _ _ (by omega) (by simp;omega) h3 h9⟩
 ·rw[if_neg (by simpa using h07)];exact⟨_,rfl,hb _ _ _ _ _ _ _ _ (by omega) (by omega) h3 h9⟩
theorem qbx {j:Nat} (hj:j≤100) {l:List qa} (hl:l.length≤8) (hs:∀a∈l,q6o j a) (h0:0<l.length) (q:qg0 Int):∃(k:Nat) (a b:qa),k<l.length∧zQ q.a2 ((l.length:Nat):Int)=some (k:Int)∧l[k]?=some a∧Qp a (QM.mk q.a0 q.a1)=some b∧(List.set l k b).length≤8∧∀x∈List.set l k b,q6o (j+1) x:=by
 obtain⟨v,e1,v0,v1⟩:=q8b q.a2 ((l.length:Nat):Int) (by omega) (by omega)
 obtain⟨k,rfl⟩:∃k:Nat,v=(k:Int):=⟨v.toNat,by omega⟩
 have hk:k<l.length:=by omega
 obtain⟨b,e2,hb⟩:=qpt hj (hs _ (qvx hk)) (QM.mk q.a0 q.a1)
 refine⟨k,l[k],b,hk,e1,quI hk,e2,by rw[qvr];exact hl,fun x hx=>?_⟩
 rcases List.mem_or_eq_of_mem_set hx with h|rfl
 ·exact(hs x h).mono (by omega)
 ·exact hb
theorem q9b (c:Qj) (hq:∀q∈c.Has,q.length≤9223372036854775807) (ht:c.Has.length≤9223372036854775807) (hp:c.Programme.length≤9223372036854775807):∃l p d,zZ c=some (l,p,d)∧l.length≤8∧(∀a∈l,q6o 2 a)∧d=Int.tmod (w64 c.Day) 800:=by
 obtain⟨l,e1,l8,hs⟩:=qmu c.Has hq ht
 obtain⟨p,hpe⟩:=qlc c.Programme hp
 unfold zZ
 rw[e1,quG,hpe]
 by_cases h0:0<l.length
 ·have h0':(0:Int)<((l.length:Nat):Int):=by omega
  rw[if_pos h0']
  obtain⟨k,a,b,hk,q1,q2,q3,q4,q5⟩:=qbx (j:=0) (by omega) l8 hs h0 c.Odd.a0
  by_cases h1:(0:Int)<c.Odd.a0.a0
  ·rw[if_pos h1,q1,quG,if_pos ⟨by omega,by omega⟩,quJ,q2,quG,q3,quG,if_pos ⟨by omega,by omega⟩,if_pos (by omega),if_pos h0']
   by_cases h2:(0:Int)<c.Odd.a1.a0
   ·obtain⟨k',a',b',hk',r1,r2,r3,r4,r5⟩:=qbx (j:=1) (by omega) q4 q5 (by rw[qvr];exact h0) c.Odd.a1
    rw[qvr] at hk' r1
    rw[if_pos h2,r1,quG,if_pos ⟨by omega,by omega⟩,quJ,r2,quG,r3,quG,if_pos ⟨by omega,by omega⟩,if_pos (by omega)]
    exact⟨_,_,_,rfl,r4,r5,rfl⟩
   ·rw[if_neg h2]
    exact⟨_,_,_,rfl,q4,fun x hx=>(q5 x hx).mono (by omega),rfl⟩
  ·rw[if_neg h1,if_pos h0']
   by_cases h2:(0:Int)<c.Odd.a1.a0
   ·obtain⟨k',a',b',hk',r1,r2,r3,r4,r5⟩:=qbx (j:=0) (by omega) l8 hs h0 c.Odd.a1
    rw[if_pos h2,r1,quG,if_pos ⟨by omega,by omega⟩,quJ,r2,quG,r3,quG,if_pos ⟨by omega,by omega⟩,if_pos (by omega)]
    exact⟨_,_,_,rfl,r4,fun x hx=>(r5 x hx).mono (by omega),rfl⟩
   ·rw[if_neg h2]
    exact⟨_,_,_,rfl,l8,fun x hx=>(hs x hx).mono (by omega),rfl⟩
 ·have h0':¬ (0:Int)<((l.length:Nat):Int):=by omega
  rw[if_neg h0',if_neg h0']
  exact⟨_,_,_,rfl,l8,fun x hx=>(hs x hx).mono (by omega),rfl⟩
theorem qbX (c:Qj) (hq:∀q∈c.Has,q.length≤9223372036854775807) (ht:c.Has.length≤9223372036854775807) (hp:c.Programme.length≤9223372036854775807):∃l p d,zZ c=some (l,p,d)∧l.length≤8∧∀a∈l,q6o 2 a:=by
 obtain⟨l,p,d,h1,h2,h3,-⟩:=q9b c hq ht hp
 exact⟨l,p,d,h1,h2,h3⟩
end
noncomputable section
section
variable {A:Type} (fr:List A→Bool) (cr:List A→Int)
def dfs:List A→List A→Int→Int
 | [],_,b=>b
 | a::r,s,b=>dfs r s (if fr (s++[a])=true then dfs r (s++[a]) (max b (cr (s++[a]))) else b)
variable {fr cr}
end
end
noncomputable section
open Go.RowKit
theorem qc9 {α ε:Type} {step:Int→Option (Int⊕ε)} (l:List α) (q:α→Bool) (e0 e1:ε) (hs:∀(i:Nat) (a:α),l[i]?=some a→step (i:Int)=some (if q a=true then .inr e0 else .inl ((i+1:Nat):Int))) (he:step ((l.length:Nat):Int)=some (.inr e1)) :
  qB step (0:Int)=some (if l.any q=true then e0 else e1):=by
 rcases q1o l q (fun _=>e0) e1 hs he with ⟨h1,i,h2⟩|⟨h1,h2⟩
 ·rw[h2,h1];rfl
 ·rw[h2,h1];rfl
theorem qfh (a b:List Int) (ha:a.length≤1000000):Qr a b=some (decide (a=b)):=by
 unfold Qr
 by_cases hl:a.length=b.length
 ·rw[if_neg (by rw[hl];simp)]
  have key:∀(r q:List Int) (i:Nat),r.length+i=a.length→q.length=r.length→(∀j,r[j]?=a[i+j]?)→(∀j,q[j]?=b[i+j]?)→qB (zn a b) (i:Int)=some (if r=q then .inr () else .inl ()):=by
   intro r
   induction r with
   | nil=>
    intro q i hi hq _ _
    obtain rfl:=quZ hq
    have hi:i=a.length:=by simpa using hi
    refine zf ?_
    unfold zn
    rw[if_neg (by omega),if_pos rfl]
   | cons x r ih=>
    intro q i hi hq hr hb
    cases q with
    | nil=>cases hq
    | cons y q=>
     simp only[quR] at hi hq
     have hx:a[i]?=some x:=by have:=hr 0;rw[Nat.add_zero] at this;exact this.symm
     have hy:b[i]?=some y:=by have:=hb 0;rw[Nat.add_zero] at this;exact this.symm
     have e:zn a b (i:Int)=some (if(x != y)=true then .inr (.inl ()) else .inl ((i+1:Nat):Int)):=by
      unfold zn
      rw[if_pos (by omega),if_pos ⟨by omega,by omega⟩,quJ,hx,quG,if_pos ⟨by omega,by omega⟩,hy,quG,Qk (Q6 hx) ha]
      split<;>rfl
     by_cases hxy:x=y
     ·subst hxy
      rw[if_neg (by simp)] at e
      rw[zW e,ih q (i+1) (by omega) (by omega) (fun j=>by have:=hr (j+1);rw[qv5] at this;rw[this];congr 1;omega) (fun j=>by have:=hb (j+1);rw[qv5] at this;rw[this];congr 1;omega)]
      simp
     ·rw[if_pos (by simpa using hxy)] at e
      rw[zf e,if_neg (fun h=>hxy (by injection h))]
  have h:=key a b 0 (by omega) hl.symm (fun j=>by rw[qv4]) (fun j=>by rw[qv4])
  change Option.bind (qB _ ((0:Nat):Int)) _=_
  rw[h,quG]
  by_cases e:a=b
  ·rw[if_pos e,Sum.elim_inr,qvG e]
  ·rw[if_neg e,Sum.elim_inl,decide_eq_false e]
 ·rw[if_pos (by simpa using fun h=>hl (by omega)),decide_eq_false (fun e=>hl (by rw[e]))]
theorem qfr (a b:qb):ceq a b=ceq b a:=by
 unfold ceq
 rw[Bool.beq_comm (a:=a.School),Bool.beq_comm (a:=a.Code.toList)]
theorem q9J (a b:List Int):q65 a b=q65 b a:=by
 have h:∀a b:List Int,q65 a b=true→q65 b a=true:=fun a b h=>by
  unfold q65 at h ⊢
  obtain⟨x,h1,h2⟩:=qvA.1 h
  obtain⟨y,h3,h4⟩:=qvA.1 h2
  have e:x=y:=by simpa using h4
  exact qvA.2 ⟨y,h3,qvA.2 ⟨x,h1,by simp[e]⟩⟩
 exact Bool.eq_iff_iff.2 ⟨h a b,h b a⟩
theorem q6R (a b:qa):Z6 a b=Z6 b a:=by
 unfold Z6
 rw[qfr,q9J]
 by_cases hb:a.Bundle=b.Bundle
 ·rw[hb]
  have e:decide (a.Path=b.Path)=decide (b.Path=a.Path):=by
   by_cases hp:a.Path=b.Path
   ·rw[hp]
   ·rw[decide_eq_false hp,decide_eq_false fun h=>hp h.symm]
  rw[e]
 ·rw[show(a.Bundle==b.Bundle)=false by simpa using hb,show(b.Bundle==a.Bundle)=false by simpa using fun h=>hb h.symm];simp
def q3J:List qa→Bool
 | []=>true
 | a::l=>l.all (fun b=>Z6 a b)&&q3J l
theorem qhN (l:List qa) (hl:l.length≤1000) (hf:∀a∈l,zH a):Zb l=some (q3J l):=by
 have cf:∀(s:List qa) (a:qa),s.length≤1000→(∀b∈s,zH b)→zH a→qn s a=some (s.any fun b => !Z6 a b):=fun s a hs hsf ha=>by
  have h:=q1o (step:=ql a s ((s.length:Nat):Int)) s (fun b => !Z6 a b) (fun i => .inl (i:Int)) (.inr ()) (fun i b hb=>by
   have hi:=Q6 hb
   unfold ql Zu
   rw[if_pos (by omega),if_pos ⟨by omega,by omega⟩,quJ,hb,quG,q2M ha (hsf b (quH hb)),quG,quG,Qk hi (by omega)]
   split<;>rfl) (by
   unfold ql
   rw[if_neg (by omega)])
  unfold qn qs
  rcases h with ⟨h1,i,h2⟩|⟨h1,h2⟩
  ·rw[h2,quG,Sum.elim_inl,quG,h1,qvG (by omega)]
  ·rw[h2,quG,Sum.elim_inr,quG,h1,decide_eq_false (by omega)]
 have key:∀(r:List qa) (i:Nat),r.length+i=l.length→l.drop i=r→qB (Qd l l ((l.length:Nat):Int)) (i:Int)=some (if q3J r=true then .inr () else .inl ()):=by
  intro r
  induction r with
  | nil=>
   intro i hi _
   have hi:i=l.length:=by simpa using hi
   refine zf ?_
   unfold Qd
   rw[if_neg (by omega)];rfl
  | cons a r ih=>
   intro i hi hd
   simp only[quR] at hi
   have ha:l[i]?=some a:=by have:=congrArg (fun x:List qa=>x[0]?) hd;simpa [List.getElem?_drop] using this
   have hd1:l.drop (i+1)=r:=by rw[←qvt,hd];rfl
   have hr:∀b∈r,zH b:=fun b hb=>hf b (List.mem_of_mem_drop (i:=i) (by rw[hd];exact quO _ hb))
   have e:Qd l l ((l.length:Nat):Int) (i:Int)=some (if(r.any fun b => !Z6 a b)=true then .inr (.inl ()) else .inl ((i+1:Nat):Int)):=by
    unfold Qd
    rw[if_pos (by omega),if_pos ⟨by omega,by omega⟩,quJ,ha,quG,Qk (Q6 ha) (by omega),if_pos ⟨by omega,by omega⟩,quJ,hd1,qvL (by omega),cf r a (by omega) hr (hf a (quH ha)),quG]
    split<;>rfl
   unfold q3J
   cases hq:r.any fun b => !Z6 a b
   ·have hall:r.all (fun b=>Z6 a b)=true:=by
     rw[quX];intro b hb
     have:=List.any_eq_false.1 hq b hb
     simpa using this
    rw[hq,if_neg (by decide)] at e
    rw[zW e,ih (i+1) (by omega) hd1,hall,qvd]
   ·have hall:r.all (fun b=>Z6 a b)=false:=by
     rw[List.all_eq_false]
     obtain⟨b,h1,h2⟩:=qvA.1 hq
     exact⟨b,h1,by simpa using h2⟩
    rw[hq,if_pos rfl] at e
    rw[zf e,hall];rfl
 unfold Zb
 change Option.bind (qB _ ((0:Nat):Int)) _=_
 rw[key l 0 (by omega) rfl,quG]
 cases q3J l<;>rfl
end
noncomputable section
open Go.RowKit
theorem qaR (l:List qa) (hl:l.length≤100) (hf:∀a∈l,zH a):∀(r set:List qa) (k:Nat) (b:Int),r.length+k=l.length→l.drop k=r→set.length≤k→(∀a∈set,zH a)→
  qB (zp zT set) (b,l,(k:Int))=some (.inr (dfs q3J qip r set b,l)):=by
 have hML:100000≤maxLen:=by unfold maxLen;omega
 intro r
 induction r with
 | nil=>
  intro set k b hk hd hs hsf
  have hk:k=l.length:=by simpa using hk
  refine zf ?_
  unfold zp
  dsimp only
  rw[if_neg (by omega)];rfl
 | cons a r ih=>
  intro set k b hk hd hs hsf
  simp only[quR] at hk
  have ha:l[k]?=some a:=by have:=congrArg (fun x:List qa=>x[0]?) hd;simpa [List.getElem?_drop] using this
  have hd1:l.drop (k+1)=r:=by rw[←qvt,hd];rfl
  have hklt:=Q6 ha
  have hsf1:∀x∈set++[a],zH x:=fun x hx=>by
   rcases qva.1 hx with h|h
   ·exact hsf x h
   ·rw[qvw.1 h];exact hf a (quH ha)
  have hlen:(set++[a]).length=set.length+1:=by simp
  have e:zp zT set (b,l,(k:Int))=some (.inl (if q3J (set++[a])=true then dfs q3J qip r (set++[a]) (max b (qip (set++[a]))) else b,l,((k+1:Nat):Int))):=by
   unfold zp
   dsimp only
   rw[if_pos (by omega),if_pos ⟨by omega,by omega⟩,quJ,ha,quG,if_pos ⟨by omega,by omega⟩,qhN _ (by omega) hsf1,quG,Qk hklt (by omega)]
   by_cases hfr:q3J (set++[a])=true
   ·rw[if_pos hfr,if_pos hfr,ZG]
    unfold zJ QB
    dsimp only
    rw[q4z _ (by omega),quG,quG,ih (set++[a]) (k+1) _ (by omega) hd1 (by omega) hsf1,quG]
    rfl
   ·rw[if_neg hfr,if_neg hfr]
  rw[zW e,ih set (k+1) _ (by omega) hd1 (by omega) hsf]
  rfl
theorem qiQ (l:List qa) (hl:l.length≤10) (hf:∀a∈l,zH a):Qz l=some (dfs q3J qip l [] 0,0):=by
 unfold Qz Ze
 rw[if_neg (by omega),ZG]
 unfold zJ QB
 dsimp only
 rw[q4z [] (by simp),quG,quG]
 change Option.bind (Option.bind (Option.bind (qB _ (max 0 (qip []),l,((0:Nat):Int))) _) _) _=_
 rw[qaR l (by omega) hf l [] 0 _ (by omega) rfl (by simp) (by simp)]
 rfl
end
noncomputable section
open Go.RowKit
theorem q3t {κ ν:Type} [DecidableEq κ] (z:ν) (k:κ) (v:ν) (b:κ):∀M:List (κ×ν),QV z (q2k M k v) b=if b=k then v else QV z M b
 | []=>by
  show(if b=k then v else z)=_
  rfl
 | p::M=>by
  unfold q2k
  by_cases h:k=p.1
  ·rw[if_pos h]
   show(if b=k then v else QV z M b)=if b=k then v else QV z (p::M) b
   by_cases hb:b=k
   ·rw[if_pos hb,if_pos hb]
   ·rw[if_neg hb,if_neg hb]
    show _=if b=p.1 then p.2 else QV z M b
    rw[if_neg (by rw[←h];exact hb)]
  ·rw[if_neg h]
   show(if b=p.1 then p.2 else QV z (q2k M k v) b)=if b=k then v else(if b=p.1 then p.2 else QV z M b)
   rw[q3t z k v b M]
   by_cases hb:b=p.1
   ·rw[if_pos hb,if_pos hb,if_neg (fun h'=>h (by rw[←h',hb]))]
   ·rw[if_neg hb,if_neg hb]
theorem q4R (x:Int):∀(l:List Int) (n:Int),n∈cpF x l↔n∈x::l
 | [],n=>Iff.rfl
 | y::l,n=>by
  unfold cpF
  by_cases h:x=y
  ·rw[if_pos h,q4R y l n];subst h;simp
  ·rw[if_neg h,qv2,q4R y l n,qv2 (l:=y::l)]
theorem q3P (x:Int):∀(l:List Int),(x::l).Pairwise (·≤·)→(cpF x l).Nodup
 | [],_=>by simp[cpF]
 | y::l,h=>by
  unfold cpF
  obtain⟨h1,h2⟩:=List.pairwise_cons.1 h
  by_cases e:x=y
  ·rw[if_pos e];exact q3P y l h2
  ·rw[if_neg e,List.nodup_cons]
   refine⟨fun hx=>?_,q3P y l h2⟩
   have hy:=h1 y quV
   rcases qv2.1 ((q4R y l x).1 hx) with h|h
   ·exact e h
   ·have:=(List.pairwise_cons.1 h2).1 x h
    omega
theorem qaa (s:List Int) (n:Int):n∈cpI (Zs s)↔n∈s:=by
 rw[←(q0C s).mem_iff]
 cases Zs s with
 | nil=>exact Iff.rfl
 | cons x l=>exact q4R x l n
theorem q9Y (s:List Int):(cpI (Zs s)).Nodup:=by
 have:=q09 s
 cases h:Zs s with
 | nil=>exact .nil
 | cons x l=>rw[h] at this;exact q3P x l this
def q46 (M:List (Int×Int)) (n:Int):List (Int×Int):=q2k M n (w64 (QV 0 M n+1))
theorem q5y:∀(ns:List Int) (M:List (Int×Int)) (k:Int),ns.Nodup→(∀n∈ns,0≤QV 0 M n∧QV 0 M n<1000000)→QV 0 (ns.foldl q46 M) k=QV 0 M k+if k∈ns then 1 else 0
 | [],M,k,_,_=>by simp
 | n::ns,M,k,hn,hb=>by
  obtain⟨h1,h2⟩:=List.nodup_cons.1 hn
  have hw:w64 (QV 0 M n+1)=QV 0 M n+1:=by have:=hb n quV;exact Ql (by omega) (by omega)
  have hg:∀b,QV 0 (q46 M n) b=if b=n then QV 0 M n+1 else QV 0 M b:=fun b=>by unfold q46;rw[q3t,hw]
  rw[qvI,q5y ns (q46 M n) k h2 (fun m hm=>by
   rw[hg,if_neg (fun h:m=n=>h1 (by rw[←h];exact hm))];exact hb m (quO _ hm)),hg]
  by_cases e:k=n
  ·subst e;rw[if_pos rfl,if_neg h1,if_pos quV];omega
  ·rw[if_neg e]
   by_cases hk:k∈ns
   ·rw[if_pos hk,if_pos (quO _ hk)]
   ·rw[if_neg hk,if_neg (fun h=>(qv2.1 h).elim e hk)]
def qbl (l:List (List Int)) (M:List (Int×Int)):List (Int×Int):=l.foldl (fun M s=>(cpI (Zs s)).foldl q46 M) M
theorem qbK:∀(l:List (List Int)) (M:List (Int×Int)) (b:Nat),(∀k,0≤QV 0 M k∧QV 0 M k≤(b:Int))→b+l.length<1000000→∀k,QV 0 (qbl l M) k=QV 0 M k+((l.filter fun s=>decide (k∈s)).length:Int)
 | [],M,b,_,_,k=>by simp[qbl]
 | s::l,M,b,hM,hl,k=>by
  simp only[quR] at hl
  have hg:∀k,QV 0 ((cpI (Zs s)).foldl q46 M) k=QV 0 M k+if k∈cpI (Zs s) then 1 else 0:=fun k=>q5y _ M k (q9Y s) fun n _=>by have:=hM n;omega
  have hs:qbl (s::l) M=qbl l ((cpI (Zs s)).foldl q46 M):=rfl
  rw[hs,qbK l _ (b+1) (fun k=>by
   rw[hg];have:=hM k
   split<;>omega) (by omega),hg,List.filter_cons]
  by_cases h:k∈s
  ·rw[if_pos ((qaa s k).2 h),if_pos (by simpa using h),quR];omega
  ·rw[if_neg (fun h'=>h ((qaa s k).1 h')),if_neg (by simpa using h)];omega
theorem qiq (l:List (List Int)) (hl:l.length<1000000) (k:Int):QV 0 (qbl l []) k=((l.filter fun s=>decide (k∈s)).length:Int):=by
 rw[qbK l [] 0 (fun k=>by show(0:Int)≤0∧(0:Int)≤0;omega) (by omega)]
 show(0:Int)+_=_
 omega
theorem qfn {l:List (List Int)} {i:Nat} {s:List Int} {k:Int} (hi:l[i]?=some s) (hk:k∈s):(1:Int)<((l.filter fun s=>decide (k∈s)).length:Int)↔∃j t,j≠i∧l[j]?=some t∧k∈t:=by
 have hlt:=Q6 hi
 have e:l=l.take i++s::l.drop (i+1):=by
  rw[quI hlt] at hi
  injection hi with hi
  rw[←hi,List.getElem_cons_drop,qvu]
 have hf:(l.filter fun s=>decide (k∈s)).length=((l.take i).filter fun s=>decide (k∈s)).length+(((l.drop (i+1)).filter fun s=>decide (k∈s)).length+1):=by
  conv=>lhs;rw[e]
  rw[List.filter_append,quN,List.filter_cons,if_pos (by simpa using hk),quR]
 rw[hf]
 constructor
 ·intro h
  have:0<((l.take i).filter fun s=>decide (k∈s)).length∨0<((l.drop (i+1)).filter fun s=>decide (k∈s)).length:=by omega
  rcases this with h|h
  ·obtain⟨t,ht⟩:=List.exists_mem_of_length_pos h
   obtain⟨h1,h2⟩:=qvB.1 ht
   obtain⟨j,hj⟩:=List.getElem?_of_mem h1
   have hji:j<i:=by have:=Q6 hj;rw[qv9] at this;omega
   rw[qvf hji] at hj
   exact⟨j,t,by omega,hj,by simpa using h2⟩
  ·obtain⟨t,ht⟩:=List.exists_mem_of_length_pos h
   obtain⟨h1,h2⟩:=qvB.1 ht
   obtain⟨j,hj⟩:=List.getElem?_of_mem h1
   rw[List.getElem?_drop] at hj
   exact⟨i+1+j,t,by omega,hj,by simpa using h2⟩
 ·rintro⟨j,t,h1,h2,h3⟩
  by_cases hji:j<i
  ·have:0<((l.take i).filter fun s=>decide (k∈s)).length:=List.length_pos_of_mem (a:=t) (qvB.2 ⟨quH (i:=j) (by rw[qvf hji];exact h2),by simpa using h3⟩)
   omega
  ·have:0<((l.drop (i+1)).filter fun s=>decide (k∈s)).length:=List.length_pos_of_mem (a:=t) (qvB.2 ⟨quH (i:=j-(i+1)) (by rw[List.getElem?_drop,show i+1+(j-(i+1))=j by omega];exact h2),by simpa using h3⟩)
   omega
end
noncomputable section
open Go.RowKit
def q7O (n a b:Int):Int:=max (min a b) (min n (max a b))
def q4J (s:qe):Bool:=q7O s.Worst (-1000) 1000==s.Worst&&q7O s.Best (-1000) 1000==s.Best&&s.Worst != s.Best&&q7O s.Pass s.Worst s.Best==s.Pass
def q84 (s:qe) (g:Int):Bool:=q4J s&&q7O g s.Worst s.Best==g
def qai (s:qe) (g m:Int):Bool:=q84 s g&&(g==m||(decide (m<g)==decide (s.Worst<s.Best)))
theorem q5o (s:qe):Z0 s=some (if q4J s then 0 else 10):=by
 have h1:=qdk (ε:=Unit⊕Unit) (step:=zU [s.Worst,s.Best] s 2) [s.Worst,s.Best] (fun i=>(i:Int)) (fun a=>if q7O a (-1000) 1000 != a then some (.inl ()) else none) (.inr ()) (fun i a ha=>by
   have hi:i<2:=by obtain⟨h,_⟩:=quK.1 ha;simpa using h
   have hw:w64 ((i:Int)+1)=((i+1:Nat):Int):=q5g hi (by omega)
   unfold zU
   rw[if_pos (by omega),if_pos ⟨by omega,by simpa using by omega⟩,quJ,ha,quG,hw]
   show(if(q7O a (-1000) 1000 != a)=true then _ else _)=_
   split<;>simp_all) (by
   unfold zU
   rfl)
 unfold Z0
 rw[show((0:Int))=((0:Nat):Int) from rfl,h1,quG]
 unfold q4J qL
 simp only[List.findSome?_cons,List.findSome?_nil]
 show _=some (if(q7O s.Worst (-1000) 1000==s.Worst&&q7O s.Best (-1000) 1000==s.Best&&s.Worst != s.Best&&q7O s.Pass s.Worst s.Best==s.Pass)=true then 0 else 10)
 change (Sum.elim _ (fun _=>if(s.Worst==s.Best)=true then some (10:Int) else if(q7O s.Pass s.Worst s.Best != s.Pass)=true then some 10 else some 0) _)=_
 by_cases e1:q7O s.Worst (-1000) 1000=s.Worst<;>by_cases e2:q7O s.Best (-1000) 1000=s.Best<;>by_cases e3:s.Worst=s.Best<;>by_cases e4:q7O s.Pass s.Worst s.Best=s.Pass<;>simp[e1,e2,e3,e4,bne]
theorem q4W (s:qe) (g:Int):QW s g=some (q84 s g):=by
 unfold QW q84
 rw[q5o,quG]
 cases h:q4J s<;>simp[qL,q7O]
theorem q8R (s:qe) (g m:Int):QA s g m=some (qai s g m):=by
 unfold QA qai
 rw[q4W,quG]
 cases h:q84 s g
 ·simp
 ·by_cases h2:g=m<;>simp[h2]
def q4V (s:qe) (a b:qa):Bool:=ceq a.Course b.Course&&(a.Bundle==b.Bundle)&&decide (a.Path=b.Path)&&decide (b.Credits≤a.Credits)&&decide (b.Day≤a.Day)&&qai s a.Grade b.Grade
theorem qcg (s:qe) {a b:qa} (ha:zH a):QH s a b=some (q4V s a b):=by
 have h2:=ha.2
 unfold QH q4V
 rw[q5F _ _ (by omega),q8R]
 simp only[quG]
 by_cases hc:ceq a.Course b.Course=true
 ·rw[if_pos (by unfold ceq at hc;rw[qvc] at hc;exact hc),hc]
  cases a.Bundle==b.Bundle
  ·rfl
  ·rw[if_pos rfl]
   by_cases hp:a.Path=b.Path
   ·rw[qvG hp,if_pos rfl]
    by_cases h3:b.Credits≤a.Credits
    ·rw[if_pos h3,qvG h3]
     by_cases h4:b.Day≤a.Day
     ·rw[if_pos h4,qvG h4];simp
     ·rw[if_neg h4,decide_eq_false h4];simp
    ·rw[if_neg h3,decide_eq_false h3];simp
   ·rw[decide_eq_false hp,if_neg (by decide)];simp
 ·rw[if_neg (by unfold ceq at hc;rw[qvc] at hc;exact hc),qv8.2 hc];rfl
theorem qc4 {ε:Type} {step:Int→Option (Int⊕ε)} (n:Nat) (q:Nat→Bool) (e0 e1:ε) (hs:∀i,i<n→step (i:Int)=some (if q i=true then .inr e0 else .inl ((i+1:Nat):Int))) (he:step ((n:Nat):Int)=some (.inr e1)) :
  qB step (0:Int)=some (if(List.range n).any q=true then e0 else e1):=
 qc9 (List.range n) q e0 e1 (fun i a ha=>by
  have hi:=Q6 ha
  rw[List.length_range] at hi
  rw[List.getElem?_range hi] at ha
  injection ha with ha
  subst ha
  exact hs i hi) (by rw[List.length_range];exact he)
def qh8 (l:List qa) (i:Nat) (n:Int):Bool:=(List.range l.length).any fun j=>decide (j≠i)&&(l[j]?.any fun c=>c.Sources.any fun x=>x==n)
def qp6 (s:qe) (l:List qa) (i k:Nat) (a b:qa):Bool:=decide (i≠k)&&q4V s a b&&a.Sources.all fun n=>(b.Sources.any fun x=>n==x) || !qh8 l i n
def plc (s:qe) (l:List qa) (k i:Nat):Bool:=match l[i]?,l[k]? with
 | some a,some b=>qp6 s l i k a b
 | _,_=>false
def qc2 (s:qe) (l:List qa) (k:Nat):Bool:=(List.range l.length).any (plc s l k)
theorem qgG {l:List qa} {i:Nat} {n:Int}:qh8 l i n=true↔∃j t,j≠i∧(l.map fun a=>a.Sources)[j]?=some t∧n∈t:=by
 unfold qh8
 rw[qvA]
 constructor
 ·rintro⟨j,h1,h2⟩
  rw[qvc] at h2
  obtain⟨h2,h3⟩:=h2
  cases hj:l[j]? with
  | none=>rw[hj] at h3;cases h3
  | some c=>
   rw[hj] at h3
   refine⟨j,c.Sources,of_decide_eq_true h2,by rw[quU,hj];rfl,?_⟩
   obtain⟨x,h4,h5⟩:=qvA.1 (show(c.Sources.any fun x=>x==n)=true from h3)
   rw[show n=x by simpa using (eq_comm.1 (beq_iff_eq.1 h5))];exact h4
 ·rintro⟨j,t,h1,h2,h3⟩
  rw[quU] at h2
  obtain⟨c,h4,rfl⟩:=quT.1 h2
  refine⟨j,qvC.2 (Q6 h4),?_⟩
  rw[qvG h1,h4]
  show(c.Sources.any fun x=>x==n)=true
  exact qvA.2 ⟨n,h3,by simp⟩
theorem qei (w:List Int) (hw:w.length≤1000) (l:List qa) (t11 t12:Int) (M:List (Int×Int)):qB (Qf w l t11 t12 ((w.length:Nat):Int)) (M,(0:Int))=some (w.foldl q46 M):=by
 exact q2d (step:=Qf w l t11 t12 ((w.length:Nat):Int)) w (fun(b:List (Int×Int)) k=>(b,(k:Int))) q46 (fun b=>b) (fun b k a ha=>by
  have hi:=Q6 ha
  unfold Qf
  dsimp only
  rw[if_pos (by omega),if_pos ⟨by omega,by omega⟩,quJ,ha,quG,Qk hi (by omega)]
  rfl) (fun b=>by
  unfold Qf
  dsimp only
  rw[if_neg (by omega)]) M
theorem qkv (l:List qa) (hl:l.length≤1000) (hf:∀a∈l,zH a):Zy l=some (qbl (l.map fun a=>a.Sources) []):=by
 have hML:100000≤maxLen:=by unfold maxLen;omega
 have h:=q2d (step:=Qs l ((l.length:Nat):Int)) l (fun(b:List (Int×Int)) k=>(b,(k:Int))) (fun M a=>(cpI (Zs a.Sources)).foldl q46 M) (fun b=>b) (fun b k a ha=>by
  have hi:=Q6 ha
  have hfa:=(hf a (quH ha)).1
  have hc:(cpI (Zs a.Sources)).length≤1000:=qvh (q6Z _) (by rw[q0j];exact hfa)
  unfold Qs qW qC
  dsimp only
  rw[if_pos (by omega),if_pos ⟨by omega,by omega⟩,quJ,ha,quG,if_pos ⟨by omega,by omega⟩,quG,if_pos (by omega),qei _ hc,quG,Qk hi (by omega)]) (fun b=>by
  unfold Qs
  dsimp only
  rw[if_neg (by omega)]) []
 unfold Zy
 change Option.bind (qB _ ([],((0:Nat):Int))) _=_
 rw[h,quG]
 unfold qbl
 rw[List.foldl_map]
theorem q8Q (S:List Int) (hS:S.length≤1000) (M:List (Int×Int)) (l:List qa) (k:Nat) (b:qa) (hb:l[k]?=some b) (hfb:zH b):qH S M l (k:Int)=some (S.any fun n=>decide (1<QV 0 M n) && !(b.Sources.any fun x=>n==x)):=by
 have h2:=hfb.1
 have hk:=Q6 hb
 have hq:∀n,Qi n M l (k:Int)=some (decide (1<QV 0 M n) && !(b.Sources.any fun x=>n==x)):=fun n=>by
  unfold Qi
  by_cases h:1<QV 0 M n
  ·rw[if_pos h,if_pos ⟨by omega,by omega⟩,quJ,hb,quG,q2p _ (by omega),quG,qvG h,qvd]
  ·rw[if_neg h,decide_eq_false h,Bool.false_and]
 have h:=q1o (step:=qx M l (k:Int) S ((S.length:Nat):Int)) S (fun n=>decide (1<QV 0 M n) && !(b.Sources.any fun x=>n==x)) (fun i => .inl (i:Int)) (.inr ()) (fun i n hn=>by
  have hi:=Q6 hn
  unfold qx
  rw[if_pos (by omega),if_pos ⟨by omega,by omega⟩,quJ,hn,quG,hq,quG,Qk hi (by omega)]
  split<;>rfl) (by
  unfold qx
  rw[if_neg (by omega)])
 unfold qH zt
 rcases h with ⟨h1,i,h2⟩|⟨h1,h2⟩
 ·rw[h2,quG,Sum.elim_inl,quG,h1,qvG (by omega)]
 ·rw[h2,quG,Sum.elim_inr,quG,h1,decide_eq_false (by omega)]
theorem qi1 {l:List qa} (hl:l.length≤1000) {i:Nat} {a:qa} (ha:l[i]?=some a) (T:List Int):(!a.Sources.any fun n=>decide (1<QV 0 (qbl (l.map fun a=>a.Sources) []) n) && !(T.any fun x=>n==x))=a.Sources.all fun n=>(T.any fun x=>n==x) || !qh8 l i n:=by
 rw[List.not_any_eq_all_not]
 have key:∀n∈a.Sources,(!(decide (1<QV 0 (qbl (l.map fun a=>a.Sources) []) n) && !(T.any fun x=>n==x)))=((T.any fun x=>n==x) || !qh8 l i n):=fun n hn=>by
  have e:decide (1<QV 0 (qbl (l.map fun a=>a.Sources) []) n)=qh8 l i n:=by
   rw[Bool.eq_iff_iff,decide_eq_true_iff,qgG,qiq _ (by rw[qvo];omega)]
   exact qfn (i:=i) (s:=a.Sources) (by rw[quU,ha];rfl) hn
  rw[e]
  cases qh8 l i n<;>cases(T.any fun x=>n==x)<;>rfl
 rw[Bool.eq_iff_iff,quX,quX]
 exact⟨fun h n hn=>by rw[←key n hn];exact h n hn,fun h n hn=>by rw[key n hn];exact h n hn⟩
theorem q9R (s:qe) (l:List qa) (hl:l.length≤1000) (hf:∀a∈l,zH a) (k:Nat) (hk:k<l.length):Q2 l s (k:Int)=some (qc2 s l k):=by
 have hb:l[k]?=some l[k]:=quI hk
 have hfb:zH l[k]:=hf _ (qvx hk)
 have h:=qc4 (step:=zO l s (k:Int) (qbl (l.map fun a=>a.Sources) []) l ((l.length:Nat):Int)) l.length (plc s l k) (Sum.inl ()) (Sum.inr ()) (fun i hi=>by
  have ha:l[i]?=some l[i]:=quI hi
  have hfa:zH l[i]:=hf _ (qvx hi)
  have hp:plc s l k i=qp6 s l i k l[i] l[k]:=by unfold plc;rw[ha,hb]
  rw[hp]
  unfold zO qp6
  rw[if_pos (by omega),if_pos ⟨by omega,by omega⟩,quJ,ha,quG,Qk hi (by omega)]
  by_cases hik:i=k
  ·rw[if_pos (beq_iff_eq.2 (by omega:(i:Int)=(k:Int))),decide_eq_false (by simpa using hik)];rfl
  ·rw[if_neg (by simpa using fun h:(i:Int)=(k:Int)=>hik (by omega)),if_pos ⟨by omega,by omega⟩,quJ,hb,quG,qcg s hfa,quG,qvG hik,qvd]
   cases q4V s l[i] l[k]
   ·rfl
   ·rw[if_neg (by decide),q8Q _ hfa.1 _ _ _ _ hb hfb,quG,qi1 hl ha,qvd]
    split<;>rfl) (by
  unfold zO
  rw[if_neg (by omega)])
 unfold Q2
 rw[qkv l hl hf,quG,h,quG]
 unfold qc2
 cases(List.range l.length).any (plc s l k)<;>rfl
end
noncomputable section
def q1Q (p:Nat→Bool):Nat→Option Nat
 | 0=>none
 | n+1=>if p n=true then some n else q1Q p n
theorem q4t {p:Nat→Bool}:∀{n:Nat},q1Q p n=none↔∀k,k<n→p k=false
 | 0=>Iff.intro (fun _ k hk=>absurd hk (Nat.not_lt_zero k)) (fun _=>rfl)
 | n+1=>by
  unfold q1Q
  by_cases h:p n=true
  ·rw[if_pos h]
   exact Iff.intro (fun h'=>by cases h') (fun h'=>by rw[h' n (by omega)] at h;cases h)
  ·rw[if_neg h,q4t]
   refine⟨fun h' k hk=>?_,fun h' k hk=>h' k (by omega)⟩
   by_cases hkn:k=n
   ·rw[hkn];exact qv8.2 h
   ·exact h' k (by omega)
theorem q0A {p:Nat→Bool} {i:Nat}:∀{n:Nat},q1Q p n=some i→i<n∧p i=true∧∀k,i<k→k<n→p k=false
 | 0,h=>by cases h
 | n+1,h=>by
  unfold q1Q at h
  by_cases hp:p n=true
  ·rw[if_pos hp] at h
   injection h with h
   subst h
   exact⟨by omega,hp,fun k h1 h2=>by omega⟩
  ·rw[if_neg hp] at h
   obtain⟨h1,h2,h3⟩:=q0A h
   refine⟨by omega,h2,fun k hk1 hk2=>?_⟩
   by_cases hkn:k=n
   ·rw[hkn];exact qv8.2 hp
   ·exact h3 k hk1 (by omega)
section
variable {A:Type} (cv:List A→Nat→Bool)
def qbq:Nat→List A→List A
 | 0,l=>l
 | f+1,l=>match q1Q (cv l) l.length with
  | none=>l
  | some k=>qbq f (l.eraseIdx k)
def red (l:List A):List A:=qbq cv l.length l
variable {cv}
theorem q6i:∀(f g:Nat) (l:List A),l.length≤f→l.length≤g→qbq cv f l=qbq cv g l
 | 0,0,l,_,_=>rfl
 | 0,g+1,l,h,_=>by
  have:l=[]:=quZ (by omega)
  subst this;rfl
 | f+1,0,l,_,h=>by
  have:l=[]:=quZ (by omega)
  subst this;rfl
 | f+1,g+1,l,h1,h2=>by
  unfold qbq
  cases h:q1Q (cv l) l.length with
  | none=>rfl
  | some k=>
   have hk:=(q0A h).1
   have hl:(l.eraseIdx k).length=l.length-1:=by rw[List.length_eraseIdx,if_pos hk]
   exact q6i f g _ (by omega) (by omega)
theorem q7P {l:List A} (h:q1Q (cv l) l.length=none):red cv l=l:=by
 unfold red
 cases hl:l.length with
 | zero=>rfl
 | succ n=>unfold qbq;rw[h]
theorem q8D {l:List A} {k:Nat} (h:q1Q (cv l) l.length=some k):red cv l=red cv (l.eraseIdx k):=by
 have hk:=(q0A h).1
 have hl:(l.eraseIdx k).length=l.length-1:=by rw[List.length_eraseIdx,if_pos hk]
 show qbq cv l.length l=qbq cv (l.eraseIdx k).length (l.eraseIdx k)
 cases hn:l.length with
 | zero=>omega
 | succ n=>
  have e:qbq cv (n+1) l=qbq cv n (l.eraseIdx k):=by
   conv=>lhs;unfold qbq
   rw[h]
  rw[e]
  exact q6i n _ (l.eraseIdx k) (by omega) (quW _)
theorem qaP {M:List A→Prop} (hstep:∀l k,q1Q (cv l) l.length=some k→M l→M (l.eraseIdx k)):∀(n:Nat) (l:List A),l.length≤n→M l→M (red cv l)
 | 0,l,hl,h=>by
  have:l=[]:=quZ (by omega)
  subst this;exact h
 | n+1,l,hl,h=>by
  cases hc:q1Q (cv l) l.length with
  | none=>rw[q7P hc];exact h
  | some k=>
   have hk:=(q0A hc).1
   have hlen:(l.eraseIdx k).length=l.length-1:=by rw[List.length_eraseIdx,if_pos hk]
   rw[q8D hc]
   exact qaP hstep n _ (by omega) (hstep l k hc h)
theorem qbC (l:List A):(red cv l).Sublist l:=
 qaP (M:=fun x=>x.Sublist l) (fun x k _ h=>(List.eraseIdx_sublist x k).trans h) l.length l (quW _) (List.Sublist.refl l)
end
end
noncomputable section
open Go.RowKit
theorem q8c {p:Nat→Bool}:∀{n k:Nat},k<n→p k=true→(∀j,k<j→j<n→p j=false)→q1Q p n=some k
 | n+1,k,hk,hp,h=>by
  unfold q1Q
  by_cases e:k=n
  ·subst e;rw[if_pos hp]
  ·rw[if_neg (by rw[h n (by omega) (by omega)];decide)]
   exact q8c (by omega) hp fun j h1 h2=>h j h1 (by omega)
def q0k (s:qe):(List qa×Int)→Option ((List qa×Int)⊕(List qa))|(left,k)=>if 0≤k then Option.bind (Q2 left s k) fun(a:Bool)=>if a=Bool.true then Option.bind (qm k (w64 (k+1)) left) fun(a2:List qa)=>some (Sum.inl (a2,w64 (((a2.length:Nat):Int)-1))) else some (Sum.inl (left,w64 (k-1))) else some (Sum.inr left)
theorem q7I (s:qe):∀(n k:Nat) (l:List qa),l.length≤n→n≤1000→(∀a∈l,zH a)→k≤l.length→(∀j,k≤j→j<l.length→qc2 s l j=false)→qB (q0k s) (l,((k:Int)-1))=some (red (qc2 s) l):=by
 intro n
 induction n with
 | zero=>
  intro k l hl _ hf hk hc
  have hl0:l=[]:=quZ (by omega)
  subst hl0
  have hk:k=0:=by simpa using hk
  subst hk
  refine zf ?_
  unfold q0k
  dsimp only
  rw[if_neg (by omega)];rfl
 | succ n ih=>
  intro k
  induction k with
  | zero=>
   intro l hl _ hf hk hc
   rw[q7P (q4t.2 fun j hj=>hc j (qv6 _) hj)]
   refine zf ?_
   unfold q0k
   dsimp only
   rw[if_neg (by omega)]
  | succ k ihk=>
   intro l hl hn hf hk hc
   have e1:((k+1:Nat):Int)-1=(k:Int):=by omega
   rw[e1]
   have hcov:=q9R s l (by omega) hf k (by omega)
   cases hq:qc2 s l k
   ·have e:q0k s (l,(k:Int))=some (.inl (l,((k:Int)-1))):=by
     unfold q0k
     dsimp only
     rw[if_pos (by omega),hcov,quG,hq,if_neg (by decide),Ql (by omega) (by omega)]
    rw[zW e]
    refine ihk l hl hn hf (by omega) fun j h1 h2=>?_
    by_cases hj:j=k
    ·rw[hj];exact hq
    ·exact hc j (by omega) h2
   ·have hlen:(l.eraseIdx k).length=l.length-1:=by rw[List.length_eraseIdx,if_pos (by omega)]
    have e:q0k s (l,(k:Int))=some (.inl (l.eraseIdx k,(((l.eraseIdx k).length:Int)-1))):=by
     unfold q0k qm
     dsimp only
     rw[if_pos (by omega),hcov,quG,hq,if_pos rfl,Ql (by omega) (by omega),if_pos ⟨by omega,rfl,by omega⟩,quG,quJ,Ql (by omega) (by omega)]
    rw[zW e,q8D (q8c (by omega) hq fun j h1 h2=>hc j (by omega) h2)]
    exact ih (l.eraseIdx k).length (l.eraseIdx k) (by omega) (by omega) (fun a ha=>hf a (List.mem_of_mem_eraseIdx ha)) (quW _) fun j h1 h2=>by omega
end
noncomputable section
inductive Cn (e:Nat→Nat→Prop):Nat→Nat→Prop
 | refl (k:Nat):Cn e k k
 | step {i j k:Nat}:Cn e i j→e j k→Cn e i k
def Lw (e:Nat→Nat→Prop) (k m:Nat):Prop:=Cn e k m∧∀j,Cn e k j→m≤j
section
variable {e:Nat→Nat→Prop}
theorem Cn.trans {i j k:Nat} (h:Cn e i j) (h2:Cn e j k):Cn e i k:=by
 induction h2 with
 | refl=>exact h
 | step _ h4 ih=>exact ih.step h4
theorem Cn.one {i j:Nat} (h:e i j):Cn e i j:=(Cn.refl i).step h
theorem Cn.symm (hs:∀i j,e i j→e j i) {i j:Nat} (h:Cn e i j):Cn e j i:=by
 induction h with
 | refl=>exact .refl _
 | step _ h4 ih=>exact(Cn.one (hs _ _ h4)).trans ih
theorem Cn.lt {n:Nat} (hn:∀i j,e i j→i<n∧j<n) {i j:Nat} (h:Cn e i j) (hi:i<n):j<n:=by
 cases h with
 | refl=>exact hi
 | step _ h4=>exact(hn _ _ h4).2
theorem Lw.uniq {k m m':Nat} (h:Lw e k m) (h':Lw e k m'):m=m':=Nat.le_antisymm (h.2 _ h'.1) (h'.2 _ h.1)
theorem Lw.same (hs:∀i j,e i j→e j i) {k j m:Nat} (h:Lw e k m) (hc:Cn e k j):Lw e j m:=⟨(hc.symm hs).trans h.1,fun i hi=>h.2 i (hc.trans hi)⟩
theorem Lw.self (hs:∀i j,e i j→e j i) {k m:Nat} (h:Lw e k m):Lw e m m:=h.same hs h.1
theorem qqy (k:Nat):∃m,Lw e k m:=by
 have:∀b j,j≤b→Cn e k j→∃m,Lw e k m:=by
  intro b
  induction b with
  | zero=>intro j hj hc;exact⟨j,hc,fun i _=>by omega⟩
  | succ b ih=>
   intro j hj hc
   by_cases h:∃i,i≤b∧Cn e k i
   ·obtain⟨i,h1,h2⟩:=h;exact ih i h1 h2
   ·refine⟨j,hc,fun i hi=>?_⟩
    by_cases hib:i≤b
    ·exact absurd ⟨i,hib,hi⟩ h
    ·omega
 exact this k k (quW k) (.refl k)
theorem qhI {l:List Nat} {p q:Nat→Bool} (h:∀x∈l,p x=true→q x=true) {y:Nat} (hy:y∈l) (h1:p y=false) (h2:q y=true):(l.filter p).length<(l.filter q).length:=by
 have mono:∀l:List Nat,(∀x∈l,p x=true→q x=true)→(l.filter p).length≤(l.filter q).length:=by
  intro l
  induction l with
  | nil=>intro _;exact quW _
  | cons a l ih=>
   intro h
   have:=ih fun x hx=>h x (quO _ hx)
   rw[List.filter_cons,List.filter_cons]
   by_cases ha:p a=true
   ·rw[if_pos ha,if_pos (h a quV ha)];simp only[quR];omega
   ·rw[if_neg ha];split
    ·simp only[quR];omega
    ·exact this
 induction l with
 | nil=>cases hy
 | cons a l ih=>
  have ht:=fun x hx=>h x (quO _ hx)
  rw[List.filter_cons,List.filter_cons]
  rcases qv2.1 hy with rfl|hy
  ·have:=mono l ht
   rw[if_neg (by rw[h1];simp),if_pos h2];simp only[quR];omega
  ·have:=ih ht hy
   by_cases ha:p a=true
   ·rw[if_pos ha,if_pos (h a quV ha)];simp only[quR];omega
   ·rw[if_neg ha];split
    ·simp only[quR];omega
    ·exact this
theorem q5Y {n:Nat} (hn:∀i j,e i j→i<n∧j<n) (hs:∀i j,e i j→e j i) {G:Nat→Nat→Nat} (h0:∀k,k<n→G 0 k=k) (h1:∀r k,k<n→G (r+1) k≤G r k) (h2:∀r i k,e i k→G (r+1) i≤G r k)
  (h3:∀r k,k<n→Cn e k (G r k)) {k:Nat} (hk:k<n):Lw e k (G n k):=by
 obtain⟨m,hm⟩:=qqy (e:=e) k
 have hmn:m<n:=hm.1.lt hn hk
 have hge:∀r j,Cn e m j→m≤G r j:=fun r j hj=>hm.2 _ ((hm.1.trans hj).trans (h3 r j (hj.lt hn hmn)))
 have hA:∀r j,Cn e m j→G r j=m→G (r+1) j=m:=fun r j hj h=>Nat.le_antisymm (by have:=h1 r j (hj.lt hn hmn);omega) (hge _ _ hj)
 have h0m:∀r,G r m=m:=by
  intro r
  induction r with
  | zero=>exact h0 m hmn
  | succ r ih=>exact hA r m (.refl m) ih
 -- either all that is joined has it, or there is one more
 have key:∀r,(∀j,Cn e m j→G r j=m)∨r+1≤((List.range n).filter fun j=>decide (G r j=m)).length:=by
  intro r
  induction r with
  | zero=>
   refine .inr ?_
   have:m∈(List.range n).filter fun j=>decide (G 0 j=m):=qvB.2 ⟨qvC.2 hmn,qvG (h0 m hmn)⟩
   exact List.length_pos_of_mem this
  | succ r ih=>
   rcases ih with ih|ih
   ·exact .inl fun j hj=>hA r j hj (ih j hj)
   ·by_cases hcl:∀j,j<n→G (r+1) j=m→G r j=m
    ·refine .inl fun j hj=>?_
     have:G r j=m:=by
      induction hj with
      | refl=>exact h0m r
      | step hij he ih2=>
       rename_i j k
       have hk:=(hn _ _ he).2
       refine hcl k hk (Nat.le_antisymm ?_ (hge _ _ (hij.step he)))
       have:=h2 r k j (hs _ _ he)
       omega
     exact hA r j hj this
    ·refine .inr ?_
     simp only[Classical.not_forall] at hcl
     obtain⟨j,hj,hj1,hj2⟩:=hcl
     have:=qhI (l:=List.range n) (p:=fun j=>decide (G r j=m)) (q:=fun j=>decide (G (r+1) j=m)) (fun x hx hp=>by
      have hp:=of_decide_eq_true hp
      have hx:=qvC.1 hx
      have hcx:Cn e m x:=by have:=(h3 r x hx).symm hs;rw[hp] at this;exact this
      exact qvG (hA r x hcx hp)) (qvC.2 hj) (decide_eq_false hj2) (qvG hj1)
     omega
 rcases key n with h|h
 ·rw[h k (hm.1.symm hs)];exact hm
 ·have:=List.length_filter_le (fun j=>decide (G n j=m)) (List.range n)
  rw[List.length_range] at this
  omega
end
def q77 (n:Nat) (f:Nat→Nat):List (List Nat):=((List.range n).filter fun k=>decide (f k=k)).map fun r=>(List.range n).filter fun i=>decide (f i=r)
theorem q9B {n:Nat} {f g:Nat→Nat} (h:∀k,k<n→f k=g k):q77 n f=q77 n g:=by
 unfold q77
 have e1:(List.range n).filter (fun k=>decide (f k=k))=(List.range n).filter fun k=>decide (g k=k):=List.filter_congr fun k hk=>by rw[h k (qvC.1 hk)]
 rw[e1]
 exact List.map_congr_left fun r _=>List.filter_congr fun k hk=>by rw[h k (qvC.1 hk)]
end
noncomputable section
def q16 (g:List Nat) (j:Nat×Nat):List Nat:=(g.set j.1 (min (g.getD j.1 0) (g.getD j.2 0))).set j.2 (min (g.getD j.1 0) (g.getD j.2 0))
def QL (js:List (Nat×Nat)) (g:List Nat):List Nat:=js.foldl q16 g
def QG (js:List (Nat×Nat)):Nat→List Nat→List Nat
 | 0,g=>g
 | r+1,g=>QG js r (QL js g)
theorem Jl (g:List Nat) (j:Nat×Nat):(q16 g j).length=g.length:=by unfold q16;rw[qvr,qvr]
theorem q0z:∀(js:List (Nat×Nat)) (g:List Nat),(QL js g).length=g.length
 | [],_=>rfl
 | j::js,g=>(q0z js (q16 g j)).trans (Jl g j)
theorem q0T (js:List (Nat×Nat)):∀(r:Nat) (g:List Nat),(QG js r g).length=g.length
 | 0,_=>rfl
 | r+1,g=>(q0T js r _).trans (q0z js g)
theorem ZP (js:List (Nat×Nat)):∀(r:Nat) (g:List Nat),QG js (r+1) g=QL js (QG js r g)
 | 0,_=>rfl
 | r+1,g=>ZP js r (QL js g)
theorem q80 {g:List Nat} {i:Nat} (v k:Nat) (hi:i<g.length):(g.set i v).getD k 0=if k=i then v else g.getD k 0:=by
 simp only[List.getD_eq_getElem?_getD]
 by_cases h:k=i
 ·subst h;rw[if_pos rfl,qvD hi];rfl
 ·rw[if_neg h,qvE (by omega)]
theorem q1d {g:List Nat} {j:Nat×Nat} (h1:j.1<g.length) (h2:j.2<g.length) (k:Nat):(q16 g j).getD k 0=if k=j.1∨k=j.2 then min (g.getD j.1 0) (g.getD j.2 0) else g.getD k 0:=by
 unfold q16
 rw[q80 _ _ (by rw[qvr];exact h2),q80 _ _ h1]
 by_cases a:k=j.2<;>by_cases b:k=j.1<;>simp[a,b]
section
variable {e:Nat→Nat→Prop}
theorem q5r {g:List Nat} {j:Nat×Nat} (h1:j.1<g.length) (h2:j.2<g.length) (k:Nat):(q16 g j).getD k 0≤g.getD k 0:=by
 rw[q1d h1 h2]
 split
 ·rename_i h
  rcases h with rfl|rfl
  ·exact Nat.min_le_left _ _
  ·exact Nat.min_le_right _ _
 ·exact quW _
theorem q0m:∀(js:List (Nat×Nat)) (g:List Nat),(∀j∈js,j.1<g.length∧j.2<g.length)→∀k,(QL js g).getD k 0≤g.getD k 0
 | [],_,_,_=>quW _
 | j::js,g,h,k=>by
  have hj:=h j quV
  exact qvh (q0m js (q16 g j) (fun x hx=>by rw[Jl];exact h x (quO _ hx)) k) (q5r hj.1 hj.2 k)
theorem q0X:∀(js:List (Nat×Nat)) (g:List Nat),(∀j∈js,j.1<g.length∧j.2<g.length)→∀j∈js,(QL js g).getD j.1 0≤g.getD j.2 0∧(QL js g).getD j.2 0≤g.getD j.1 0
 | j::js,g,h,i,hi=>by
  have hj:=h j quV
  have ht:∀x∈js,x.1<(q16 g j).length∧x.2<(q16 g j).length:=fun x hx=>by rw[Jl];exact h x (quO _ hx)
  rcases qv2.1 hi with rfl|hi
  ·have a:=q0m js (q16 g i) ht i.1
   have b:=q0m js (q16 g i) ht i.2
   rw[q1d hj.1 hj.2,if_pos (.inl rfl)] at a
   rw[q1d hj.1 hj.2,if_pos (.inr rfl)] at b
   exact⟨qvh a (Nat.min_le_right _ _),qvh b (Nat.min_le_left _ _)⟩
  ·obtain⟨a,b⟩:=q0X js (q16 g j) ht i hi
   exact⟨qvh a (q5r hj.1 hj.2 _),qvh b (q5r hj.1 hj.2 _)⟩
theorem q5U (hs:∀i j,e i j→e j i):∀(js:List (Nat×Nat)) (g:List Nat),(∀j∈js,j.1<g.length∧j.2<g.length∧e j.1 j.2)→(∀k,k<g.length→Cn e k (g.getD k 0))→∀k,k<g.length→Cn e k ((QL js g).getD k 0)
 | [],_,_,h,k,hk=>h k hk
 | j::js,g,h,hc,k,hk=>by
  obtain⟨h1,h2,h3⟩:=h j quV
  refine q5U hs js (q16 g j) (fun x hx=>by rw[Jl];exact h x (quO _ hx)) (fun i hi=>?_) k (by rw[Jl];exact hk)
  rw[Jl] at hi
  rw[q1d h1 h2]
  have c1:=hc _ h1
  have c2:=hc _ h2
  have c3:∀i,Cn e i j.1→Cn e i (min (g.getD j.1 0) (g.getD j.2 0)):=fun i hi=>by
   by_cases hm:g.getD j.1 0≤g.getD j.2 0
   ·rw[Nat.min_eq_left hm];exact hi.trans c1
   ·rw[Nat.min_eq_right (by omega)];exact(hi.step h3).trans c2
  split
  ·rename_i h
   rcases h with rfl|rfl
   ·exact c3 _ (.refl _)
   ·exact c3 _ (Cn.one (hs _ _ h3))
  ·exact hc i hi
theorem q9N {n:Nat} (hn:∀i j,e i j→i<n∧j<n) (hs:∀i j,e i j→e j i) {js:List (Nat×Nat)} (h1:∀j∈js,j.1<n∧j.2<n∧e j.1 j.2) (h2:∀i k,e i k→i=k∨(i,k)∈js∨(k,i)∈js) {k:Nat} (hk:k<n) :
  Lw e k ((QG js n (List.range n)).getD k 0):=by
 have hl:∀r,(QG js r (List.range n)).length=n:=fun r=>by rw[q0T,List.length_range]
 have hj:∀r,∀j∈js,j.1<(QG js r (List.range n)).length∧j.2<(QG js r (List.range n)).length:=fun r j hj=>by rw[hl];exact⟨(h1 j hj).1,(h1 j hj).2.1⟩
 have h0:∀k,k<n→(List.range n).getD k 0=k:=fun k hk=>by rw[List.getD_eq_getElem?_getD,List.getElem?_range hk];rfl
 refine q5Y (G:=fun r k=>(QG js r (List.range n)).getD k 0) hn hs h0 (fun r k hk=>?_) (fun r i k he=>?_) (fun r k hk=>?_) hk
 ·show(QG js (r+1) _).getD k 0≤_
  rw[ZP];exact q0m _ _ (hj r) k
 ·show(QG js (r+1) _).getD i 0≤(QG js r _).getD k 0
  rw[ZP]
  rcases h2 i k he with rfl|h|h
  ·exact q0m _ _ (hj r) i
  ·exact(q0X _ _ (hj r) _ h).1
  ·exact(q0X _ _ (hj r) _ h).2
 ·show Cn e k ((QG js r _).getD k 0)
  clear hj
  induction r generalizing k with
  | zero=>show Cn e k ((List.range n).getD k 0);rw[h0 k hk];exact .refl k
  | succ r ih=>
   rw[ZP]
   exact q5U hs js _ (fun j hj=>by rw[hl];exact h1 j hj) (fun k hk=>ih k (by rw[←hl r];exact hk)) k (by rw[hl];exact hk)
end
end
noncomputable section
end
noncomputable section
theorem q5L {p:Nat→Bool}:∀{n c r:Nat},((List.range n).filter p)[c]?=some r→r<n∧p r=true∧((List.range r).filter p).length=c
 | 0,c,r,h=>by simp at h
 | n+1,c,r,h=>by
  rw[List.range_succ,List.filter_append] at h
  by_cases hc:c<((List.range n).filter p).length
  ·rw[qvj hc] at h
   obtain⟨h1,h2⟩:=q5L h
   exact⟨by omega,h2⟩
  ·rw[qvi (by omega),List.filter_cons] at h
   by_cases hp:p n=true
   ·rw[if_pos hp] at h
    cases hd:c-((List.range n).filter p).length with
    | zero=>
     rw[hd] at h
     have h:n=r:=by simpa using h
     subst h
     exact⟨by omega,hp,by omega⟩
    | succ d=>rw[hd] at h;simp at h
   ·rw[if_neg hp] at h;simp at h
theorem qbh {p:Nat→Bool}:∀{n r:Nat},r<n→p r=true→((List.range n).filter p)[((List.range r).filter p).length]?=some r
 | n+1,r,h,hp=>by
  rw[List.range_succ,List.filter_append]
  by_cases hr:r=n
  ·subst hr
   rw[qvi (quW _),Nat.sub_self,List.filter_cons,if_pos hp];rfl
  ·have:=qbh (n:=n) (by omega) hp
   rw[qvj (Q6 this)];exact this
def rts (n:Nat) (f:Nat→Nat):List Nat:=(List.range n).filter fun k=>decide (f k=k)
def rows (n k:Nat) (f:Nat→Nat):List (List Int):=(rts n f).map fun r=>((List.range k).filter fun i=>decide (f i=r)).map fun(i:Nat)=>(i:Int)
def ixs (k:Nat) (f:Nat→Nat):List (Int×Int):=(rts k f).map fun(r:Nat)=>((r:Int),((rts r f).length:Int))
variable {f:Nat→Nat}
theorem q8M {g:Nat→Int}:∀{L:List Nat} {r:Nat},r∈L→QV 0 (L.map fun(r:Nat)=>((r:Int),g r)) (r:Int)=g r
 | a::L,r,h=>by
  show(if(r:Int)=(a:Int) then g a else QV 0 (L.map fun(r:Nat)=>((r:Int),g r)) (r:Int))=g r
  by_cases e:r=a
  ·subst e;rw[if_pos rfl]
  ·rw[if_neg (by omega)];exact q8M ((qv2.1 h).resolve_left e)
theorem q8L {g:Nat→Int} {k:Nat} {v:Int}:∀{L:List Nat},k ∉ L→q2k (L.map fun(r:Nat)=>((r:Int),g r)) (k:Int) v=(L.map fun(r:Nat)=>((r:Int),g r))++[((k:Int),v)]
 | [],_=>rfl
 | a::L,h=>by
  obtain⟨h1,h2⟩:=not_or.1 (fun h'=>h (qv2.2 h'):¬ (k=a∨k∈L))
  show(if(k:Int)=(a:Int) then _ else _)=_
  rw[if_neg (by omega),q8L h2];rfl
theorem qgY {k r:Nat} (h:f r=r) (hr:r<k):QV 0 (ixs k f) (r:Int)=((rts r f).length:Int):=
 q8M (qvB.2 ⟨qvC.2 hr,qvG h⟩)
theorem qii (k:Nat):(ixs k f).length=(rts k f).length:=qvo ..
theorem qeg (k:Nat):ixs (k+1) f=if f k=k then q2k (ixs k f) (k:Int) ((ixs k f).length:Int) else ixs k f:=by
 have e:rts (k+1) f=rts k f++if f k=k then[k] else[]:=by
  unfold rts
  rw[List.range_succ,List.filter_append,List.filter_cons]
  by_cases h:f k=k
  ·rw[if_pos (qvG h),if_pos h];rfl
  ·rw[if_neg (by simpa using h),if_neg h];rfl
 by_cases h:f k=k
 ·rw[if_pos h]
  rw[if_pos h] at e
  have hn:k ∉ rts k f:=fun hm=>by have:=qvC.1 (qvB.1 hm).1;omega
  rw[qii]
  unfold ixs
  rw[q8L hn,e,List.map_append];rfl
 ·rw[if_neg h]
  rw[if_neg h,qv1] at e
  unfold ixs;rw[e]
theorem q6P {n k r:Nat} (h:f r=r) (hr:r<n):(rows n k f)[(rts r f).length]?=some (((List.range k).filter fun i=>decide (f i=r)).map fun(i:Nat)=>(i:Int)):=by
 unfold rows
 rw[quU,show(rts n f)[(rts r f).length]?=some r from qbh hr (qvG h)];rfl
theorem qbe {n k r:Nat} (hk:f k=r) (h:f r=r) (hr:r<n):(rows n k f).set (rts r f).length ((((List.range k).filter fun i=>decide (f i=r)).map fun(i:Nat)=>(i:Int))++[(k:Int)])=rows n (k+1) f:=by
 have hc:=Q6 (q6P (k:=k) h hr)
 apply List.ext_getElem?
 intro c
 have hrow:∀r',((List.range (k+1)).filter fun i=>decide (f i=r')).map (fun(i:Nat)=>(i:Int))=(((List.range k).filter fun i=>decide (f i=r')).map fun(i:Nat)=>(i:Int))++if r'=r then[(k:Int)] else[]:=fun r'=>by
  rw[List.range_succ,List.filter_append,List.map_append,List.filter_cons]
  by_cases e:r'=r
  ·subst e;rw[if_pos (qvG hk),if_pos rfl];rfl
  ·rw[if_neg (by simpa using fun h'=>e (by rw[←hk,h'])),if_neg e];rfl
 by_cases e:c=(rts r f).length
 ·subst e
  rw[qvD hc,q6P h hr,hrow r,if_pos rfl]
 ·rw[qvE (by omega)]
  unfold rows
  rw[quU,quU]
  cases hx:(rts n f)[c]? with
  | none=>rfl
  | some r'=>
   have hne:r'≠r:=fun h'=>by
    obtain⟨-,-,h3⟩:=q5L hx
    exact e (by rw[←h3,h'];rfl)
   rw[Option.map_some,Option.map_some]
   rw[hrow r',if_neg hne,qv1]
theorem qbg (n:Nat):rows n 0 f=List.replicate (rts n f).length []:=by
 unfold rows
 rw[List.range_zero]
 exact List.map_const' ..
theorem qeQ (n:Nat):rows n n f=(q77 n f).map fun g=>g.map fun(i:Nat)=>(i:Int):=by
 unfold rows q77
 rw[List.map_map];rfl
end
noncomputable section
open Go.RowKit
def qK (g:List Nat):List Int:=g.map fun(x:Nat)=>(x:Int)
theorem zc (g:List Nat):(qK g).length=g.length:=qvo ..
theorem q1p {g:List Nat} {k:Nat} (h:k<g.length):(qK g)[k]?=some ((g.getD k 0:Nat):Int):=by
 unfold qK
 rw[quU,quI h,List.getD_eq_getElem?_getD,quI h];rfl
theorem q5Z (g:List Nat) (k v:Nat):(qK g).set k (v:Int)=qK (g.set k v):=by
 unfold qK;rw[List.map_set]
def eF (l:List qa) (i k:Nat):Bool:=match l[i]?,l[k]? with
 | some a,some b => !Z6 a b
 | _,_=>false
theorem qdd {l:List qa} {i k:Nat} {a b:qa} (ha:l[i]?=some a) (hb:l[k]?=some b):eF l i k = !Z6 a b:=by unfold eF;rw[ha,hb]
theorem q99 {l:List qa} {i k:Nat} (h:eF l i k=true):i<l.length∧k<l.length:=by
 unfold eF at h
 split at h
 ·rename_i h1 h2;exact⟨Q6 h1,Q6 h2⟩
 ·cases h
theorem q3c {l:List qa} {i k:Nat} (h:eF l i k=true):eF l k i=true:=by
 obtain⟨h1,h2⟩:=q99 h
 have ha:l[i]?=some l[i]:=quI h1
 have hb:l[k]?=some l[k]:=quI h2
 rw[qdd ha hb] at h
 rw[qdd hb ha,q6R];exact h
def jl (l:List qa) (k m:Nat):List (Nat×Nat):=((List.range m).filter fun i=>eF l i k).map fun i=>(i,k)
def js (l:List qa) (m:Nat):List (Nat×Nat):=(List.range m).flatMap fun k=>jl l k k
theorem qhw (l:List qa) (k m:Nat):jl l k (m+1)=jl l k m++if eF l m k=true then[(m,k)] else[]:=by
 unfold jl
 rw[List.range_succ,List.filter_append,List.map_append,List.filter_cons]
 cases eF l m k<;>rfl
theorem qaE (l:List qa) (m:Nat):js l (m+1)=js l m++jl l m m:=by
 unfold js
 rw[List.range_succ,List.flatMap_append];simp
theorem qg1 (l:List qa) (k m:Nat):(jl l k m).length≤m:=by
 unfold jl
 rw[qvo]
 exact qvh (List.length_filter_le _ _) (by rw[List.length_range];exact quW _)
theorem qd8 (l:List qa):∀m,(js l m).length≤m*m
 | 0=>quW _
 | m+1=>by
  rw[qaE,quN]
  have:=qd8 l m
  have:=qg1 l m m
  have:(m+1)*(m+1)=m*m+2*m+1:=by rw[Nat.add_mul,Nat.mul_add];omega
  omega
theorem q7N {l:List qa} {m:Nat} {j:Nat×Nat}:j∈js l m↔j.2<m∧j.1<j.2∧eF l j.1 j.2=true:=by
 unfold js jl
 simp only[List.mem_flatMap,qvq,qvB,qvC]
 constructor
 ·rintro⟨k,h1,i,⟨h2,h3⟩,rfl⟩;exact⟨h1,h2,h3⟩
 ·rintro⟨h1,h2,h3⟩;exact⟨j.2,h1,j.1,⟨h2,h3⟩,rfl⟩
def arr (j:Nat×Nat):QM Int:=QM.mk (j.1:Int) (j.2:Int)
theorem q9u (w1:List Int) (l:List qa) (hl:l.length≤1000) (hf:∀a∈l,zH a) (t19 t20:Int) (k:Nat) (hk:k<l.length) (J:List (Nat×Nat)) (hJ:J.length≤1000000):qB (zD w1 l (k:Int) t19 t20 (k:Int)) (J.map arr,(0:Int))=some ((J++jl l k k).map arr):=by
 have hML:10000000≤maxLen:=by unfold maxLen;omega
 have hb:l[k]?=some l[k]:=quI hk
 have:=JA (step:=zD w1 l (k:Int) t19 t20 (k:Int)) (fun i=>((J++jl l k i).map arr,(i:Int))) 0 k (qv6 _) (fun i _ hi=>by
  have ha:l[i]?=some l[i]:=quI (by omega)
  have hj:=qg1 l k i
  unfold zD
  dsimp only
  rw[if_pos (by omega),if_pos ⟨by omega,by omega⟩,quJ,ha,quG,if_pos ⟨by omega,by omega⟩,quJ,hb,quG,q2M (hf _ (qvx _)) (hf _ (qvx _)),quG,Qk hi (by omega),qhw,qdd ha hb]
  cases Z6 l[i] l[k]
  ·rw[if_pos (show(!false)=true by decide),if_pos ⟨by rw[qvo,quN];omega,by rw[qvo,quN];omega⟩,if_pos (show(!false)=true by decide),←qvl,List.map_append (l₁:=J++jl l k i)];rfl
  ·rw[if_neg (show ¬ (!true)=true by decide),if_neg (show ¬ (!true)=true by decide),qv1]) (e:=(J++jl l k k).map arr) (by
  unfold zD
  dsimp only
  rw[if_neg (by omega)])
 have e0:jl l k 0=[]:=rfl
 rw[e0,qv1] at this
 exact this
theorem q9A (l:List qa) (hl:l.length≤1000) (hf:∀a∈l,zH a):qB (zq l ((l.length:Nat):Int)) ([],List.replicate l.length (0:Int),(0:Int))=some ((js l l.length).map arr,qK (List.range l.length)):=by
 have hsq:l.length*l.length≤1000*1000:=Nat.mul_le_mul hl hl
 have st0:∀k,k≤l.length→(qK (List.range k)++List.replicate (l.length-k) (0:Int)).length=l.length:=fun k hk=>by rw[quN,zc,List.length_range,qvn];omega
 have:=JA (step:=zq l ((l.length:Nat):Int)) (fun k=>((js l k).map arr,qK (List.range k)++List.replicate (l.length-k) (0:Int),(k:Int))) 0 l.length (qv6 _) (fun k _ hk=>by
  have hlen:=st0 k (by omega)
  have hset:(qK (List.range k)++List.replicate (l.length-k) (0:Int)).set k (k:Int)=qK (List.range (k+1))++List.replicate (l.length-(k+1)) (0:Int):=by
   obtain⟨q,hq⟩:∃q,l.length-k=q+1:=⟨l.length-k-1,by omega⟩
   rw[show l.length-(k+1)=q by omega,hq,List.replicate_succ,List.set_append_right _ _ (by rw[zc,List.length_range];exact quW _),zc,List.length_range,Nat.sub_self,List.set_cons_zero,List.range_succ]
   unfold qK
   rw[List.map_append,qvl];rfl
  have hjl:=qd8 l k
  have hkk:k*k≤1000*1000:=Nat.mul_le_mul (by omega) (by omega)
  unfold zq
  dsimp only
  rw[if_pos (by omega),if_pos ⟨by omega,by omega⟩,quJ,if_pos (by omega),hset,q9u _ l hl hf _ _ k hk _ (by omega),quG,Qk hk (by omega),qaE]) (e:=((js l l.length).map arr,qK (List.range l.length))) (by
  unfold zq
  dsimp only
  rw[if_neg (by omega),Nat.sub_self,List.replicate_zero,qv1])
 rw[qvy,List.range_zero] at this
 exact this
theorem q8Y (J:List (Nat×Nat)) (hJ:J.length≤1000000) (l:List qa) (t50 t51:Int) (g:List Nat) (hg:∀j∈J,j.1<g.length∧j.2<g.length):qB (zA (J.map arr) l t50 t51 (((J.map arr).length:Nat):Int)) (qK g,(0:Int))=some (qK (QL J g)):=by
 have hlen:∀i,(QL (J.take i) g).length=g.length:=fun i=>q0z _ _
 have:=JA (step:=zA (J.map arr) l t50 t51 (((J.map arr).length:Nat):Int)) (fun i=>(qK (QL (J.take i) g),(i:Int))) 0 J.length (qv6 _) (fun i _ hi=>by
  have hj:J[i]?=some J[i]:=quI hi
  have hjm:=hg _ (qvx hi)
  have ha:(J.map arr)[i]?=some (arr J[i]):=by rw[quU,hj];rfl
  have hl2:=hlen i
  have e1:QL (J.take (i+1)) g=q16 (QL (J.take i) g) J[i]:=by
   unfold QL
   rw[List.take_add_one,hj,List.foldl_append];rfl
  unfold zA
  dsimp only
  rw[if_pos (by rw[qvo];omega),if_pos ⟨by omega,by rw[qvo];omega⟩,quJ,ha,quG]
  have a0:(arr J[i]).a0=((J[i].1:Nat):Int):=rfl
  have a1:(arr J[i]).a1=((J[i].2:Nat):Int):=rfl
  rw[a0,a1,zc,if_pos ⟨by omega,by omega⟩,quJ,q1p (by omega),quG,if_pos ⟨by omega,by omega⟩,quJ,q1p (by omega),quG,if_pos ⟨by omega,by omega⟩,if_pos (by omega),if_pos ⟨by omega,by omega⟩,if_pos (by omega),Qk hi hJ,e1]
  have hm:min (((QL (J.take i) g).getD J[i].1 0:Nat):Int) (((QL (J.take i) g).getD J[i].2 0:Nat):Int)=((min ((QL (J.take i) g).getD J[i].1 0) ((QL (J.take i) g).getD J[i].2 0):Nat):Int):=by omega
  rw[hm,q5Z,q5Z];rfl) (e:=qK (QL J g)) (by
  unfold zA
  dsimp only
  rw[if_neg (by rw[qvo];omega),List.take_length])
 exact this
theorem q3K (J:List (Nat×Nat)) (hJ:J.length≤1000000) (l:List qa):∀(m k:Nat) (g:List Nat),m+k=l.length→l.length≤1000→(∀j∈J,j.1<g.length∧j.2<g.length)→qB (zx (J.map arr) l ((l.length:Nat):Int)) (qK g,(k:Int))=some (qK (QG J m g))
 | 0,k,g,hk,hl,hg=>by
  refine zf ?_
  unfold zx
  dsimp only
  rw[if_neg (by omega)];rfl
 | m+1,k,g,hk,hl,hg=>by
  have e:zx (J.map arr) l ((l.length:Nat):Int) (qK g,(k:Int))=some (.inl (qK (QL J g),((k+1:Nat):Int))):=by
   unfold zx
   dsimp only
   rw[if_pos (by omega),q8Y J hJ l _ _ g hg,quG,Qk (n:=l.length) (by omega) (by omega)]
  rw[zW e]
  exact q3K J hJ l m (k+1) (QL J g) (by omega) hl fun j hj=>by rw[q0z];exact hg j hj
def lwF (l:List qa) (k:Nat):Nat:=(QG (js l l.length) l.length (List.range l.length)).getD k 0
theorem q35 (l:List qa) {k:Nat} (hk:k<l.length):Lw (fun i j=>eF l i j=true) k (lwF l k):=
 q9N (fun i j h=>q99 h) (fun i j h=>q3c h) (fun j hj=>by
  obtain⟨h1,h2,h3⟩:=q7N.1 hj
  exact⟨by omega,h1,h3⟩) (fun i k h=>by
  obtain⟨h1,h2⟩:=q99 h
  by_cases e:i=k
  ·exact .inl e
  ·by_cases hik:i<k
   ·exact .inr (.inl (q7N.2 ⟨h2,hik,h⟩))
   ·exact .inr (.inr (q7N.2 ⟨h1,by show k<i;omega,q3c h⟩))) hk
theorem qgs (l:List qa) {k:Nat} (hk:k<l.length):lwF l k<l.length:=(q35 l hk).1.lt (fun i j h=>q99 h) hk
theorem qfX (l:List qa) {k:Nat} (hk:k<l.length):lwF l k≤k:=(q35 l hk).2 k (.refl k)
theorem q7A (l:List qa) {k:Nat} (hk:k<l.length):lwF l (lwF l k)=lwF l k:=(q35 l (qgs l hk)).uniq ((q35 l hk).self fun i j h=>q3c h)
theorem q4q (l:List qa) {i k:Nat} (h:eF l i k=true):lwF l i=lwF l k:=by
 obtain⟨h1,h2⟩:=q99 h
 exact((q35 l h1).same (fun i j h=>q3c h) (Cn.one h)).uniq (q35 l h2)
theorem q9o (g:List Nat) (hg:g.length≤1000):qB (zg (qK g) ((g.length:Nat):Int)) ([],(0:Int))=some (List.replicate (rts g.length fun k=>g.getD k 0).length []):=by
 have hML:10000000≤maxLen:=by unfold maxLen;omega
 have hr:∀k,(rts k fun k=>g.getD k 0).length≤k:=fun k=>by unfold rts;exact qvh (List.length_filter_le _ _) (by rw[List.length_range];exact quW _)
 exact JA (step:=zg (qK g) ((g.length:Nat):Int)) (fun k=>(List.replicate (rts k fun k=>g.getD k 0).length ([]:List Int),(k:Int))) 0 g.length (qv6 _) (fun k _ hk=>by
  have h1:=hr k
  unfold zg
  dsimp only
  rw[if_pos (by omega),zc,if_pos ⟨by omega,by omega⟩,quJ,q1p hk,quG,Qk hk (by omega),qvn]
  have e:rts (k+1) (fun k=>g.getD k 0)=rts k (fun k=>g.getD k 0)++if g.getD k 0=k then[k] else[]:=by
   unfold rts
   rw[List.range_succ,List.filter_append,List.filter_cons]
   by_cases h:g.getD k 0=k
   ·rw[if_pos (qvG h),if_pos h];rfl
   ·rw[if_neg (by simpa using h),if_neg h];rfl
  rw[e]
  by_cases h:g.getD k 0=k
  ·rw[if_pos (beq_iff_eq.2 (by omega:((g.getD k 0:Nat):Int)=(k:Int))),if_pos ⟨by omega,by omega⟩,if_pos h,quN,quY,List.replicate_succ']
  ·rw[if_neg (fun hh=>h (by have:=beq_iff_eq.1 hh;omega)),if_neg h,qv1]) (by
  unfold zg
  dsimp only
  rw[if_neg (by omega)])
theorem qc6 (g:List Nat) (hg:g.length≤1000) (h1:∀k,k<g.length→g.getD k 0≤k) (h2:∀k,k<g.length→g.getD (g.getD k 0) 0=g.getD k 0):qB (zz (qK g) ((g.length:Nat):Int)) (List.replicate (rts g.length fun k=>g.getD k 0).length [],[],(0:Int))=some ((q77 g.length fun k=>g.getD k 0).map qK):=by
 have hML:10000000≤maxLen:=by unfold maxLen;omega
 obtain⟨f,hf⟩:∃f:Nat→Nat,f=fun k=>g.getD k 0:=⟨_,rfl⟩
 have hfk:∀k,g.getD k 0=f k:=fun k=>by rw[hf]
 rw[←hf]
 have e0:rows g.length 0 f=List.replicate (rts g.length f).length []:=qbg _
 have hall:rows g.length g.length f=(q77 g.length f).map qK:=qeQ _
 rw[←hall,←e0]
 have hrl:∀k,(rts k f).length≤k:=fun k=>by unfold rts;exact qvh (List.length_filter_le _ _) (by rw[List.length_range];exact quW _)
 exact JA (step:=zz (qK g) ((g.length:Nat):Int)) (fun k=>(rows g.length k f,ixs k f,(k:Int))) 0 g.length (qv6 _) (fun k _ hk=>by
  have hle:f k≤k:=by rw[←hfk];exact h1 k hk
  have hid:f (f k)=f k:=by have:=h2 k hk;rw[hfk,hfk] at this;exact this
  have hM:QV 0 (ixs (k+1) f) ((f k:Nat):Int)=(((rts (f k) f).length:Nat):Int):=qgY hid (by omega)
  have hrow:=q6P (n:=g.length) (k:=k) hid (by omega)
  have hlt:=Q6 hrow
  have hfl:(((List.range k).filter fun i=>decide (f i=f k)).map fun(i:Nat)=>(i:Int)).length≤k:=by
   rw[qvo]
   exact qvh (List.length_filter_le _ _) (by rw[List.length_range];exact quW _)
  have hsucc:=qbe (n:=g.length) (k:=k) rfl hid (by omega:f k<g.length)
  have hx:=qeg (f:=f) k
  unfold zz
  dsimp only
  rw[if_pos (by omega),zc,if_pos ⟨by omega,by omega⟩,quJ,q1p hk,quG,hfk,Qk hk (by omega)]
  by_cases h:f k=k
  ·rw[if_pos h] at hx
   rw[if_pos (by rw[h];simp),←hx,hM,quJ,hrow,quG,if_pos ⟨by omega,by omega⟩,quG,if_pos ⟨by omega,by omega⟩,if_pos ⟨by omega,by omega⟩,if_pos hlt,hsucc]
  ·rw[if_neg h] at hx
   rw[hx] at hM
   rw[if_neg (fun hh=>h (by have:=beq_iff_eq.1 hh;omega)),hM,quJ,hrow,quG,if_pos ⟨by omega,by omega⟩,quG,if_pos ⟨by omega,by omega⟩,if_pos ⟨by omega,by omega⟩,if_pos hlt,hsucc,hx]) (by
  unfold zz
  dsimp only
  rw[if_neg (by omega)])
theorem q6l (l:List qa) (hl:l.length≤1000) (hf:∀a∈l,zH a):zY l=some ((q77 l.length (lwF l)).map qK):=by
 obtain⟨g,hg⟩:∃g,g=QG (js l l.length) l.length (List.range l.length):=⟨_,rfl⟩
 have hgl:g.length=l.length:=by rw[hg,q0T,List.length_range]
 have hgf:∀k,g.getD k 0=lwF l k:=fun k=>by rw[hg];rfl
 have hsq:l.length*l.length≤1000*1000:=Nat.mul_le_mul hl hl
 have hjl:=qd8 l l.length
 have hr:=q3K (js l l.length) (by omega) l l.length 0 (List.range l.length) (by omega) hl (fun j hj=>by
  obtain⟨h1,h2,-⟩:=q7N.1 hj
  rw[List.length_range];omega)
 have hroots:=q9o g (by omega)
 have hfill:=qc6 g (by omega) (fun k hk=>by rw[hgf];exact qfX l (by omega)) (fun k hk=>by rw[hgf,hgf];exact q7A l (by omega))
 unfold zY
 rw[if_pos ⟨by omega,by omega,by omega⟩,q9A l hl hf,quG]
 dsimp only
 change Option.bind (qB _ (qK (List.range l.length),((0:Nat):Int))) _=_
 rw[hr,←hg,quG,←hgl,hroots,quG,zc,hfill,quG]
 congr 2
 exact q9B fun k _=>hgf k
end
noncomputable section
open Go.RowKit
theorem qa2 (a b c:qa) (s:qe):qk a b c s=q0k s:=rfl
def exO (c:List UInt8) (cr g d:Int) (S:List Int) (bd:Int):qa:=qa.mk (qb.mk 1 (ByteArray.mk (List.toArray c))) cr g d S bd []
def exP:qf:=qf.mk 1 0 0 0 (ByteArray.mk (List.toArray [])) (qg.mk 0 0 0 [] []) 0 0 0 []
def exS:qe:=qe.mk 0 100 50
theorem qjs (a:qa) (d:Int):qG exP a d=some false:=by
 unfold qG
 rw[if_neg (by decide)]
theorem Je {a:qa} (ha:zH a):qv a=some ():=by
 have hML:100000≤maxLen:=by unfold maxLen;omega
 have h1:=ha.1;have h2:=ha.2
 unfold qv qW
 rw[if_pos ⟨by omega,by omega⟩,quG,if_pos ⟨by omega,by omega⟩,quG]
theorem q9w (a b c:qa) (ha:zH a) (hb:zH b) (hc:zH c):Q9 3 exP exS 100 a b c=some (red (qc2 exS) [a,b,c],0):=by
 have hML:100000≤maxLen:=by unfold maxLen;omega
 have hl:=q7I exS 3 3 [a,b,c] (by simp) (by omega) (by simp[ha,hb,hc]) (by simp) (fun j h1 h2=>by simp at h2;omega)
 have hr:=(qbC (cv:=qc2 exS) [a,b,c]).length_le
 unfold Q9
 rw[if_pos (by omega),if_pos (by omega),qjs,quG,if_pos (by decide),Je ha,quG,if_pos (by omega),if_pos (by omega),if_pos (by omega),qjs,quG,if_pos (by decide),Je hb,quG,if_pos (by omega),if_pos (by omega),if_pos (by omega),qjs,quG,if_pos (by decide),Je hc,quG,if_pos (by omega),if_neg (by omega),qa2]
 change Option.bind (qB _ ([a,b,c],((3:Nat):Int)-1)) _=_
 rw[hl,quG,if_neg (by simp at hr;omega)]
theorem q94 (a b:qa) (w:List Int) (x1:Int) (x2:ByteArray) (x3 x4 x5 x6:Int) (x7:List Int) (ha:zH a) (hb:zH b) (hc:zH (qa.mk (qb.mk x1 x2) x3 x4 x5 w x6 x7)) :
  Q8 3 exP exS 100 w a b x1 x2 x3 x4 x5 x6 x7=some (.inl (red (qc2 exS) [a,b,qa.mk (qb.mk x1 x2) x3 x4 x5 w x6 x7],0,qa.mk (qb.mk x1 x2) x3 x4 x5 w x6 x7)):=by
 have hML:100000≤maxLen:=by unfold maxLen;omega
 obtain⟨c,hce⟩:∃c,c=qa.mk (qb.mk x1 x2) x3 x4 x5 w x6 x7:=⟨_,rfl⟩
 have hl:=q7I exS 3 3 [a,b,c] (by simp) (by omega) (by rw[hce];simp[ha,hb,hc]) (by simp) (fun j h1 h2=>by simp at h2;omega)
 have hr:=(qbC (cv:=qc2 exS) [a,b,c]).length_le
 unfold Q8
 rw[if_pos (by omega),if_pos (by omega),qjs,quG,if_pos (by decide),Je ha,quG,if_pos (by omega),if_pos (by omega),if_pos (by omega),qjs,quG,if_pos (by decide),Je hb,quG,if_pos (by omega),if_pos (by omega),if_pos (by omega),qjs,quG,if_pos (by decide),Je hc,quG,if_pos (by omega),if_neg (by omega),qa2,←hce]
 change Option.bind (qB _ ([a,b,c],((3:Nat):Int)-1)) _=_
 rw[hl,quG,if_neg (by simp at hr;omega)]
theorem q9n (a:List (List Int)) (ha:a.length≤1000000) (hs:∀x∈a,x.length≤1000000):zw a a=some true:=by
 have h:=q5d (step:=zr a a) a (fun _=>true) (Sum.inl ()) (Sum.inr ()) (fun i x hx=>by
  have hi:=Q6 hx
  unfold zr
  rw[if_pos (by omega),if_pos ⟨by omega,by omega⟩,quJ,hx,quG,if_pos ⟨by omega,by omega⟩,quG,qfh _ _ (hs x (quH hx)),quG,qvG rfl,if_neg (by decide),Qk hi ha]
  rfl) (by
  unfold zr
  rw[if_neg (by omega)])
 unfold zw
 rw[if_neg (by simp),h,quG,if_pos (by simp)]
 rfl
theorem qiG:red (qc2 exS) [exO [65,49] 5 60 5 [1] 0,exO [65,49] 5 70 9 [2] 0,exO [66,49] 5 50 0 [3] 0]=[exO [65,49] 5 70 9 [2] 0,exO [66,49] 5 50 0 [3] 0]:=by kernel_rfl
theorem qhC:red (qc2 exS) [exO [65,49] 5 60 5 [1] 0,exO [65,49] 5 70 9 [2] 0,exO [66,49] 5 50 0 [2] 1]=[exO [65,49] 5 60 5 [1] 0,exO [65,49] 5 70 9 [2] 0,exO [66,49] 5 50 0 [2] 1]:=by kernel_rfl
theorem qgM:dfs q3J qip [exO [65,49] 5 60 0 [1] 0,exO [66,49] 10 60 0 [3] 0,exO [65,49] 6 60 0 [2] 0] [] 0=16:=by kernel_rfl
theorem qiS:(q77 4 (lwF [exO [65,49] 5 60 0 [1] 0,exO [66,49] 10 60 0 [3] 0,exO [65,49] 6 60 0 [2] 0,exO [67,49] 5 60 0 [2] 1])).map qK=[[0,2,3],[1]]:=by kernel_rfl
theorem q0s (c:List UInt8) (cr g d x:Int) (bd:Int):zH (exO c cr g d [x] bd):=⟨by show 1≤1000;omega,by show 0≤1000;omega⟩
theorem q6Q:QI=some true:=by
 have h1:=q9w (exO [65,49] 5 60 5 [1] 0) (exO [65,49] 5 70 9 [2] 0) (exO [66,49] 5 50 0 [3] 0) (q0s ..) (q0s ..) (q0s ..)
 have h2:=q94 (exO [65,49] 5 60 5 [1] 0) (exO [65,49] 5 70 9 [2] 0) [2] 1 (ByteArray.mk (List.toArray [66,49])) 5 50 0 1 [] (q0s ..) (q0s ..) (q0s [66,49] 5 50 0 2 1)
 have h3:=qiQ [exO [65,49] 5 60 0 [1] 0,exO [66,49] 10 60 0 [3] 0,exO [65,49] 6 60 0 [2] 0] (by simp) (by simp[q0s])
 have h4:=q6l [exO [65,49] 5 60 0 [1] 0,exO [66,49] 10 60 0 [3] 0,exO [65,49] 6 60 0 [2] 0,exO [67,49] 5 60 0 [2] 1] (by simp) (by simp[q0s])
 rw[qiG] at h1
 rw[show(qa.mk (qb.mk 1 (ByteArray.mk (List.toArray [66,49]))) 5 50 0 [2] 1 [])=exO [66,49] 5 50 0 [2] 1 from rfl,qhC] at h2
 rw[qgM] at h3
 rw[show[exO [65,49] 5 60 0 [1] 0,exO [66,49] 10 60 0 [3] 0,exO [65,49] 6 60 0 [2] 0,exO [67,49] 5 60 0 [2] 1].length=4 from rfl,qiS] at h4
 unfold exO exP exS at h1 h2
 unfold exO at h3 h4
 have hc:(ByteArray.toList (ByteArray.mk (List.toArray [66,49]))==ByteArray.toList (ByteArray.mk (List.toArray [66,49])))=true:=by simp
 unfold QI
 rw[h1,quG,h2,quG,Sum.elim_inl]
 dsimp only
 rw[if_neg (by decide),if_neg (by decide),if_neg (by decide),if_pos (by decide)]
 simp only[quQ,qv5,quG]
 rw[if_neg (by decide),if_pos (by decide),hc,if_neg (by decide),if_neg (by decide),h3,quG]
 dsimp only
 rw[if_pos (by decide),if_pos (by decide),h4,quG,q9n _ (by simp) (by simp)]
 rfl
end
noncomputable section
theorem Jf:∀(R g:List Nat),R.Nodup→(∀x∈R,x∈g)→R.length≤g.length
 | [],_,_,_=>qv6 _
 | a::R,g,hn,hs=>by
  obtain⟨h1,h2⟩:=List.nodup_cons.1 hn
  have ha:=hs a quV
  have:=Jf R (g.erase a) h2 fun x hx=>(List.mem_erase_of_ne (fun h:x=a=>h1 (by rw[←h];exact hx))).2 (hs x (quO _ hx))
  rw[List.length_erase_of_mem ha] at this
  have:=List.length_pos_of_mem ha
  rw[quR];omega
section
variable (e:Nat→Nat→Bool)
def nxR (x:Nat):List Nat→List Nat→List Nat
 | [],R=>R
 | k::g,R=>nxR x g (if(!R.contains k&&e x k)=true then R++[k] else R)
def bfs (g:List Nat):Nat→Nat→List Nat→List Nat
 | 0,_,R=>R
 | f+1,i,R=>if i<R.length then bfs g f (i+1) (nxR e (R.getD i 0) g R) else R
variable {e}
theorem q7V {x:Nat}:∀(g R:List Nat),R.Nodup→(nxR e x g R).Nodup∧(∃t,nxR e x g R=R++t)∧(∀y∈nxR e x g R,y∈R∨y∈g)∧∀k∈g,e x k=true→k∈nxR e x g R
 | [],R,h=>⟨h,⟨[],(qv1 R).symm⟩,fun y hy => .inl hy,fun k hk=>by cases hk⟩
 | k::g,R,h=>by
  unfold nxR
  by_cases hc:(!R.contains k&&e x k)=true
  ·rw[if_pos hc]
   simp only[qvc,Bool.not_eq_true',List.contains_eq_mem,decide_eq_false_iff_not] at hc
   have hn:(R++[k]).Nodup:=by
    rw[List.nodup_append]
    refine⟨h,by simp,fun a ha b hb=>?_⟩
    rw[qvw] at hb
    subst hb
    exact fun he=>hc.1 (he ▸ ha)
   obtain⟨h1,⟨t,h2⟩,h3,h4⟩:=q7V g (R++[k]) hn
   refine⟨h1,⟨k::t,by rw[h2];simp⟩,fun y hy=>?_,fun j hj hej=>?_⟩
   ·rcases h3 y hy with h|h
    ·rcases qva.1 h with h|h
     ·exact .inl h
     ·exact .inr (by rw[qvw.1 h];exact quV)
    ·exact .inr (quO _ h)
   ·rcases qv2.1 hj with rfl|hj
    ·rw[h2];simp
    ·exact h4 j hj hej
  ·rw[if_neg hc]
   obtain⟨h1,⟨t,h2⟩,h3,h4⟩:=q7V g R h
   refine⟨h1,⟨t,h2⟩,fun y hy=>(h3 y hy).imp_right (quO _),fun j hj hej=>?_⟩
   rcases qv2.1 hj with rfl|hj
   ·have:j∈R:=by
     by_cases hm:j∈R
     ·exact hm
     ·exact absurd (by simp[hm,hej]) hc
    rw[h2];exact quS _ this
   ·exact h4 j hj hej
theorem qfV {g:List Nat}:∀(f i:Nat) (R:List Nat),R.Nodup→(∀y∈R,y∈g)→(∀j,j<i→∀x,R[j]?=some x→∀k∈g,e x k=true→k∈R)→g.length≤f+i→
  (bfs e g f i R).Nodup∧(∀y∈bfs e g f i R,y∈g)∧(∀y∈R,y∈bfs e g f i R)∧∀x∈bfs e g f i R,∀k∈g,e x k=true→k∈bfs e g f i R
 | f,i,R,h1,h2,h3,h4=>by
  have fin:R.length≤i→∀x∈R,∀k∈g,e x k=true→k∈R:=fun hi x hx=>by
   obtain⟨j,hj⟩:=List.getElem?_of_mem hx
   exact h3 j (by have:=(quK.1 hj).1;omega) x hj
  cases f with
  | zero=>
   have:=Jf R g h1 h2
   exact⟨h1,h2,fun y hy=>hy,fin (by omega)⟩
  | succ f=>
   unfold bfs
   by_cases hi:i<R.length
   ·rw[if_pos hi]
    obtain⟨a1,⟨t,a2⟩,a3,a4⟩:=q7V (e:=e) (x:=R.getD i 0) g R h1
    have hg:R[i]?=some (R.getD i 0):=by simp[List.getD,hi]
    obtain⟨b1,b2,b3,b4⟩:=qfV f (i+1) (nxR e (R.getD i 0) g R) a1 (fun y hy=>(a3 y hy).elim (h2 y) id) (fun j hj x hx k hk hek=>by
     have hjR:j<R.length:=by omega
     rw[a2,qvj hjR] at hx
     by_cases hji:j=i
     ·subst hji
      rw[hg] at hx
      injection hx with hx
      subst hx
      exact a4 k hk hek
     ·rw[a2]
      exact quS _ (h3 j (by omega) x hx k hk hek)) (by omega)
    exact⟨b1,b2,fun y hy=>b3 y (by rw[a2];exact quS _ hy),b4⟩
   ·rw[if_neg hi]
    exact⟨h1,h2,fun y hy=>hy,fin (by omega)⟩
theorem qi2 {g:List Nat} {r:Nat} (hg:g.Nodup) (hr:r∈g) (hc:∀k∈g,Cn (fun i j=>e i j=true) r k) (hcl:∀x∈g,∀k,e x k=true→k∈g) {f:Nat} (hf:g.length≤f):(bfs e g f 0 [r]).length=g.length:=by
 obtain⟨h1,h2,h3,h4⟩:=qfV (e:=e) (g:=g) f 0 [r] (by simp) (fun y hy=>by rw[qvw.1 hy];exact hr) (fun j hj=>by omega) (by omega)
 have h5:∀k,Cn (fun i j=>e i j=true) r k→k∈bfs e g f 0 [r]:=fun k hk=>by
  induction hk with
  | refl=>exact h3 _ quV
  | step _ he ih=>exact h4 _ ih _ (hcl _ (h2 _ ih) _ he) he
 exact Nat.le_antisymm (Jf _ _ h1 h2) (Jf _ _ hg fun x hx=>h5 x (hc x hx))
end
end
noncomputable section
open Go.RowKit
set_option maxRecDepth 20000
set_option maxHeartbeats 8000000
theorem lo6:okL 6 q3D:=qS (qi bd6) (by kernel_rfl) (by kernel_rfl)
def cx6:=JA_ @q3D.eq_1 (JA_ @Try.f6.eq_1 @bd6)
theorem qqv:lbO 6 5=qgJ:=zP (qi bd6) rfl
theorem qp3:okL 6 qgJ:=z8 lo6 (quH (i:=0) (by kernel_rfl))
theorem qmP:lbO 6 11=qc5:=zP (qi bd6) rfl
theorem qjS:okL 6 qc5:=z8 lo6 (quH (i:=1) (by kernel_rfl))
theorem qjM:lbO 6 17=qaD:=zP (qi bd6) rfl
theorem ql5:okL 6 qaD:=z8 lo6 (quH (i:=2) (by kernel_rfl))
theorem qlB:lbO 6 25=qaU:=zP (qi bd6) rfl
theorem qlU:okL 6 qaU:=z8 lo6 (quH (i:=3) (by kernel_rfl))
theorem qme:lbO 6 28=qbj:=zP (qi bd6) rfl
theorem qmk:okL 6 qbj:=z8 lo6 (quH (i:=4) (by kernel_rfl))
theorem qla:lbO 6 32=q9X:=zP (qi bd6) rfl
theorem qjC:okL 6 q9X:=z8 lo6 (quH (i:=5) (by kernel_rfl))
theorem qk1:lbO 6 43=qcN:=zP (qi bd6) rfl
theorem qkf:okL 6 qcN:=z8 lo6 (quH (i:=6) (by kernel_rfl))
theorem qlI:lbO 6 46=qaH:=zP (qi bd6) rfl
theorem qmA:okL 6 qaH:=z8 lo6 (quH (i:=7) (by kernel_rfl))
def qX (t3:Bool) (t4:List qa) (t34:Int):(List Int×Int)→Option ((List Int×Int)⊕(List Int))|(w0,t35)=>if t35<t34 then if 0≤t35∧t35<((w0.length:Nat):Int) then if Int.toNat t35+1≤w0.length then some (Sum.inl (List.set w0 (Int.toNat t35) (-1),w64 (t35+1))) else none else none else some (Sum.inr w0)
theorem ZY:∀(w0:List Int) (t3:Bool) (t4:List qa) (t34 t35:Int) (w0_len:Nat),w0_len=w0.length→XL2 evo 6 0 5 ⟨[(3,rB t3),(4,rL 8 qc t4),(7,rO 0 1 w0_len),(34,rI t34),(35,rI t35)],[(0,bR 3 1 eI w0)],1,201⟩=(qB (qX t3 t4 t34) (w0,t35)).bind (fun(e:List Int)=>some (Exit.exit 0,⟨[(3,rB t3),(4,rL 8 qc t4),(7,rO 0 1 e.length)],[(0,bR 3 1 eI e)],1,201⟩)):=
 by
 intro w0 t3 t4 t34 t35 w0_len h0
 subst h0
 revert t35;revert w0;exact q6A qqv qp3 (fun e=>by exact⟨_,rfl,fun h=>by cases h⟩) fun w0 t35=>by
  have:=cx6;have:=@qgJ.eq_1;have:=@qX.eq_1;exact gA
def qE (t3:Bool) (t4:List qa) (t9:Int) (t10:Int) (t11:List Int) (t43:List (List Int)) (t44:Int) (t45:Int) (t63:List Int) (t64:Int):(List Int×Int)→Option ((List Int×Int)⊕((List Int)⊕(List Int)))|(w0,t65)=>if t65<t64 then if 0≤t65∧t65<((t63.length:Nat):Int) then Option.bind t63[Int.toNat t65]? fun(a:Int)=>if a<0 then some (Sum.inr (Sum.inl w0)) else if((t4.length:Nat):Int)≤a then some (Sum.inr (Sum.inl w0)) else if 0≤a∧a<((w0.length:Nat):Int) then Option.bind w0[Int.toNat a]? fun(a2:Int)=>if 0≤a2 then some (Sum.inr (Sum.inl w0)) else if 0<t65 then if 0≤w64 (t65-1)∧w64 (t65-1)<((t11.length:Nat):Int) then Option.bind t11[Int.toNat (w64 (t65-1))]? fun(a3:Int)=>if a≤a3 then some (Sum.inr (Sum.inl w0)) else if 0≤a∧a<((w0.length:Nat):Int) then if Int.toNat a+1≤w0.length then some (Sum.inl (List.set w0 (Int.toNat a) t10,w64 (t65+1))) else none else none else none else if 0≤a∧a<((w0.length:Nat):Int) then if Int.toNat a+1≤w0.length then some (Sum.inl (List.set w0 (Int.toNat a) t10,w64 (t65+1))) else none else none else none else none else some (Sum.inr (Sum.inr w0))
theorem ZI:∀(w0:List Int) (t3:Bool) (t4:List qa) (t9 t10:Int) (t11:List Int) (t43:List (List Int)) (t44 t45:Int) (t63:List Int) (t64 t65:Int) (w0_len:Nat),w0_len=w0.length→XL2 evo 6 0 17 ⟨[(3,rB t3),(4,rL 8 qc t4),(7,rO 0 1 w0_len),(9,rI t9),(10,rI t10),(11,rL 1 eI t11),(43,rL 1 (eL 1 eI) t43),(44,rI t44),(45,rI t45),(63,rL 1 eI t63),(64,rI t64),(65,rI t65)],[(0,bR 3 1 eI w0)],1,201⟩=(qB (qE t3 t4 t9 t10 t11 t43 t44 t45 t63 t64) (w0,t65)).bind (Sum.elim (fun(e:List Int)=>some (Exit.ret,⟨[(2,rB Bool.false),(3,rB t3),(4,rL 8 qc t4),(7,rO 0 1 e.length),(9,rI t9),(11,rL 1 eI t11),(43,rL 1 (eL 1 eI) t43),(44,rI t44),(45,rI t45)],[(0,bR 3 1 eI e)],1,201⟩)) (fun(e:List Int)=>some (Exit.exit 4,⟨[(2,R.any),(3,rB t3),(4,rL 8 qc t4),(7,rO 0 1 e.length),(9,rI t9),(11,rL 1 eI t11),(43,rL 1 (eL 1 eI) t43),(44,rI t44),(45,rI t45)],[(0,bR 3 1 eI e)],1,201⟩))):=
 by
 intro w0 t3 t4 t9 t10 t11 t43 t44 t45 t63 t64 t65 w0_len h0
 subst h0
 revert t65;revert w0;exact q6A qjM ql5 (fun e=>by rcases e with _|_<;>exact⟨_,rfl,fun h=>by cases h⟩) fun w0 t65=>by
  have:=cx6;have:=@qaD.eq_1;have:=@qE.eq_1;exact gA
def qO (w0:List Int) (w1:List Int) (t3:Bool) (t4:List qa) (t9:Int) (t11:List Int) (t15:Int) (t17:Int) (t43:List (List Int)) (t44:Int) (t45:Int) (t113:List Int) (t114:Int) (t115:Int) (t120:Int):(Bool×Int)→Option ((Bool×Int)⊕Bool)|(t18,t121)=>if t121<t120 then if 0≤t121∧t121<((w1.length:Nat):Int) then Option.bind w1[Int.toNat t121]? fun(a:Int)=>if t18=Bool.true then some (Sum.inl (Bool.true,w64 (t121+1))) else some (Sum.inl (a==t17,w64 (t121+1))) else none else some (Sum.inr t18)
theorem ZN:∀(w0 w1:List Int) (t3:Bool) (t4:List qa) (t9:Int) (t11:List Int) (t15 t17:Int) (t18:Bool) (t43:List (List Int)) (t44 t45:Int) (t113:List Int) (t114 t115 t120 t121:Int) (w0_len w1_len:Nat),w0_len=w0.length→w1_len=w1.length→XL2 evo 6 0 32 ⟨[(3,rB t3),(4,rL 8 qc t4),(7,rO 0 1 w0_len),(9,rI t9),(11,rL 1 eI t11),(14,rO 1 1 w1_len),(15,rI t15),(17,rI t17),(18,rB t18),(43,rL 1 (eL 1 eI) t43),(44,rI t44),(45,rI t45),(113,rL 1 eI t113),(114,rI t114),(115,rI t115),(119,rO 1 1 w1_len),(120,rI t120),(121,rI t121)],[(0,bR 3 1 eI w0),(1,bR 3 1 eI w1)],2,201⟩=(qB (qO w0 w1 t3 t4 t9 t11 t15 t17 t43 t44 t45 t113 t114 t115 t120) (t18,t121)).bind (fun(e:Bool)=>some (Exit.exit 10,⟨[(3,rB t3),(4,rL 8 qc t4),(7,rO 0 1 w0.length),(9,rI t9),(11,rL 1 eI t11),(14,rO 1 1 w1.length),(15,rI t15),(17,rI t17),(18,rB e),(43,rL 1 (eL 1 eI) t43),(44,rI t44),(45,rI t45),(113,rL 1 eI t113),(114,rI t114),(115,rI t115)],[(0,bR 3 1 eI w0),(1,bR 3 1 eI w1)],2,201⟩)):=
 by
 intro w0 w1 t3 t4 t9 t11 t15 t17 t18 t43 t44 t45 t113 t114 t115 t120 t121 w0_len w1_len h0 h1
 subst h0 h1
 revert t121;revert t18;exact q6A qla qjC (fun e=>by exact⟨_,rfl,fun h=>by cases h⟩) fun t18 t121=>by
  have:=cx6;have:=@q9X.eq_1;have:=@qO.eq_1;exact gA
def qM (w0:List Int) (t3:Bool) (t4:List qa) (t9:Int) (t11:List Int) (t15:Int) (t43:List (List Int)) (t44:Int) (t45:Int) (t113:List Int) (t114:Int):(List Int×Int)→Option ((List Int×Int)⊕(List Int))|(w1,t115)=>if t115<t114 then if 0≤t115∧t115<((t113.length:Nat):Int) then Option.bind t113[Int.toNat t115]? fun(a:Int)=>Option.bind (qB (qO w0 w1 t3 t4 t9 t11 t15 a t43 t44 t45 t113 t114 t115 ((w1.length:Nat):Int)) (Bool.false,0)) fun(a2:Bool)=>if(!a2)=Bool.true then if 0≤t15∧t15<((w1.length:Nat):Int) then Option.bind w1[Int.toNat t15]? fun(a3:Int)=>if 0≤a3∧a3<((t4.length:Nat):Int) then Option.bind t4[Int.toNat a3]? fun(a4:qa)=>if 0≤a∧a<((t4.length:Nat):Int) then Option.bind t4[Int.toNat a]? fun(a5:qa)=>Option.bind (Qm a4 a5) fun(a6:Bool)=>if(!a6)=Bool.true then if w1.length+1≤maxLen∧(w1.length+1)*8≤140737488355328 then some (Sum.inl (w1++[a],w64 (t115+1))) else none else some (Sum.inl (w1,w64 (t115+1))) else none else none else none else some (Sum.inl (w1,w64 (t115+1))) else none else some (Sum.inr w1)
theorem ZM:∀(w0 w1:List Int) (t3:Bool) (t4:List qa) (t9:Int) (t11:List Int) (t15:Int) (t43:List (List Int)) (t44 t45:Int) (t113:List Int) (t114 t115:Int) (w0_len w1_len:Nat),w0_len=w0.length→w1_len=w1.length→XL2 evo 6 0 28 ⟨[(3,rB t3),(4,rL 8 qc t4),(7,rO 0 1 w0_len),(9,rI t9),(11,rL 1 eI t11),(14,rO 1 1 w1_len),(15,rI t15),(43,rL 1 (eL 1 eI) t43),(44,rI t44),(45,rI t45),(113,rL 1 eI t113),(114,rI t114),(115,rI t115)],[(0,bR 3 1 eI w0),(1,bR 3 1 eI w1)],2,201⟩=(qB (qM w0 t3 t4 t9 t11 t15 t43 t44 t45 t113 t114) (w1,t115)).bind (fun(e:List Int)=>some (Exit.exit 8,⟨[(3,rB t3),(4,rL 8 qc t4),(7,rO 0 1 w0.length),(9,rI t9),(11,rL 1 eI t11),(14,rO 1 1 e.length),(15,rI t15),(43,rL 1 (eL 1 eI) t43),(44,rI t44),(45,rI t45)],[(0,bR 3 1 eI w0),(1,bR 3 1 eI e)],2,201⟩)):=
 by
 intro w0 w1 t3 t4 t9 t11 t15 t43 t44 t45 t113 t114 t115 w0_len w1_len h0 h1
 subst h0 h1
 revert t115;revert w1;exact q6A qme qmk (fun e=>by exact⟨_,rfl,fun h=>by cases h⟩) fun w1 t115=>by
  have:=cx6;have:=@qbj.eq_1;have:=@ZN;have:=@QZ;have:=@qM.eq_1;exact gA
def qw (w0:List Int) (t3:Bool) (t4:List qa) (t9:Int) (t11:List Int) (t43:List (List Int)) (t44:Int) (t45:Int):(List Int×Int)→Option ((List Int×Int)⊕(List Int))|(w1,t15)=>if t15<((w1.length:Nat):Int) then Option.bind (qB (qM w0 t3 t4 t9 t11 t15 t43 t44 t45 t11 ((t11.length:Nat):Int)) (w1,0)) fun(a:List Int)=>some (Sum.inl (a,w64 (t15+1))) else some (Sum.inr w1)
theorem ZJ:∀(w0 w1:List Int) (t3:Bool) (t4:List qa) (t9:Int) (t11:List Int) (t15:Int) (t43:List (List Int)) (t44 t45:Int) (w0_len w1_len:Nat),w0_len=w0.length→w1_len=w1.length→XL2 evo 6 0 25 ⟨[(3,rB t3),(4,rL 8 qc t4),(7,rO 0 1 w0_len),(9,rI t9),(11,rL 1 eI t11),(14,rO 1 1 w1_len),(15,rI t15),(43,rL 1 (eL 1 eI) t43),(44,rI t44),(45,rI t45)],[(0,bR 3 1 eI w0),(1,bR 3 1 eI w1)],2,201⟩=(qB (qw w0 t3 t4 t9 t11 t43 t44 t45) (w1,t15)).bind (fun(e:List Int)=>some (Exit.exit 6,⟨[(3,rB t3),(4,rL 8 qc t4),(7,rO 0 1 w0.length),(9,rI t9),(11,rL 1 eI t11),(14,rO 1 1 e.length),(43,rL 1 (eL 1 eI) t43),(44,rI t44),(45,rI t45)],[(0,bR 3 1 eI w0),(1,bR 3 1 eI e)],2,201⟩)):=
 by
 intro w0 w1 t3 t4 t9 t11 t15 t43 t44 t45 w0_len w1_len h0 h1
 subst h0 h1
 revert t15;revert w1;exact q6A qlB qlU (fun e=>by exact⟨_,rfl,fun h=>by cases h⟩) fun w1 t15=>by
  have:=cx6;have:=@qaU.eq_1;have:=@ZM;have:=@qw.eq_1;exact gA
theorem Zm:∀(w10:Int) (w0:List Int) (t3:Bool) (t4:List qa) (t9:Int) (t11:List Int) (t15:Int) (t43:List (List Int)) (t44 t45:Int) (w0_len:Nat),w0_len=w0.length→XL2 evo 6 0 25 ⟨[(3,rB t3),(4,rL 8 qc t4),(7,rO 0 1 w0_len),(9,rI t9),(11,rL 1 eI t11),(14,rO 1 1 1),(15,rI t15),(43,rL 1 (eL 1 eI) t43),(44,rI t44),(45,rI t45)],[(0,bR 3 1 eI w0),(1,B.row 3 1 [dI w10])],2,201⟩=(qB (qw w0 t3 t4 t9 t11 t43 t44 t45) ([w10],t15)).bind (fun(e:List Int)=>some (Exit.exit 6,⟨[(3,rB t3),(4,rL 8 qc t4),(7,rO 0 1 w0.length),(9,rI t9),(11,rL 1 eI t11),(14,rO 1 1 e.length),(43,rL 1 (eL 1 eI) t43),(44,rI t44),(45,rI t45)],[(0,bR 3 1 eI w0),(1,bR 3 1 eI e)],2,201⟩)):=by
 intro w10 w0 t3 t4 t9 t11 t15 t43 t44 t45 w0_len h0;subst h0;have h:=ZJ w0 [w10] t3 t4 t9 t11 t15 t43 t44 t45 _ _ rfl rfl
 first
  | exact h
  | (simp only[rL,dL,bR,bZ,Nat.reduceAdd] at h;exact h)
def qP (t3:Bool) (t4:List qa) (t43:List (List Int)) (t44:Int):(List Int×Int×Int)→Option ((List Int×Int×Int)⊕((List Int)⊕(List Int)))|(w0,t9,t45)=>if t45<t44 then if 0≤t45∧t45<((t43.length:Nat):Int) then Option.bind t43[Int.toNat t45]? fun(a:List Int)=>if(((a.length:Nat):Int)==0)=Bool.true then some (Sum.inr (Sum.inl w0)) else if 0<((a.length:Nat):Int) then Option.bind a[0]? fun(a2:Int)=>if a2≤t9 then some (Sum.inr (Sum.inl w0)) else if 0<((a.length:Nat):Int) then Option.bind a[0]? fun(a3:Int)=>Option.bind (qB (qE t3 t4 a3 t45 a t43 t44 t45 a ((a.length:Nat):Int)) (w0,0)) fun(a4:Sum (List Int) (List Int))=>Sum.elim (fun(a5:List Int)=>some (Sum.inr (Sum.inl a5))) (fun(a6:List Int)=>if 0<((a.length:Nat):Int) then Option.bind a[0]? fun(a7:Int)=>Option.bind (qB (qw a6 t3 t4 a3 a t43 t44 t45) ([a7],0)) fun(a8:List Int)=>if(((a8.length:Nat):Int) != ((a.length:Nat):Int))=Bool.true then some (Sum.inr (Sum.inl a6)) else some (Sum.inl (a6,a3,w64 (t45+1))) else none) a4 else none else none else none else some (Sum.inr (Sum.inr w0))
theorem ZO:∀(w0:List Int) (t3:Bool) (t4:List qa) (t9:Int) (t43:List (List Int)) (t44 t45:Int) (w0_len:Nat),w0_len=w0.length→XL2 evo 6 0 11 ⟨[(3,rB t3),(4,rL 8 qc t4),(7,rO 0 1 w0_len),(9,rI t9),(43,rL 1 (eL 1 eI) t43),(44,rI t44),(45,rI t45)],[(0,bR 3 1 eI w0)],1,201⟩=(qB (qP t3 t4 t43 t44) (w0,t9,t45)).bind (Sum.elim (fun(e:List Int)=>some (Exit.ret,⟨[(2,rB Bool.false),(3,rB t3),(4,rL 8 qc t4),(7,rO 0 1 e.length)],[(0,bR 3 1 eI e)],1,201⟩)) (fun(e:List Int)=>some (Exit.exit 2,⟨[(2,R.any),(3,rB t3),(4,rL 8 qc t4),(7,rO 0 1 e.length)],[(0,bR 3 1 eI e)],1,201⟩))):=
 by
 intro w0 t3 t4 t9 t43 t44 t45 w0_len h0
 subst h0
 revert t45;revert t9;revert w0;exact qo6 qmP qjS (fun e=>by rcases e with _|_<;>exact⟨_,rfl,fun h=>by cases h⟩) fun w0 t9 t45=>by
  have:=cx6;have:=@qc5.eq_1;have:=@ZI;have:=@Zm;have:=@qP.eq_1;exact gA
def qQ (w0:List Int) (t3:Bool) (t4:List qa) (t21:Int) (t161:Int) (t162:Int) (t166:Int):Int→Option (Int⊕(Unit⊕Unit))|t167=>if t167<t166 then if 0≤t21∧t21<((w0.length:Nat):Int) then Option.bind w0[Int.toNat t21]? fun(a:Int)=>if a<0 then some (Sum.inr (Sum.inl ())) else if 0≤t167∧t167<((w0.length:Nat):Int) then Option.bind w0[Int.toNat t167]? fun(a2:Int)=>if 0≤t21∧t21<((w0.length:Nat):Int) then Option.bind w0[Int.toNat t21]? fun(a3:Int)=>if(a2 != a3)=Bool.true then if 0≤t167∧t167<((t4.length:Nat):Int) then Option.bind t4[Int.toNat t167]? fun(a4:qa)=>if 0≤t21∧t21<((t4.length:Nat):Int) then Option.bind t4[Int.toNat t21]? fun(a5:qa)=>Option.bind (Qm a4 a5) fun(a6:Bool)=>if(!a6)=Bool.true then some (Sum.inr (Sum.inl ())) else some (Sum.inl (w64 (t167+1))) else none else none else some (Sum.inl (w64 (t167+1))) else none else none else none else some (Sum.inr (Sum.inr ()))
theorem ZK:∀(w0:List Int) (t3:Bool) (t4:List qa) (t21 t161 t162 t166 t167:Int) (w0_len:Nat),w0_len=w0.length→XL2 evo 6 0 46 ⟨[(3,rB t3),(4,rL 8 qc t4),(7,rO 0 1 w0_len),(21,rI t21),(161,rI t161),(162,rI t162),(166,rI t166),(167,rI t167)],[(0,bR 3 1 eI w0)],1,201⟩=(qB (qQ w0 t3 t4 t21 t161 t162 t166) t167).bind (Sum.elim (fun(e:Unit)=>some (Exit.ret,⟨[(2,rB Bool.false),(3,rB t3),(4,rL 8 qc t4),(7,rO 0 1 w0.length),(161,rI t161),(162,rI t162)],[(0,bR 3 1 eI w0)],1,201⟩)) (fun(e:Unit)=>some (Exit.exit 14,⟨[(2,R.any),(3,rB t3),(4,rL 8 qc t4),(7,rO 0 1 w0.length),(161,rI t161),(162,rI t162)],[(0,bR 3 1 eI w0)],1,201⟩))):=
 by
 intro w0 t3 t4 t21 t161 t162 t166 t167 w0_len h0
 subst h0
 revert t167;exact q98 qlI qmA (fun e=>by rcases e with _|_<;>exact⟨_,rfl,fun h=>by cases h⟩) fun x=>by
  have:=cx6;have:=@qaH.eq_1;have:=@QZ;have:=@qQ.eq_1;exact gA
def qN (w0:List Int) (t3:Bool) (t4:List qa) (t161:Int):Int→Option (Int⊕(Unit⊕Unit))|t162=>if t162<t161 then Option.bind (qB (qQ w0 t3 t4 t162 t161 t162 ((t4.length:Nat):Int)) 0) fun(a:Sum Unit Unit)=>Sum.elim (fun(a2:Unit)=>some (Sum.inr (Sum.inl ()))) (fun(a3:Unit)=>some (Sum.inl (w64 (t162+1)))) a else some (Sum.inr (Sum.inr ()))
theorem ZL:∀(w0:List Int) (t3:Bool) (t4:List qa) (t161 t162:Int) (w0_len:Nat),w0_len=w0.length→XL2 evo 6 0 43 ⟨[(3,rB t3),(4,rL 8 qc t4),(7,rO 0 1 w0_len),(161,rI t161),(162,rI t162)],[(0,bR 3 1 eI w0)],1,201⟩=(qB (qN w0 t3 t4 t161) t162).bind (Sum.elim (fun(e:Unit)=>some (Exit.ret,⟨[(2,rB Bool.false),(3,rB t3)],[],0,201⟩)) (fun(e:Unit)=>some (Exit.exit 12,⟨[(2,R.any),(3,rB t3)],[],0,201⟩))):=
 by
 intro w0 t3 t4 t161 t162 w0_len h0
 subst h0
 revert t162;exact q98 qk1 qkf (fun e=>by rcases e with _|_<;>exact⟨_,rfl,fun h=>by cases h⟩) fun x=>by
  have:=cx6;have:=@qcN.eq_1;have:=@ZK;have:=@qN.eq_1;exact gA
def Q1 (x0:Qj):Option Bool:=Option.bind QI fun(a:Bool)=>Option.bind (zZ x0) fun(a2:Prod (List qa) (Prod qf Int))=>if 0≤((a2.1.length:Nat):Int)∧8*((a2.1.length:Nat):Int)≤281474976710656∧((a2.1.length:Nat):Int)≤9223372036854775807 then Option.bind (qB (qX a a2.1 ((a2.1.length:Nat):Int)) (List.replicate a2.1.length 0,0)) fun(a3:List Int)=>Option.bind (zY a2.1) fun(a4:List (List Int))=>Option.bind (qB (qP a a2.1 a4 ((a4.length:Nat):Int)) (a3,((-1),0))) fun(a5:Sum (List Int) (List Int))=>Sum.elim (fun(a6:List Int)=>some Bool.false) (fun(a7:List Int)=>Option.bind (qB (qN a7 a a2.1 ((a2.1.length:Nat):Int)) 0) fun(a8:Sum Unit Unit)=>Sum.elim (fun(a9:Unit)=>some Bool.false) (fun(a10:Unit)=>some a) a8) a5 else none
theorem JX:∀(x0_Has:List (List Int)) (x0_Odd_0_0 x0_Odd_0_1 x0_Odd_0_2 x0_Odd_1_0 x0_Odd_1_1 x0_Odd_1_2:Int) (x0_Programme:List Int) (x0_Day:Int),ev 6 0 [R.agg [dL 1 (eL 1 eI) x0_Has,dI x0_Odd_0_0,dI x0_Odd_0_1,dI x0_Odd_0_2,dI x0_Odd_1_0,dI x0_Odd_1_1,dI x0_Odd_1_2,dL 1 eI x0_Programme,C.d (D.int .u16 x0_Day)]] []=(Q1 (Qj.mk x0_Has (QM.mk (qg0.mk x0_Odd_0_0 x0_Odd_0_1 x0_Odd_0_2) (qg0.mk x0_Odd_1_0 x0_Odd_1_1 x0_Odd_1_2)) x0_Programme x0_Day)).bind (fun(e:Bool)=>some (rB e,[])):=
 fun x0_Has x0_Odd_0_0 x0_Odd_0_1 x0_Odd_0_2 x0_Odd_1_0 x0_Odd_1_1 x0_Odd_1_2 x0_Programme x0_Day=>by
  rw[qR bd6 pw6.2.2.2 lo6]
  have:=cx6;have:=@q2a;have:=@q0N;have:=@ZY;have:=@Jo;have:=@ZO;have:=@ZL;have:=@Q1.eq_1;exact gA
end

noncomputable section
open Go.RowKit
theorem qeV (p:Nat→Bool) {a b:Nat} (h:a≤b):((List.range a).filter p).length≤((List.range b).filter p).length:=by
 obtain⟨d,rfl⟩:∃d,b=a+d:=⟨b-a,by omega⟩
 induction d with
 | zero=>exact quW _
 | succ d ih=>
  refine qvh (ih (by omega)) ?_
  rw[show a+(d+1)=(a+d)+1 by omega,List.range_succ,List.filter_append,quN]
  omega
section
variable {l:List qa}
def q8J (l:List qa) (k:Nat):Nat:=(rts (lwF l k) (lwF l)).length
theorem qgq {k:Nat} (hk:k<l.length):(rts l.length (lwF l))[q8J l k]?=some (lwF l k):=qbh (qgs l hk) (qvG (q7A l hk))
theorem q7Q {c r k:Nat} (hr:(rts l.length (lwF l))[c]?=some r) (hk:k<l.length):q8J l k=c↔lwF l k=r:=by
 constructor
 ·intro h
  have:=qgq hk
  rw[h,hr] at this
  injection this with this
  exact this.symm
 ·intro h
  unfold q8J
  rw[h]
  exact(q5L hr).2.2
structure qgf (l:List qa) (c:Nat) (S:List Nat) (w:List Int):Prop where
 len:w.length=l.length
 get:∀k,k<l.length→w[k]?=some (if q8J l k<c∨k∈S then((q8J l k:Nat):Int) else -1)
def q4a (l:List qa) (r:Nat):List Nat:=(List.range l.length).filter fun i=>decide (lwF l i=r)
theorem q0V {r k:Nat}:k∈q4a l r↔k<l.length∧lwF l k=r:=by
 unfold q4a
 rw[qvB,qvC,decide_eq_true_iff]
theorem q1M (r:Nat):(q4a l r).Pairwise (· < ·):=List.pairwise_lt_range.filter _
theorem qcs (r:Nat):(q4a l r).Nodup:=(q1M r).imp fun h=>Nat.ne_of_lt h
theorem qgm (r:Nat):(q4a l r).length≤l.length:=by
 unfold q4a;exact qvh (List.length_filter_le _ _) (by rw[List.length_range];exact quW _)
theorem qez {r:Nat} (hr:r<l.length) (h:lwF l r=r):(q4a l r)[0]?=some r:=by
 have hm:r∈q4a l r:=q0V.2 ⟨hr,h⟩
 have hs:=q1M (l:=l) r
 cases hg:q4a l r with
 | nil=>rw[hg] at hm;cases hm
 | cons x g=>
  rw[hg] at hm hs
  have hx:x∈q4a l r:=by rw[hg];exact quV
  obtain⟨h1,h2⟩:=q0V.1 hx
  have h3:=qfX l h1
  rcases qv2.1 hm with rfl|hm
  ·rfl
  ·have:=(List.pairwise_cons.1 hs).1 r hm
   omega
theorem qe7 (t3:Bool) (t4:List qa) (n:Nat) (hn:n≤1000):qB (qX t3 t4 (n:Int)) (List.replicate n (0:Int),(0:Int))=some (List.replicate n (-1:Int)):=by
 have:=JA (step:=qX t3 t4 (n:Int)) (fun k=>(List.replicate k (-1:Int)++List.replicate (n-k) (0:Int),(k:Int))) 0 n (qv6 _) (fun k _ hk=>by
  have hlen:(List.replicate k (-1:Int)++List.replicate (n-k) (0:Int)).length=n:=by rw[quN,qvn,qvn];omega
  have hset:(List.replicate k (-1:Int)++List.replicate (n-k) (0:Int)).set k (-1)=List.replicate (k+1) (-1:Int)++List.replicate (n-(k+1)) (0:Int):=by
   obtain⟨q,hq⟩:∃q,n-k=q+1:=⟨n-k-1,by omega⟩
   rw[show n-(k+1)=q by omega,hq,List.replicate_succ,List.set_append_right _ _ (by rw[qvn];exact quW _),qvn,Nat.sub_self,List.set_cons_zero,List.replicate_succ',qvl];rfl
  unfold qX
  dsimp only
  rw[if_pos (by omega),if_pos ⟨by omega,by omega⟩,quJ,if_pos (by omega),hset,Qk hk (by omega)]) (e:=List.replicate n (-1:Int)) (by
  unfold qX
  dsimp only
  rw[if_neg (by omega),Nat.sub_self,List.replicate_zero,qv1])
 rw[qvy] at this
 exact this
theorem qar (hl:l.length≤1000) {c r:Nat} (hr:(rts l.length (lwF l))[c]?=some r) (t3:Bool) (t9:Int) (t43:List (List Int)) (t44 t45:Int) (w:List Int) (hw:qgf l c [] w) :
  ∃w',qB (qE t3 l t9 (c:Int) (qK (q4a l r)) t43 t44 t45 (qK (q4a l r)) (((qK (q4a l r)).length:Nat):Int)) (w,(0:Int))=some (.inr w')∧qgf l (c+1) [] w':=by
 obtain⟨g,hg⟩:∃g,g=q4a l r:=⟨_,rfl⟩
 have hgl:g.length≤l.length:=by rw[hg];exact qgm r
 have hsort:g.Pairwise (· < ·):=by rw[hg];exact q1M r
 have hmem:∀k,k∈g↔k<l.length∧lwF l k=r:=fun k=>by rw[hg];exact q0V
 rw[←hg]
 have key:∀(j i:Nat) (w:List Int),j+i=g.length→qgf l c (g.take i) w→∃w',qB (qE t3 l t9 (c:Int) (qK g) t43 t44 t45 (qK g) (((qK g).length:Nat):Int)) (w,(i:Int))=some (.inr w')∧qgf l c g w':=by
  intro j
  induction j with
  | zero=>
   intro i w hi hw
   have hi:i=g.length:=by omega
   refine⟨w,zf ?_,by rw[hi,List.take_length] at hw;exact hw⟩
   unfold qE
   dsimp only
   rw[zc,if_neg (by omega)]
  | succ j ih=>
   intro i w hi hw
   have hig:i<g.length:=by omega
   have hgi:g[i]?=some g[i]:=quI hig
   have hc:(qK g)[i]?=some ((g[i]:Nat):Int):=by unfold qK;rw[quU,hgi];rfl
   obtain⟨hk,hfr⟩:=(hmem _).1 (qvx hig)
   have hidx:q8J l g[i]=c:=(q7Q hr hk).2 hfr
   have hnot:g[i] ∉ g.take i:=fun hm=>by
    obtain⟨q,hq⟩:=List.getElem?_of_mem hm
    have hqi:q<i:=by have:=Q6 hq;rw[qv9] at this;omega
    rw[qvf hqi,quI (by omega)] at hq
    injection hq with hq
    have:=List.pairwise_iff_getElem.1 hsort q i (by omega) hig hqi
    omega
   have hwk:=hw.get _ hk
   rw[hidx,if_neg (by simp[hnot])] at hwk
   have hwl:=hw.len
   have hset:qgf l c (g.take (i+1)) (w.set g[i] (c:Int)):=by
    refine⟨by rw[qvr];exact hwl,fun k hkl=>?_⟩
    rw[show g.take (i+1)=g.take i++[g[i]] by rw[List.take_add_one,hgi];rfl]
    by_cases he:k=g[i]
    ·rw[he,qvD (by omega),hidx,if_pos (.inr (quP _ (qvw.2 rfl)))]
    ·rw[qvE (by omega),hw.get k hkl]
     have:(k∈g.take i++[g[i]])↔k∈g.take i:=⟨fun h=>(qva.1 h).resolve_right (fun h=>he (qvw.1 h)),fun h=>quS _ h⟩
     simp only[this]
   obtain⟨w',q1,q2⟩:=ih (i+1) _ (by omega) hset
   refine⟨w',?_,q2⟩
   have e:qE t3 l t9 (c:Int) (qK g) t43 t44 t45 (qK g) (((qK g).length:Nat):Int) (w,(i:Int))=some (.inl (w.set g[i] (c:Int),((i+1:Nat):Int))):=by
    unfold qE
    dsimp only
    rw[zc,if_pos (by omega),if_pos ⟨by omega,by omega⟩,quJ,hc,quG,if_neg (by omega),if_neg (by omega),if_pos ⟨by omega,by omega⟩,quJ,hwk,quG,if_neg (by decide),Qk hig (by omega)]
    by_cases hi0:0<i
    ·have hgp:(qK g)[i-1]?=some ((g[i-1]'(by omega):Nat):Int):=by unfold qK;rw[quU,quI (by omega)];rfl
     have hlt:=List.pairwise_iff_getElem.1 hsort (i-1) i (by omega) hig (by omega)
     have hw1:w64 ((i:Int)-1)=((i-1:Nat):Int):=by rw[Ql (by omega) (by omega)];omega
     rw[if_pos (by omega),hw1,if_pos ⟨by omega,by omega⟩,quJ,hgp,quG,if_neg (by omega),if_pos ⟨by omega,by omega⟩,if_pos (by omega)]
    ·rw[if_neg (by omega),if_pos ⟨by omega,by omega⟩,if_pos (by omega)]
   rw[zW e]
   exact q1
 obtain⟨w',q1,q2⟩:=key g.length 0 w (by omega) (by rw[List.take_zero];exact hw)
 refine⟨w',q1,q2.len,fun k hk=>?_⟩
 rw[q2.get k hk]
 have:(q8J l k<c∨k∈g)↔(q8J l k<c+1∨k∈([]:List Nat)):=by
  rw[hmem]
  have:=q7Q hr hk
  constructor
  ·rintro(h|⟨-,h⟩)
   ·exact .inl (by omega)
   ·exact .inl (by have:=this.2 h;omega)
  ·rintro(h|h)
   ·by_cases he:q8J l k=c
    ·exact .inr ⟨hk,this.1 he⟩
    ·exact .inl (by omega)
   ·cases h
 simp only[this]
theorem q8X (w0:List Int) (R:List Nat) (hR:R.length≤1000000) (t3:Bool) (t4:List qa) (t9:Int) (t11:List Int) (t15:Int) (k:Nat) (t43:List (List Int)) (t44 t45:Int) (t113:List Int) (t114 t115:Int) :
  qB (qO w0 (qK R) t3 t4 t9 t11 t15 (k:Int) t43 t44 t45 t113 t114 t115 (((qK R).length:Nat):Int)) (false,(0:Int))=some (R.contains k):=by
 have:=JA (step:=qO w0 (qK R) t3 t4 t9 t11 t15 (k:Int) t43 t44 t45 t113 t114 t115 (((qK R).length:Nat):Int)) (fun i=>((R.take i).contains k,(i:Int))) 0 R.length (qv6 _) (fun i _ hi=>by
  have hri:R[i]?=some R[i]:=quI hi
  have hc:(qK R)[i]?=some ((R[i]:Nat):Int):=by unfold qK;rw[quU,hri];rfl
  have e:(R.take (i+1)).contains k=((R.take i).contains k||(((R[i]:Nat):Int)==(k:Int))):=by
   rw[List.take_add_one,hri,Bool.eq_iff_iff]
   simp only[List.contains_eq_mem,Option.toList_some,qva,qvw,qvb,qvF,beq_iff_eq]
   constructor
   ·rintro(h|h)
    ·exact .inl h
    ·exact .inr (by omega)
   ·rintro(h|h)
    ·exact .inl h
    ·exact .inr (by omega)
  unfold qO
  dsimp only
  rw[zc,if_pos (by omega),if_pos ⟨by omega,by omega⟩,quJ,hc,quG,Qk hi hR,e]
  cases(R.take i).contains k
  ·rw[if_neg (by decide),Bool.false_or]
  ·rw[if_pos rfl,Bool.true_or]) (e:=R.contains k) (by
  unfold qO
  dsimp only
  rw[zc,if_neg (by omega),List.take_length])
 exact this
theorem qas (hl:l.length≤1000) (hf:∀a∈l,zH a) (w0:List Int) (t3:Bool) (t9:Int) (g:List Nat) (hg:∀k∈g,k<l.length) (hgl:g.length≤1000) (t43:List (List Int)) (t44 t45:Int) (x i:Nat):∀(r:List Nat) (k:Nat) (R:List Nat),r.length+k=g.length→g.drop k=r→R.length≤1000+k→R[i]?=some x→x<l.length→
  qB (qM w0 t3 l t9 (qK g) (i:Int) t43 t44 t45 (qK g) (((qK g).length:Nat):Int)) (qK R,(k:Int))=some (qK (nxR (eF l) x r R)):=by
 have hML:100000≤maxLen:=by unfold maxLen;omega
 intro r
 induction r with
 | nil=>
  intro k R hk hd hR hx hxl
  have hk:k=g.length:=by simpa using hk
  refine zf ?_
  unfold qM
  dsimp only
  rw[zc,if_neg (by omega)];rfl
 | cons a r ih=>
  intro k R hk hd hR hx hxl
  simp only[quR] at hk
  have ha:g[k]?=some a:=by have:=congrArg (fun x:List Nat=>x[0]?) hd;simpa [List.getElem?_drop] using this
  have hd1:g.drop (k+1)=r:=by rw[←qvt,hd];rfl
  have hklt:=Q6 ha
  have hal:=hg a (quH ha)
  have hc:(qK g)[k]?=some (a:Int):=by unfold qK;rw[quU,ha];rfl
  have hi:=Q6 hx
  have hRi:(qK R)[i]?=some (x:Int):=by unfold qK;rw[quU,hx];rfl
  have hlx:l[x]?=some l[x]:=quI hxl
  have hla:l[a]?=some l[a]:=quI hal
  have e:qM w0 t3 l t9 (qK g) (i:Int) t43 t44 t45 (qK g) (((qK g).length:Nat):Int) (qK R,(k:Int))=some (.inl (qK (if(!R.contains a&&eF l x a)=true then R++[a] else R),((k+1:Nat):Int))):=by
   unfold qM
   dsimp only
   rw[zc,if_pos (by omega),if_pos ⟨by omega,by omega⟩,quJ,hc,quG,q8X w0 R (by omega),quG,Qk hklt (by omega)]
   cases R.contains a
   ·rw[if_pos (show(!false)=true by decide),zc,if_pos ⟨by omega,by omega⟩,quJ,hRi,quG,if_pos ⟨by omega,by omega⟩,quJ,hlx,quG,if_pos ⟨by omega,by omega⟩,quJ,hla,quG,q2M (hf _ (qvx _)) (hf _ (qvx _)),quG,qdd hlx hla]
    cases Z6 l[x] l[a]
    ·rw[if_pos (show(!false)=true by decide),if_pos ⟨by omega,by omega⟩,if_pos (by decide)]
     unfold qK
     rw[List.map_append];rfl
    ·rw[if_neg (show ¬ (!true)=true by decide),if_neg (by decide)]
   ·rw[if_neg (show ¬ (!true)=true by decide),if_neg (by simp)]
  rw[zW e]
  show qB _ _=some (qK (nxR (eF l) x r (if(!R.contains a&&eF l x a)=true then R++[a] else R)))
  refine ih (k+1) _ (by omega) hd1 ?_ ?_ hxl
  ·split
   ·rw[quN,quY];omega
   ·omega
  ·split
   ·rw[qvj hi];exact hx
   ·exact hx
theorem q9a (hl:l.length≤1000) (hf:∀a∈l,zH a) (w0:List Int) (t3:Bool) (t9:Int) (g:List Nat) (hg:∀k∈g,k<l.length) (hgl:g.length≤1000) (t43:List (List Int)) (t44 t45:Int):∀(f i:Nat) (R:List Nat),R.Nodup→(∀y∈R,y∈g)→g.length≤f+i→
  qB (qw w0 t3 l t9 (qK g) t43 t44 t45) (qK R,(i:Int))=some (qK (bfs (eF l) g f i R)):=by
 have stop:∀(i:Nat) (R:List Nat),¬ i<R.length→qB (qw w0 t3 l t9 (qK g) t43 t44 t45) (qK R,(i:Int))=some (qK R):=fun i R h=>by
  refine zf ?_
  unfold qw
  dsimp only
  rw[zc,if_neg (by omega)]
 intro f
 induction f with
 | zero=>
  intro i R h1 h2 h3
  have:=Jf R g h1 h2
  exact stop i R (by omega)
 | succ f ih=>
  intro i R h1 h2 h3
  unfold bfs
  have hRl:=Jf R g h1 h2
  by_cases hi:i<R.length
  ·rw[if_pos hi]
   have hx:R[i]?=some (R.getD i 0):=by rw[List.getD_eq_getElem?_getD,quI hi];rfl
   obtain⟨a1,⟨t,a2⟩,a3,a4⟩:=q7V (e:=eF l) (x:=R.getD i 0) g R h1
   have e:qw w0 t3 l t9 (qK g) t43 t44 t45 (qK R,(i:Int))=some (.inl (qK (nxR (eF l) (R.getD i 0) g R),((i+1:Nat):Int))):=by
    unfold qw
    dsimp only
    rw[zc,if_pos (by omega)]
    change Option.bind (qB _ (qK R,((0:Nat):Int))) _=_
    rw[qas hl hf w0 t3 t9 g hg hgl t43 t44 t45 (R.getD i 0) i g 0 R (by omega) rfl (by omega) hx (hg _ (h2 _ (quH hx))),quG,Qk hi (by omega)]
   rw[zW e]
   exact ih (i+1) _ a1 (fun y hy=>(a3 y hy).elim (h2 y) id) (by omega)
  ·rw[if_neg hi]
   exact stop i R hi
theorem q8T (hl:l.length≤1000) (hf:∀a∈l,zH a) (t3:Bool) (t43:List (List Int)) (ht:t43=(q77 l.length (lwF l)).map qK):∀(j c:Nat) (w:List Int) (last:Int),j+c=t43.length→qgf l c [] w→(∀i r,c≤i→(rts l.length (lwF l))[i]?=some r→last<(r:Int))→
  ∃w',qB (qP t3 l t43 ((t43.length:Nat):Int)) (w,last,(c:Int))=some (.inr w')∧qgf l t43.length [] w':=by
 have hlen:t43.length=(rts l.length (lwF l)).length:=by rw[ht,qvo];unfold q77 rts;rw[qvo]
 have hrl:(rts l.length (lwF l)).length≤l.length:=by unfold rts;exact qvh (List.length_filter_le _ _) (by rw[List.length_range];exact quW _)
 intro j
 induction j with
 | zero=>
  intro c w last hc hw hlast
  have hc:c=t43.length:=by omega
  refine⟨w,zf ?_,by rw[←hc];exact hw⟩
  unfold qP
  dsimp only
  rw[if_neg (by omega)]
 | succ j ih=>
  intro c w last hc hw hlast
  obtain⟨r,hr⟩:∃r,(rts l.length (lwF l))[c]?=some r:=⟨_,quI (by omega)⟩
  obtain⟨hrn,hrr,hrc⟩:=q5L hr
  have hrr:=of_decide_eq_true hrr
  have hgc:t43[c]?=some (qK (q4a l r)):=by
   rw[ht,quU]
   unfold q77 q4a
   rw[quU,show((List.range l.length).filter fun k=>decide (lwF l k=k))[c]?=some r from hr];rfl
  have hhead:=qez hrn hrr
  have hh:(qK (q4a l r))[0]?=some (r:Int):=by unfold qK;rw[quU,hhead];rfl
  have h0:=Q6 hhead
  obtain⟨w',q1,q2⟩:=qar hl hr t3 (r:Int) t43 ((t43.length:Nat):Int) (c:Int) w hw
  have hgb:∀k∈q4a l r,k<l.length:=fun k hk=>(q0V.1 hk).1
  have hgl:=qgm (l:=l) r
  have hreach:=q9a hl hf w' t3 (r:Int) (q4a l r) hgb (by omega) t43 ((t43.length:Nat):Int) (c:Int) (q4a l r).length 0 [r] (by simp) (fun y hy=>by rw[qvw.1 hy];exact quH hhead) (by omega)
  have hbl:=qi2 (e:=eF l) (g:=q4a l r) (r:=r) (qcs r) (quH hhead) (fun k hk=>by
   obtain⟨k1,k2⟩:=q0V.1 hk
   have:=(q35 l k1).1
   rw[k2] at this
   exact this.symm fun i j h=>q3c h) (fun x hx k he=>by
   obtain⟨x1,x2⟩:=q0V.1 hx
   exact q0V.2 ⟨(q99 he).2,by rw[←q4q l he];exact x2⟩) (quW _)
  have hlt:=hlast c r (quW _) hr
  obtain⟨w'',p1,p2⟩:=ih (c+1) w' (r:Int) (by omega) q2 (fun i r' hi hr'=>by
   obtain⟨-,-,hc'⟩:=q5L hr'
   by_cases hle:r'≤r
   ·have:=qeV (fun k=>decide (lwF l k=k)) hle
    omega
   ·omega)
  refine⟨w'',?_,p2⟩
  have e:qP t3 l t43 ((t43.length:Nat):Int) (w,last,(c:Int))=some (.inl (w',(r:Int),((c+1:Nat):Int))):=by
   unfold qP
   dsimp only
   rw[if_pos (by omega),if_pos ⟨by omega,by omega⟩,quJ,hgc,quG]
   rw[if_neg (by rw[zc];simp;intro h;rw[h] at h0;simp at h0),if_pos (by rw[zc];omega),hh,quG,if_neg (by omega),if_pos (by rw[zc];omega),quG,q1,quG,Sum.elim_inr,if_pos (by rw[zc];omega),quG]
   change Option.bind (qB _ (qK [r],((0:Nat):Int))) _=_
   rw[hreach,quG,zc,zc,hbl,if_neg (by simp),Qk (n:=t43.length) (by omega) (by omega)]
  rw[zW e]
  exact p1
theorem q9M (hl:l.length≤1000) (hf:∀a∈l,zH a) (t3:Bool) (w:List Int) (c:Nat) (hw:qgf l c [] w) (hc:∀k,k<l.length→q8J l k<c):qB (qN w t3 l ((l.length:Nat):Int)) (0:Int)=some (.inr ()):=by
 have hwg:∀k,k<l.length→w[k]?=some ((q8J l k:Nat):Int):=fun k hk=>by rw[hw.get k hk,if_pos (.inl (hc k hk))]
 have hwl:=hw.len
 have inner:∀k,k<l.length→∀t161,qB (qQ w t3 l (k:Int) t161 (k:Int) ((l.length:Nat):Int)) (0:Int)=some (.inr ()):=fun k hk t161=>by
  have h:=q5d (step:=qQ w t3 l (k:Int) t161 (k:Int) ((l.length:Nat):Int)) l (fun _=>true) (Sum.inl ()) (Sum.inr ()) (fun i a ha=>by
   have hi:=Q6 ha
   have hb:l[k]?=some l[k]:=quI hk
   unfold qQ
   rw[if_pos (by omega),if_pos ⟨by omega,by omega⟩,quJ,hwg k hk,quG,if_neg (by omega),if_pos ⟨by omega,by omega⟩,quJ,hwg i hi,quG,if_pos ⟨by omega,by omega⟩,quG,Qk hi (by omega)]
   by_cases he:q8J l i=q8J l k
   ·rw[if_neg (by rw[he];simp)];rfl
   ·rw[if_pos (by rw[bne_iff_ne];omega),if_pos ⟨by omega,by omega⟩,ha,quG,if_pos ⟨by omega,by omega⟩,hb,quG,q2M (hf a (quH ha)) (hf _ (qvx _)),quG]
    have:Z6 a l[k]=true:=by
     cases hq:Z6 a l[k]
     ·refine absurd ?_ he
      have:=q4q l (show eF l i k=true by rw[qdd ha hb,hq];rfl)
      unfold q8J;rw[this]
     ·rfl
    rw[this,if_neg (by decide)];rfl) (by
   unfold qQ
   rw[if_neg (by omega)])
  rw[h,if_pos (by simp)]
 have h:=q5d (step:=qN w t3 l ((l.length:Nat):Int)) l (fun _=>true) (Sum.inl ()) (Sum.inr ()) (fun k a ha=>by
  have hk:=Q6 ha
  unfold qN
  rw[if_pos (by omega),inner k hk,quG,Qk hk (by omega)];rfl) (by
  unfold qN
  rw[if_neg (by omega)])
 rw[h,if_pos (by simp)]
end
theorem q2E (c:Qj) (hq:∀q∈c.Has,q.length≤9223372036854775807) (ht:c.Has.length≤9223372036854775807) (hp:c.Programme.length≤9223372036854775807):Q1 c=some true:=by
 obtain⟨l,p,d,e,l8,hs⟩:=qbX c hq ht hp
 have hf:∀a∈l,zH a:=fun a ha=>(hs a ha).fit (by omega)
 obtain⟨w',q1,q2⟩:=q8T (l:=l) (by omega) hf true ((q77 l.length (lwF l)).map qK) rfl ((q77 l.length (lwF l)).map qK).length 0 (List.replicate l.length (-1)) (-1) (by omega) ⟨qvn,fun k hk=>by rw[List.getElem?_replicate,if_pos hk,if_neg (by simp)]⟩ (fun i r _ _=>by omega)
 have hfin:=q9M (l:=l) (by omega) hf true w' _ q2 (fun k hk=>by
  have:=Q6 (qgq hk)
  rw[qvo]
  unfold q77
  rw[qvo]
  exact this)
 unfold Q1
 rw[q6Q,quG,e,quG]
 dsimp only
 rw[if_pos ⟨by omega,by omega,by omega⟩,qe7 true l l.length (by omega),quG,q6l l (by omega) hf,quG]
 change Option.bind (qB _ (List.replicate l.length (-1:Int),(-1:Int),((0:Nat):Int))) _=_
 rw[q1,quG,Sum.elim_inr,hfin];rfl
end
noncomputable section
open Go.RowKit
set_option maxRecDepth 100000
theorem q1s {α:Type} (ds:List α) (o s:Nat):ds.drop o=(ds.drop o).take s++ds.drop (o+s):=by
 rw[←qvt];exact(qvu s _).symm
theorem q7c {X:Type} {E:X→List D} {W:X→Prop} {sz:Nat} (hz:0<sz):∀(m:Nat) (es:List D),es.length=m*sz→(∀i,i<m→∃x,(es.drop (i*sz)).take sz=E x∧W x)→∃l:List X,es=l.flatMap E∧l.length=m∧∀x∈l,W x
 | 0,es,hl,_=>⟨[],by rw[Nat.zero_mul] at hl;exact quZ hl,rfl,by simp⟩
 | m+1,es,hl,h=>by
  obtain⟨x,hx,wx⟩:=h 0 (by omega)
  obtain⟨l,g1,g2,g3⟩:=q7c hz m (es.drop sz) (by rw[qvs,hl,Nat.add_mul];omega) fun i hi=>by
   obtain⟨y,hy,wy⟩:=h (i+1) (by omega)
   refine⟨y,?_,wy⟩
   rw[qvt,show sz+i*sz=(i+1)*sz by rw[Nat.add_mul,Nat.one_mul,Nat.add_comm]];exact hy
  refine⟨x::l,?_,by simp[g2],fun y hy=>?_⟩
  ·rw[Nat.zero_mul,List.drop_zero] at hx
   rw[qvJ,←g1,←hx,qvu]
  ·rcases qv2.1 hy with rfl|hy
   ·exact wx
   ·exact g3 y hy
abbrev qp8:List TypeId:=[28,22,25,3,24,23,26,5,30]
theorem ql2:qs5 Try.prog qp8=true:=by kernel_rfl
theorem ty3:∀(n:Nat) (ds:List D),QR Try.prog n 3 ds→∃v:Int,ds=[D.int .i64 v]∧(Lit.int .i64 v).wf=true:=by
 intro n ds h
 cases n with
 | zero=>exact h.elim
 | succ n=>
  unfold QR at h
  rw[Try.underlying3] at h
  obtain⟨z,h1,h2⟩:=h
  exact⟨z,h1,h2⟩
theorem cz3:Try.prog.cellsOf 3=1:=by kernel_rfl
theorem qrP:∀(n:Nat) (ds:List D),QR Try.prog n 25 ds→∃v:List Int,ds=[D.sl 1 v.length (v.flatMap eI)]∧(v.length≤maxLen∧∀y∈v,(Lit.int .i64 y).wf=true):=by
 intro n ds h
 cases n with
 | zero=>exact h.elim
 | succ n=>
  unfold QR at h
  rw[Try.underlying25] at h
  obtain⟨m,es,h1,h2,h3,h4⟩:=h
  rw[cz3] at h1 h3 h4
  obtain⟨l,g1,g2,g3⟩:=q7c (E:=eI) (W:=fun y=>(Lit.int .i64 y).wf=true) (sz:=1) (by decide) m es h3 fun i hi=>by
   obtain⟨v,q1,q2⟩:=ty3 n _ (h4 i hi)
   exact⟨v,q1.trans (rfl),q2⟩
  refine⟨l,?_,by omega,g3⟩
  rw[h1,g1,g2]
theorem qrd:Try.prog.cellsOf 25=1:=by kernel_rfl
theorem qtg:∀(n:Nat) (ds:List D),QR Try.prog n 22 ds→∃v:List (List Int),ds=[D.sl 1 v.length (v.flatMap (eL 1 eI))]∧(v.length≤maxLen∧∀y∈v,(y.length≤maxLen∧∀yy∈y,(Lit.int .i64 yy).wf=true)):=by
 intro n ds h
 cases n with
 | zero=>exact h.elim
 | succ n=>
  unfold QR at h
  rw[Try.underlying22] at h
  obtain⟨m,es,h1,h2,h3,h4⟩:=h
  rw[qrd] at h1 h3 h4
  obtain⟨l,g1,g2,g3⟩:=q7c (E:=(eL 1 eI)) (W:=fun y=>(y.length≤maxLen∧∀yy∈y,(Lit.int .i64 yy).wf=true)) (sz:=1) (by decide) m es h3 fun i hi=>by
   obtain⟨v,q1,q2⟩:=qrP n _ (h4 i hi)
   exact⟨v,q1.trans (rfl),q2⟩
  refine⟨l,?_,by omega,g3⟩
  rw[h1,g1,g2]
theorem qlC:Try.prog.cellsOf 23=3:=by kernel_rfl
theorem qrT:∀(n:Nat) (ds:List D),QR Try.prog n 23 ds→∃v:qg0 Int,ds=[D.int .i64 v.a0,D.int .i64 v.a1,D.int .i64 v.a2]∧((Lit.int .i64 v.a0).wf=true∧(Lit.int .i64 v.a1).wf=true∧(Lit.int .i64 v.a2).wf=true):=by
 intro n ds h
 cases n with
 | zero=>exact h.elim
 | succ n=>
  unfold QR at h
  rw[Try.underlying23] at h
  obtain⟨hl,hf⟩:=h
  rw[qlC] at hl
  have h0:QR Try.prog n 3 ((ds.drop 0).take (Try.prog.cellsOf 3)):=by
   have:=hf 0 (by decide)
   rwa [cz3] at this ⊢
  rw[cz3] at h0
  obtain⟨v0,e0,w0⟩:=ty3 _ _ h0
  have c0:=q1s ds 0 1
  rw[e0] at c0
  have h1:QR Try.prog n 3 ((ds.drop 1).take (Try.prog.cellsOf 3)):=by
   have:=hf 1 (by decide)
   rwa [cz3] at this ⊢
  rw[cz3] at h1
  obtain⟨v1,e1,w1⟩:=ty3 _ _ h1
  have c1:=q1s ds 1 1
  rw[e1] at c1
  have h2:QR Try.prog n 3 ((ds.drop 2).take (Try.prog.cellsOf 3)):=by
   have:=hf 2 (by decide)
   rwa [cz3] at this ⊢
  rw[cz3] at h2
  obtain⟨v2,e2,w2⟩:=ty3 _ _ h2
  have c2:=q1s ds 2 1
  rw[e2] at c2
  have cl:ds.drop 3=[]:=qvm (by omega)
  refine⟨⟨v0,v1,v2⟩,?_,⟨w0,w1,w2⟩⟩
  have c:ds.drop 0=_:=c0
  simp only[Nat.reduceAdd] at c0 c1 c2 c
  rw[c1,c2,cl] at c
  exact c
theorem qr6:Try.prog.cellsOf 24=6:=by kernel_rfl
theorem qsX:∀(n:Nat) (ds:List D),QR Try.prog n 24 ds→∃v:QM (qg0 Int),ds=[D.int .i64 v.a0.a0,D.int .i64 v.a0.a1,D.int .i64 v.a0.a2,D.int .i64 v.a1.a0,D.int .i64 v.a1.a1,D.int .i64 v.a1.a2]∧(((Lit.int .i64 v.a0.a0).wf=true∧(Lit.int .i64 v.a0.a1).wf=true∧(Lit.int .i64 v.a0.a2).wf=true)∧((Lit.int .i64 v.a1.a0).wf=true∧(Lit.int .i64 v.a1.a1).wf=true∧(Lit.int .i64 v.a1.a2).wf=true)):=by
 intro n ds h
 cases n with
 | zero=>exact h.elim
 | succ n=>
  unfold QR at h
  rw[Try.underlying24] at h
  obtain⟨hl,hf⟩:=h
  rw[qr6] at hl
  have h0:QR Try.prog n 23 ((ds.drop 0).take (Try.prog.cellsOf 23)):=by
   have:=hf 0 (by decide)
   rwa [qlC] at this ⊢
  rw[qlC] at h0
  obtain⟨v0,e0,w0⟩:=qrT _ _ h0
  have c0:=q1s ds 0 3
  rw[e0] at c0
  have h1:QR Try.prog n 23 ((ds.drop 3).take (Try.prog.cellsOf 23)):=by
   have:=hf 1 (by decide)
   rwa [qlC] at this ⊢
  rw[qlC] at h1
  obtain⟨v1,e1,w1⟩:=qrT _ _ h1
  have c1:=q1s ds 3 3
  rw[e1] at c1
  have cl:ds.drop 6=[]:=qvm (by omega)
  refine⟨⟨v0,v1⟩,?_,⟨w0,w1⟩⟩
  have c:ds.drop 0=_:=c0
  simp only[Nat.reduceAdd] at c0 c1 c
  rw[c1,cl] at c
  exact c
theorem qtV:∀(n:Nat) (ds:List D),QR Try.prog n 26 ds→∃v:Int,ds=[D.int .u16 v]∧(Lit.int .u16 v).wf=true:=by
 intro n ds h
 cases n with
 | zero=>exact h.elim
 | succ n=>
  unfold QR at h
  rw[Try.underlying26] at h
  obtain⟨z,h1,h2⟩:=h
  exact⟨z,h1,h2⟩
theorem quc:Try.prog.cellsOf 22=1:=by kernel_rfl
theorem qtE:Try.prog.cellsOf 26=1:=by kernel_rfl
theorem qth:Try.prog.cellsOf 28=9:=by kernel_rfl
def q06 (x:Qj):Prop:=(x.Has.length≤maxLen∧∀y∈x.Has,(y.length≤maxLen∧∀yy∈y,(Lit.int .i64 yy).wf=true))∧(((Lit.int .i64 x.Odd.a0.a0).wf=true∧(Lit.int .i64 x.Odd.a0.a1).wf=true∧(Lit.int .i64 x.Odd.a0.a2).wf=true)∧((Lit.int .i64 x.Odd.a1.a0).wf=true∧(Lit.int .i64 x.Odd.a1.a1).wf=true∧(Lit.int .i64 x.Odd.a1.a2).wf=true))∧(x.Programme.length≤maxLen∧∀y∈x.Programme,(Lit.int .i64 y).wf=true)∧(Lit.int .u16 x.Day).wf=true
theorem ty28:∀(n:Nat) (ds:List D),QR Try.prog n 28 ds→∃v:Qj,ds=[D.sl 1 v.Has.length (v.Has.flatMap (eL 1 eI)),D.int .i64 v.Odd.a0.a0,D.int .i64 v.Odd.a0.a1,D.int .i64 v.Odd.a0.a2,D.int .i64 v.Odd.a1.a0,D.int .i64 v.Odd.a1.a1,D.int .i64 v.Odd.a1.a2,D.sl 1 v.Programme.length (v.Programme.flatMap eI),D.int .u16 v.Day]∧q06 v:=by
 intro n ds h
 cases n with
 | zero=>exact h.elim
 | succ n=>
  unfold QR at h
  rw[Try.underlying28] at h
  obtain⟨hl,hf⟩:=h
  rw[qth] at hl
  have h0:QR Try.prog n 22 ((ds.drop 0).take (Try.prog.cellsOf 22)):=hf _ (quH (i:=0) rfl)
  rw[quc] at h0
  obtain⟨v0,e0,w0⟩:=qtg _ _ h0
  have c0:=q1s ds 0 1
  rw[e0] at c0
  have h1:QR Try.prog n 24 ((ds.drop 1).take (Try.prog.cellsOf 24)):=hf _ (quH (i:=1) rfl)
  rw[qr6] at h1
  obtain⟨v1,e1,w1⟩:=qsX _ _ h1
  have c1:=q1s ds 1 6
  rw[e1] at c1
  have h2:QR Try.prog n 25 ((ds.drop 7).take (Try.prog.cellsOf 25)):=hf _ (quH (i:=2) rfl)
  rw[qrd] at h2
  obtain⟨v2,e2,w2⟩:=qrP _ _ h2
  have c2:=q1s ds 7 1
  rw[e2] at c2
  have h3:QR Try.prog n 26 ((ds.drop 8).take (Try.prog.cellsOf 26)):=hf _ (quH (i:=3) rfl)
  rw[qtE] at h3
  obtain⟨v3,e3,w3⟩:=qtV _ _ h3
  have c3:=q1s ds 8 1
  rw[e3] at c3
  have cl:ds.drop 9=[]:=qvm (by omega)
  refine⟨⟨v0,v1,v2,v3⟩,?_,⟨w0,w1,w2,w3⟩⟩
  have c:ds.drop 0=_:=c0
  simp only[Nat.reduceAdd] at c0 c1 c2 c3 c
  rw[c1,c2,c3,cl] at c
  exact c
end
noncomputable section
open Go.RowKit
theorem qky {c:Qj} (w:q06 c):(∀q∈c.Has,q.length≤9223372036854775807)∧c.Has.length≤9223372036854775807∧c.Programme.length≤9223372036854775807:=by
 have hm:maxLen≤9223372036854775807:=by unfold maxLen;omega
 obtain⟨⟨h1,h2⟩,-,⟨h3,-⟩,-⟩:=w
 exact⟨fun q hq=>qvh (h2 q hq).1 hm,qvh h1 hm,qvh h3 hm⟩
end
noncomputable section
theorem q4j (c:Qj) (w:q06 c):Q1 c=some true:=by
 obtain⟨h1,h2,h3⟩:=qky w
 exact q2E c h1 h2 h3
end
end Go.Proofs.Ytofbcijbpfjliaa.Vc
namespace Go.Proofs.Ytofbcijbpfjliaa
open Go.Proofs.Ytofbcijbpfjliaa.Vc (quO quP quS quV qv1)
open Go.ChangeShapes Go.WideShapes Go.ChangeAt Go.RowKit Go.ChangeMaps
theorem own:ownKnob Try.prog.godebug=none:=by kernel_rfl
theorem qht:laidOutB Try.prog=true:=by kernel_rfl
section
variable {H:Type} {enc:TypeId×Value→H} {P:Program} {W W':World}
theorem q5v (hl:laidOutB P=true) (hb:Below W.heap.size W W'):∀{ts:List TypeId} {vs:List Value} {ds:List (DataW H)} {ps:List MemPlace},(∀t∈ts,P.readableRec t=true∧t<P.types.size)→
  DataW.TrodAll enc P W 0 (fun _=>true) true ts vs ds ps→(∀p∈ps,p.block<W.heap.size)→DataW.TrodAll enc P W' 0 (fun b=>decide (b<W.heap.size)) true ts vs ds ps
 | [],_,_,_,_,h,_=>by
  obtain⟨rfl,rfl,rfl⟩:=trodAll_nil h
  exact trodAll_mk0
 | t::ts,_,_,_,ht,h,hlt=>by
  obtain⟨v,vs,d,ds,p,q,rfl,rfl,rfl,h1,h2⟩:=trodAll_cons h
  exact trodAll_cons_mk (Below.trod hl (ht t quV).1 (ht t quV).2 h1 hb (fun x hx=>hlt x (quS _ hx)))
   (q5v hl hb (fun u hu=>ht u (quO _ hu)) h2 (fun x hx=>hlt x (quP _ hx)))
theorem qeG {f:Func} {s:ChangeSpec} {apart fresh handsOn:Bool} {args:Array Value} {ds gs:List (DataW H)} {before:List MemPlace} {tb:TypeId} (hl:laidOutB P=true)
  (hts:∀t∈f.params.toList,P.readableRec t=true∧t<P.types.size) (hr:f.resultTypes=#[tb]) (htb:P.underlying tb=some .bool) (hv:s.vars=[])
  (h1:(s.fn H (ds++gs)).results=[.lit (.bool true)]) (h2:(s.fn H (ds++gs)).args=ds) (h3:(s.fn H (ds++gs)).vars=[])
  (hW:DataW.Whole enc P f.params.toList s.vars apart W args.toList ds gs before) (hb:Below W.heap.size W W') :
  s.post enc P f apart fresh handsOn false W args (.bool true) W':=by
 have hlt:∀p∈before,p.block<W.heap.size:=fun p hp=>hW.lt p hp
 have hW2:=hW
 obtain⟨pa,pv,hA,hV,hp,-,-⟩:=hW2
 rw[hv] at hV
 obtain⟨rfl,rfl⟩:=trodVars_none hV
 rw[qv1] at hp
 subst hp
 refine⟨ds,[],before,[],before,[],hW,?_,?_,?_,?_,fun h=>by cases h⟩
 ·rw[h1,hr]
  exact trodAll_mk1 (shut_bool htb true)
 ·rw[h2]
  exact q5v hl hb hts hA hlt
 ·rw[h3,hv]
  exact hV
 ·exact World.keptBut_mono (fun p hp=>⟨hp,.inr (.inl hp)⟩) (hb.frame (·∈before))
end
end Go.Proofs.Ytofbcijbpfjliaa
namespace Go.Proofs.Ytofbcijbpfjliaa.Vc
end Go.Proofs.Ytofbcijbpfjliaa.Vc
