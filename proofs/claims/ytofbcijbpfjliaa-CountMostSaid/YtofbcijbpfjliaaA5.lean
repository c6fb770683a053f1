/- Part 5 of a proof. -/
import Derived.Test.YtofbcijbpfjliaaA4
import Derived.Test.YtofbcijbpfjliaaRows
import Derived.ChangeSlices
import Derived.OpenShut
import Derived.Carry
import Derived.ChangeSame
import Derived.ChangeMaps5
import Derived.WideShapes
import Derived.ProofKit
import Derived.Deep.DeepHandedRow
import Derived.Lib.LaidTab
import Derived.Stop.LaidErr
set_option linter.unusedVariables false
set_option linter.unusedSimpArgs false
set_option linter.defProp false
set_option linter.unusedSectionVars false
set_option linter.unnecessarySimpa false
namespace Go.Proofs.Ytofbcijbpfjliaa.Vc
noncomputable section
open Go.RowKit
set_option maxRecDepth 20000
set_option maxHeartbeats 8000000
def qk (b0_0:qa) (b0_1:qa) (b0_2:qa) (s:qe):(List qa×Int)→Option ((List qa×Int)⊕(List qa))|(left,k)=>if 0≤k then Option.bind (Q7 left s k) fun(a:Bool)=>if a=Bool.true then Option.bind (qm k (w64 (k+1)) left) fun(a2:List qa)=>some (Sum.inl (a2,w64 (((a2.length:Nat):Int)-1))) else some (Sum.inl (left,w64 (k-1))) else some (Sum.inr left)
theorem qS:∀(left:List qa) (b0_0_Course_School:Int) (b0_0_Course_Code:ByteArray) (b0_0_Credits b0_0_Grade b0_0_Day:Int) (b0_0_Sources:List Int) (b0_0_Bundle:Int) (b0_0_Path:List Int) (b0_1_Course_School:Int) (b0_1_Course_Code:ByteArray) (b0_1_Credits b0_1_Grade b0_1_Day:Int) (b0_1_Sources:List Int) (b0_1_Bundle:Int) (b0_1_Path:List Int) (b0_2_Course_School:Int) (b0_2_Course_Code:ByteArray) (b0_2_Credits b0_2_Grade b0_2_Day:Int) (b0_2_Sources:List Int) (b0_2_Bundle:Int) (b0_2_Path:List Int) (s_Worst s_Best s_Pass k:Int) (left_len:Nat),left_len=left.length→XL2 evo 11 1 9 ⟨[(6,rP 1),(10,rO 2 8 left_len),(13,rI k)],[(0,B.blk 52 [dI b0_0_Course_School,dS b0_0_Course_Code,dI b0_0_Credits,dI b0_0_Grade,dI b0_0_Day,dL 1 eI b0_0_Sources,dI b0_0_Bundle,dL 1 eI b0_0_Path,dI b0_1_Course_School,dS b0_1_Course_Code,dI b0_1_Credits,dI b0_1_Grade,dI b0_1_Day,dL 1 eI b0_1_Sources,dI b0_1_Bundle,dL 1 eI b0_1_Path,dI b0_2_Course_School,dS b0_2_Course_Code,dI b0_2_Credits,dI b0_2_Grade,dI b0_2_Day,dL 1 eI b0_2_Sources,dI b0_2_Bundle,dL 1 eI b0_2_Path]),(1,B.blk 30 [dI s_Worst,dI s_Best,dI s_Pass]),(2,bR 52 8 qc left)],3,53⟩=(qx (qk (qa.mk (qb.mk b0_0_Course_School b0_0_Course_Code) b0_0_Credits b0_0_Grade b0_0_Day b0_0_Sources b0_0_Bundle b0_0_Path) (qa.mk (qb.mk b0_1_Course_School b0_1_Course_Code) b0_1_Credits b0_1_Grade b0_1_Day b0_1_Sources b0_1_Bundle b0_1_Path) (qa.mk (qb.mk b0_2_Course_School b0_2_Course_Code) b0_2_Credits b0_2_Grade b0_2_Day b0_2_Sources b0_2_Bundle b0_2_Path) (qe.mk s_Worst s_Best s_Pass)) (left,k)).bind (fun(e:List qa)=>some (Exit.exit 2,⟨[(10,rO 1 8 e.length)],[(0,B.blk 52 [dI b0_0_Course_School,dS b0_0_Course_Code,dI b0_0_Credits,dI b0_0_Grade,dI b0_0_Day,dL 1 eI b0_0_Sources,dI b0_0_Bundle,dL 1 eI b0_0_Path,dI b0_1_Course_School,dS b0_1_Course_Code,dI b0_1_Credits,dI b0_1_Grade,dI b0_1_Day,dL 1 eI b0_1_Sources,dI b0_1_Bundle,dL 1 eI b0_1_Path,dI b0_2_Course_School,dS b0_2_Course_Code,dI b0_2_Credits,dI b0_2_Grade,dI b0_2_Day,dL 1 eI b0_2_Sources,dI b0_2_Bundle,dL 1 eI b0_2_Path]),(1,bR 52 8 qc e)],2,53⟩)):=
 by
 intro left b0_0_Course_School b0_0_Course_Code b0_0_Credits b0_0_Grade b0_0_Day b0_0_Sources b0_0_Bundle b0_0_Path b0_1_Course_School b0_1_Course_Code b0_1_Credits b0_1_Grade b0_1_Day b0_1_Sources b0_1_Bundle b0_1_Path b0_2_Course_School b0_2_Course_Code b0_2_Credits b0_2_Grade b0_2_Day b0_2_Sources b0_2_Bundle b0_2_Path s_Worst s_Best s_Pass k left_len h0
 subst h0
 revert k;revert left;exact q6H qh1 qh6 (fun e=>by exact⟨_,rfl,fun h=>by cases h⟩) fun left k=>by
  have:=qpR;have:=@q8o.eq_1;have:=@J4;have:=@qV;have:=@qk.eq_1;exact gA
theorem Jf:∀  (b0_0_Course_School:Int) (b0_0_Course_Code:ByteArray) (b0_0_Credits b0_0_Grade b0_0_Day:Int) (b0_0_Sources:List Int) (b0_0_Bundle:Int) (b0_0_Path:List Int) (b0_1_Course_School:Int) (b0_1_Course_Code:ByteArray) (b0_1_Credits b0_1_Grade b0_1_Day:Int) (b0_1_Sources:List Int) (b0_1_Bundle:Int) (b0_1_Path:List Int) (b0_2_Course_School:Int) (b0_2_Course_Code:ByteArray) (b0_2_Credits b0_2_Grade b0_2_Day:Int) (b0_2_Sources:List Int) (b0_2_Bundle:Int) (b0_2_Path:List Int) (s_Worst s_Best s_Pass k:Int),XL2 evo 11 1 9 ⟨[(6,rP 1),(10,rO 2 8 0),(13,rI k)],[(0,B.blk 52 [dI b0_0_Course_School,dS b0_0_Course_Code,dI b0_0_Credits,dI b0_0_Grade,dI b0_0_Day,dL 1 eI b0_0_Sources,dI b0_0_Bundle,dL 1 eI b0_0_Path,dI b0_1_Course_School,dS b0_1_Course_Code,dI b0_1_Credits,dI b0_1_Grade,dI b0_1_Day,dL 1 eI b0_1_Sources,dI b0_1_Bundle,dL 1 eI b0_1_Path,dI b0_2_Course_School,dS b0_2_Course_Code,dI b0_2_Credits,dI b0_2_Grade,dI b0_2_Day,dL 1 eI b0_2_Sources,dI b0_2_Bundle,dL 1 eI b0_2_Path]),(1,B.blk 30 [dI s_Worst,dI s_Best,dI s_Pass]),(2,B.row 52 8 [])],3,53⟩=(qx (qk (qa.mk (qb.mk b0_0_Course_School b0_0_Course_Code) b0_0_Credits b0_0_Grade b0_0_Day b0_0_Sources b0_0_Bundle b0_0_Path) (qa.mk (qb.mk b0_1_Course_School b0_1_Course_Code) b0_1_Credits b0_1_Grade b0_1_Day b0_1_Sources b0_1_Bundle b0_1_Path) (qa.mk (qb.mk b0_2_Course_School b0_2_Course_Code) b0_2_Credits b0_2_Grade b0_2_Day b0_2_Sources b0_2_Bundle b0_2_Path) (qe.mk s_Worst s_Best s_Pass)) ([],k)).bind (fun(e:List qa)=>some (Exit.exit 2,⟨[(10,rO 1 8 e.length)],[(0,B.blk 52 [dI b0_0_Course_School,dS b0_0_Course_Code,dI b0_0_Credits,dI b0_0_Grade,dI b0_0_Day,dL 1 eI b0_0_Sources,dI b0_0_Bundle,dL 1 eI b0_0_Path,dI b0_1_Course_School,dS b0_1_Course_Code,dI b0_1_Credits,dI b0_1_Grade,dI b0_1_Day,dL 1 eI b0_1_Sources,dI b0_1_Bundle,dL 1 eI b0_1_Path,dI b0_2_Course_School,dS b0_2_Course_Code,dI b0_2_Credits,dI b0_2_Grade,dI b0_2_Day,dL 1 eI b0_2_Sources,dI b0_2_Bundle,dL 1 eI b0_2_Path]),(1,bR 52 8 qc e)],2,53⟩)):=by
 intro b0_0_Course_School b0_0_Course_Code b0_0_Credits b0_0_Grade b0_0_Day b0_0_Sources b0_0_Bundle b0_0_Path b0_1_Course_School b0_1_Course_Code b0_1_Credits b0_1_Grade b0_1_Day b0_1_Sources b0_1_Bundle b0_1_Path b0_2_Course_School b0_2_Course_Code b0_2_Credits b0_2_Grade b0_2_Day b0_2_Sources b0_2_Bundle b0_2_Path s_Worst s_Best s_Pass k;have h:=qS [] ((qa.mk (qb.mk b0_0_Course_School b0_0_Course_Code) b0_0_Credits b0_0_Grade b0_0_Day b0_0_Sources b0_0_Bundle b0_0_Path)).Course.School ((qa.mk (qb.mk b0_0_Course_School b0_0_Course_Code) b0_0_Credits b0_0_Grade b0_0_Day b0_0_Sources b0_0_Bundle b0_0_Path)).Course.Code ((qa.mk (qb.mk b0_0_Course_School b0_0_Course_Code) b0_0_Credits b0_0_Grade b0_0_Day b0_0_Sources b0_0_Bundle b0_0_Path)).Credits ((qa.mk (qb.mk b0_0_Course_School b0_0_Course_Code) b0_0_Credits b0_0_Grade b0_0_Day b0_0_Sources b0_0_Bundle b0_0_Path)).Grade ((qa.mk (qb.mk b0_0_Course_School b0_0_Course_Code) b0_0_Credits b0_0_Grade b0_0_Day b0_0_Sources b0_0_Bundle b0_0_Path)).Day ((qa.mk (qb.mk b0_0_Course_School b0_0_Course_Code) b0_0_Credits b0_0_Grade b0_0_Day b0_0_Sources b0_0_Bundle b0_0_Path)).Sources ((qa.mk (qb.mk b0_0_Course_School b0_0_Course_Code) b0_0_Credits b0_0_Grade b0_0_Day b0_0_Sources b0_0_Bundle b0_0_Path)).Bundle ((qa.mk (qb.mk b0_0_Course_School b0_0_Course_Code) b0_0_Credits b0_0_Grade b0_0_Day b0_0_Sources b0_0_Bundle b0_0_Path)).Path ((qa.mk (qb.mk b0_1_Course_School b0_1_Course_Code) b0_1_Credits b0_1_Grade b0_1_Day b0_1_Sources b0_1_Bundle b0_1_Path)).Course.School ((qa.mk (qb.mk b0_1_Course_School b0_1_Course_Code) b0_1_Credits b0_1_Grade b0_1_Day b0_1_Sources b0_1_Bundle b0_1_Path)).Course.Code ((qa.mk (qb.mk b0_1_Course_School b0_1_Course_Code) b0_1_Credits b0_1_Grade b0_1_Day b0_1_Sources b0_1_Bundle b0_1_Path)).Credits ((qa.mk (qb.mk b0_1_Course_School b0_1_Course_Code) b0_1_Credits b0_1_Grade b0_1_Day b0_1_Sources b0_1_Bundle b0_1_Path)).Grade ((qa.mk (qb.mk b0_1_Course_School b0_1_Course_Code) b0_1_Credits b0_1_Grade b0_1_Day b0_1_Sources b0_1_Bundle b0_1_Path)).Day ((qa.mk (qb.mk b0_1_Course_School b0_1_Course_Code) b0_1_Credits b0_1_Grade b0_1_Day b0_1_Sources b0_1_Bundle b0_1_Path)).Sources ((qa.mk (qb.mk b0_1_Course_School b0_1_Course_Code) b0_1_Credits b0_1_Grade b0_1_Day b0_1_Sources b0_1_Bundle b0_1_Path)).Bundle ((qa.mk (qb.mk b0_1_Course_School b0_1_Course_Code) b0_1_Credits b0_1_Grade b0_1_Day b0_1_Sources b0_1_Bundle b0_1_Path)).Path ((qa.mk (qb.mk b0_2_Course_School b0_2_Course_Code) b0_2_Credits b0_2_Grade b0_2_Day b0_2_Sources b0_2_Bundle b0_2_Path)).Course.School ((qa.mk (qb.mk b0_2_Course_School b0_2_Course_Code) b0_2_Credits b0_2_Grade b0_2_Day b0_2_Sources b0_2_Bundle b0_2_Path)).Course.Code ((qa.mk (qb.mk b0_2_Course_School b0_2_Course_Code) b0_2_Credits b0_2_Grade b0_2_Day b0_2_Sources b0_2_Bundle b0_2_Path)).Credits ((qa.mk (qb.mk b0_2_Course_School b0_2_Course_Code) b0_2_Credits b0_2_Grade b0_2_Day b0_2_Sources b0_2_Bundle b0_2_Path)).Grade ((qa.mk (qb.mk b0_2_Course_School b0_2_Course_Code) b0_2_Credits b0_2_Grade b0_2_Day b0_2_Sources b0_2_Bundle b0_2_Path)).Day ((qa.mk (qb.mk b0_2_Course_School b0_2_Course_Code) b0_2_Credits b0_2_Grade b0_2_Day b0_2_Sources b0_2_Bundle b0_2_Path)).Sources ((qa.mk (qb.mk b0_2_Course_School b0_2_Course_Code) b0_2_Credits b0_2_Grade b0_2_Day b0_2_Sources b0_2_Bundle b0_2_Path)).Bundle ((qa.mk (qb.mk b0_2_Course_School b0_2_Course_Code) b0_2_Credits b0_2_Grade b0_2_Day b0_2_Sources b0_2_Bundle b0_2_Path)).Path ((qe.mk s_Worst s_Best s_Pass)).Worst ((qe.mk s_Worst s_Best s_Pass)).Best ((qe.mk s_Worst s_Best s_Pass)).Pass k _ rfl
 first
  | exact h
  | (simp only[rL,dL,bR,bZ,Nat.reduceAdd] at h;exact h)
theorem Jd:∀(left0_Course_School:Int) (left0_Course_Code:ByteArray) (left0_Credits left0_Grade left0_Day:Int) (left0_Sources:List Int) (left0_Bundle:Int) (left0_Path:List Int) (left1_Course_School:Int) (left1_Course_Code:ByteArray) (left1_Credits left1_Grade left1_Day:Int) (left1_Sources:List Int) (left1_Bundle:Int) (left1_Path:List Int) (left2_Course_School:Int) (left2_Course_Code:ByteArray) (left2_Credits left2_Grade left2_Day:Int) (left2_Sources:List Int) (left2_Bundle:Int) (left2_Path:List Int) (b0_0_Course_School:Int) (b0_0_Course_Code:ByteArray) (b0_0_Credits b0_0_Grade b0_0_Day:Int) (b0_0_Sources:List Int) (b0_0_Bundle:Int) (b0_0_Path:List Int) (b0_1_Course_School:Int) (b0_1_Course_Code:ByteArray) (b0_1_Credits b0_1_Grade b0_1_Day:Int) (b0_1_Sources:List Int) (b0_1_Bundle:Int) (b0_1_Path:List Int) (b0_2_Course_School:Int) (b0_2_Course_Code:ByteArray) (b0_2_Credits b0_2_Grade b0_2_Day:Int) (b0_2_Sources:List Int) (b0_2_Bundle:Int) (b0_2_Path:List Int) (s_Worst s_Best s_Pass k:Int),XL2 evo 11 1 9 ⟨[(6,rP 1),(10,rO 2 8 3),(13,rI k)],[(0,B.blk 52 [dI b0_0_Course_School,dS b0_0_Course_Code,dI b0_0_Credits,dI b0_0_Grade,dI b0_0_Day,dL 1 eI b0_0_Sources,dI b0_0_Bundle,dL 1 eI b0_0_Path,dI b0_1_Course_School,dS b0_1_Course_Code,dI b0_1_Credits,dI b0_1_Grade,dI b0_1_Day,dL 1 eI b0_1_Sources,dI b0_1_Bundle,dL 1 eI b0_1_Path,dI b0_2_Course_School,dS b0_2_Course_Code,dI b0_2_Credits,dI b0_2_Grade,dI b0_2_Day,dL 1 eI b0_2_Sources,dI b0_2_Bundle,dL 1 eI b0_2_Path]),(1,B.blk 30 [dI s_Worst,dI s_Best,dI s_Pass]),(2,B.row 52 8 [dI left0_Course_School,dS left0_Course_Code,dI left0_Credits,dI left0_Grade,dI left0_Day,dL 1 eI left0_Sources,dI left0_Bundle,dL 1 eI left0_Path,dI left1_Course_School,dS left1_Course_Code,dI left1_Credits,dI left1_Grade,dI left1_Day,dL 1 eI left1_Sources,dI left1_Bundle,dL 1 eI left1_Path,dI left2_Course_School,dS left2_Course_Code,dI left2_Credits,dI left2_Grade,dI left2_Day,dL 1 eI left2_Sources,dI left2_Bundle,dL 1 eI left2_Path])],3,53⟩=(qx (qk (qa.mk (qb.mk b0_0_Course_School b0_0_Course_Code) b0_0_Credits b0_0_Grade b0_0_Day b0_0_Sources b0_0_Bundle b0_0_Path) (qa.mk (qb.mk b0_1_Course_School b0_1_Course_Code) b0_1_Credits b0_1_Grade b0_1_Day b0_1_Sources b0_1_Bundle b0_1_Path) (qa.mk (qb.mk b0_2_Course_School b0_2_Course_Code) b0_2_Credits b0_2_Grade b0_2_Day b0_2_Sources b0_2_Bundle b0_2_Path) (qe.mk s_Worst s_Best s_Pass)) ([(qa.mk (qb.mk left0_Course_School left0_Course_Code) left0_Credits left0_Grade left0_Day left0_Sources left0_Bundle left0_Path),(qa.mk (qb.mk left1_Course_School left1_Course_Code) left1_Credits left1_Grade left1_Day left1_Sources left1_Bundle left1_Path),(qa.mk (qb.mk left2_Course_School left2_Course_Code) left2_Credits left2_Grade left2_Day left2_Sources left2_Bundle left2_Path)],k)).bind (fun(e:List qa)=>some (Exit.exit 2,⟨[(10,rO 1 8 e.length)],[(0,B.blk 52 [dI b0_0_Course_School,dS b0_0_Course_Code,dI b0_0_Credits,dI b0_0_Grade,dI b0_0_Day,dL 1 eI b0_0_Sources,dI b0_0_Bundle,dL 1 eI b0_0_Path,dI b0_1_Course_School,dS b0_1_Course_Code,dI b0_1_Credits,dI b0_1_Grade,dI b0_1_Day,dL 1 eI b0_1_Sources,dI b0_1_Bundle,dL 1 eI b0_1_Path,dI b0_2_Course_School,dS b0_2_Course_Code,dI b0_2_Credits,dI b0_2_Grade,dI b0_2_Day,dL 1 eI b0_2_Sources,dI b0_2_Bundle,dL 1 eI b0_2_Path]),(1,bR 52 8 qc e)],2,53⟩)):=by
 intro left0_Course_School left0_Course_Code left0_Credits left0_Grade left0_Day left0_Sources left0_Bundle left0_Path left1_Course_School left1_Course_Code left1_Credits left1_Grade left1_Day left1_Sources left1_Bundle left1_Path left2_Course_School left2_Course_Code left2_Credits left2_Grade left2_Day left2_Sources left2_Bundle left2_Path b0_0_Course_School b0_0_Course_Code b0_0_Credits b0_0_Grade b0_0_Day b0_0_Sources b0_0_Bundle b0_0_Path b0_1_Course_School b0_1_Course_Code b0_1_Credits b0_1_Grade b0_1_Day b0_1_Sources b0_1_Bundle b0_1_Path b0_2_Course_School b0_2_Course_Code b0_2_Credits b0_2_Grade b0_2_Day b0_2_Sources b0_2_Bundle b0_2_Path s_Worst s_Best s_Pass k;have h:=qS [(qa.mk (qb.mk left0_Course_School left0_Course_Code) left0_Credits left0_Grade left0_Day left0_Sources left0_Bundle left0_Path),(qa.mk (qb.mk left1_Course_School left1_Course_Code) left1_Credits left1_Grade left1_Day left1_Sources left1_Bundle left1_Path),(qa.mk (qb.mk left2_Course_School left2_Course_Code) left2_Credits left2_Grade left2_Day left2_Sources left2_Bundle left2_Path)] ((qa.mk (qb.mk b0_0_Course_School b0_0_Course_Code) b0_0_Credits b0_0_Grade b0_0_Day b0_0_Sources b0_0_Bundle b0_0_Path)).Course.School ((qa.mk (qb.mk b0_0_Course_School b0_0_Course_Code) b0_0_Credits b0_0_Grade b0_0_Day b0_0_Sources b0_0_Bundle b0_0_Path)).Course.Code ((qa.mk (qb.mk b0_0_Course_School b0_0_Course_Code) b0_0_Credits b0_0_Grade b0_0_Day b0_0_Sources b0_0_Bundle b0_0_Path)).Credits ((qa.mk (qb.mk b0_0_Course_School b0_0_Course_Code) b0_0_Credits b0_0_Grade b0_0_Day b0_0_Sources b0_0_Bundle b0_0_Path)).Grade ((qa.mk (qb.mk b0_0_Course_School b0_0_Course_Code) b0_0_Credits b0_0_Grade b0_0_Day b0_0_Sources b0_0_Bundle b0_0_Path)).Day ((qa.mk (qb.mk b0_0_Course_School b0_0_Course_Code) b0_0_Credits b0_0_Grade b0_0_Day b0_0_Sources b0_0_Bundle b0_0_Path)).Sources ((qa.mk (qb.mk b0_0_Course_School b0_0_Course_Code) b0_0_Credits b0_0_Grade b0_0_Day b0_0_Sources b0_0_Bundle b0_0_Path)).Bundle ((qa.mk (qb.mk b0_0_Course_School b0_0_Course_Code) b0_0_Credits b0_0_Grade b0_0_Day b0_0_Sources b0_0_Bundle b0_0_Path)).Path ((qa.mk (qb.mk b0_1_Course_School b0_1_Course_Code) b0_1_Credits b0_1_Grade b0_1_Day b0_1_Sources b0_1_Bundle b0_1_Path)).Course.School ((qa.mk (qb.mk b0_1_Course_School b0_1_Course_Code) b0_1_Credits b0_1_Grade b0_1_Day b0_1_Sources b0_1_Bundle b0_1_Path)).Course.Code ((qa.mk (qb.mk b0_1_Course_School b0_1_Course_Code) b0_1_Credits b0_1_Grade b0_1_Day b0_1_Sources b0_1_Bundle b0_1_Path)).Credits ((qa.mk (qb.mk b0_1_Course_School b0_1_Course_Code) b0_1_Credits b0_1_Grade b0_1_Day b0_1_Sources b0_1_Bundle b0_1_Path)).Grade ((qa.mk (qb.mk b0_1_Course_School b0_1_Course_Code) b0_1_Credits b0_1_Grade b0_1_Day b0_1_Sources b0_1_Bundle b0_1_Path)).Day ((qa.mk (qb.mk b0_1_Course_School b0_1_Course_Code) b0_1_Credits b0_1_Grade b0_1_Day b0_1_Sources b0_1_Bundle b0_1_Path)).Sources ((qa.mk (qb.mk b0_1_Course_School b0_1_Course_Code) b0_1_Credits b0_1_Grade b0_1_Day b0_1_Sources b0_1_Bundle b0_1_Path)).Bundle ((qa.mk (qb.mk b0_1_Course_School b0_1_Course_Code) b0_1_Credits b0_1_Grade b0_1_Day b0_1_Sources b0_1_Bundle b0_1_Path)).Path ((qa.mk (qb.mk b0_2_Course_School b0_2_Course_Code) b0_2_Credits b0_2_Grade b0_2_Day b0_2_Sources b0_2_Bundle b0_2_Path)).Course.School ((qa.mk (qb.mk b0_2_Course_School b0_2_Course_Code) b0_2_Credits b0_2_Grade b0_2_Day b0_2_Sources b0_2_Bundle b0_2_Path)).Course.Code ((qa.mk (qb.mk b0_2_Course_School b0_2_Course_Code) b0_2_Credits b0_2_Grade b0_2_Day b0_2_Sources b0_2_Bundle b0_2_Path)).Credits ((qa.mk (qb.mk b0_2_Course_School b0_2_Course_Code) b0_2_Credits b0_2_Grade b0_2_Day b0_2_Sources b0_2_Bundle b0_2_Path)).Grade ((qa.mk (qb.mk b0_2_Course_School b0_2_Course_Code) b0_2_Credits b0_2_Grade b0_2_Day b0_2_Sources b0_2_Bundle b0_2_Path)).Day ((qa.mk (qb.mk b0_2_Course_School b0_2_Course_Code) b0_2_Credits b0_2_Grade b0_2_Day b0_2_Sources b0_2_Bundle b0_2_Path)).Sources ((qa.mk (qb.mk b0_2_Course_School b0_2_Course_Code) b0_2_Credits b0_2_Grade b0_2_Day b0_2_Sources b0_2_Bundle b0_2_Path)).Bundle ((qa.mk (qb.mk b0_2_Course_School b0_2_Course_Code) b0_2_Credits b0_2_Grade b0_2_Day b0_2_Sources b0_2_Bundle b0_2_Path)).Path ((qe.mk s_Worst s_Best s_Pass)).Worst ((qe.mk s_Worst s_Best s_Pass)).Best ((qe.mk s_Worst s_Best s_Pass)).Pass k _ rfl
 first
  | exact h
  | (simp only[rL,dL,bR,bZ,Nat.reduceAdd] at h;exact h)
theorem J7:∀(left0_Course_School:Int) (left0_Course_Code:ByteArray) (left0_Credits left0_Grade left0_Day:Int) (left0_Sources:List Int) (left0_Bundle:Int) (left0_Path:List Int) (left1_Course_School:Int) (left1_Course_Code:ByteArray) (left1_Credits left1_Grade left1_Day:Int) (left1_Sources:List Int) (left1_Bundle:Int) (left1_Path:List Int) (b0_0_Course_School:Int) (b0_0_Course_Code:ByteArray) (b0_0_Credits b0_0_Grade b0_0_Day:Int) (b0_0_Sources:List Int) (b0_0_Bundle:Int) (b0_0_Path:List Int) (b0_1_Course_School:Int) (b0_1_Course_Code:ByteArray) (b0_1_Credits b0_1_Grade b0_1_Day:Int) (b0_1_Sources:List Int) (b0_1_Bundle:Int) (b0_1_Path:List Int) (b0_2_Course_School:Int) (b0_2_Course_Code:ByteArray) (b0_2_Credits b0_2_Grade b0_2_Day:Int) (b0_2_Sources:List Int) (b0_2_Bundle:Int) (b0_2_Path:List Int) (s_Worst s_Best s_Pass k:Int),XL2 evo 11 1 9 ⟨[(6,rP 1),(10,rO 2 8 2),(13,rI k)],[(0,B.blk 52 [dI b0_0_Course_School,dS b0_0_Course_Code,dI b0_0_Credits,dI b0_0_Grade,dI b0_0_Day,dL 1 eI b0_0_Sources,dI b0_0_Bundle,dL 1 eI b0_0_Path,dI b0_1_Course_School,dS b0_1_Course_Code,dI b0_1_Credits,dI b0_1_Grade,dI b0_1_Day,dL 1 eI b0_1_Sources,dI b0_1_Bundle,dL 1 eI b0_1_Path,dI b0_2_Course_School,dS b0_2_Course_Code,dI b0_2_Credits,dI b0_2_Grade,dI b0_2_Day,dL 1 eI b0_2_Sources,dI b0_2_Bundle,dL 1 eI b0_2_Path]),(1,B.blk 30 [dI s_Worst,dI s_Best,dI s_Pass]),(2,B.row 52 8 [dI left0_Course_School,dS left0_Course_Code,dI left0_Credits,dI left0_Grade,dI left0_Day,dL 1 eI left0_Sources,dI left0_Bundle,dL 1 eI left0_Path,dI left1_Course_School,dS left1_Course_Code,dI left1_Credits,dI left1_Grade,dI left1_Day,dL 1 eI left1_Sources,dI left1_Bundle,dL 1 eI left1_Path])],3,53⟩=(qx (qk (qa.mk (qb.mk b0_0_Course_School b0_0_Course_Code) b0_0_Credits b0_0_Grade b0_0_Day b0_0_Sources b0_0_Bundle b0_0_Path) (qa.mk (qb.mk b0_1_Course_School b0_1_Course_Code) b0_1_Credits b0_1_Grade b0_1_Day b0_1_Sources b0_1_Bundle b0_1_Path) (qa.mk (qb.mk b0_2_Course_School b0_2_Course_Code) b0_2_Credits b0_2_Grade b0_2_Day b0_2_Sources b0_2_Bundle b0_2_Path) (qe.mk s_Worst s_Best s_Pass)) ([(qa.mk (qb.mk left0_Course_School left0_Course_Code) left0_Credits left0_Grade left0_Day left0_Sources left0_Bundle left0_Path),(qa.mk (qb.mk left1_Course_School left1_Course_Code) left1_Credits left1_Grade left1_Day left1_Sources left1_Bundle left1_Path)],k)).bind (fun(e:List qa)=>some (Exit.exit 2,⟨[(10,rO 1 8 e.length)],[(0,B.blk 52 [dI b0_0_Course_School,dS b0_0_Course_Code,dI b0_0_Credits,dI b0_0_Grade,dI b0_0_Day,dL 1 eI b0_0_Sources,dI b0_0_Bundle,dL 1 eI b0_0_Path,dI b0_1_Course_School,dS b0_1_Course_Code,dI b0_1_Credits,dI b0_1_Grade,dI b0_1_Day,dL 1 eI b0_1_Sources,dI b0_1_Bundle,dL 1 eI b0_1_Path,dI b0_2_Course_School,dS b0_2_Course_Code,dI b0_2_Credits,dI b0_2_Grade,dI b0_2_Day,dL 1 eI b0_2_Sources,dI b0_2_Bundle,dL 1 eI b0_2_Path]),(1,bR 52 8 qc e)],2,53⟩)):=by
 intro left0_Course_School left0_Course_Code left0_Credits left0_Grade left0_Day left0_Sources left0_Bundle left0_Path left1_Course_School left1_Course_Code left1_Credits left1_Grade left1_Day left1_Sources left1_Bundle left1_Path b0_0_Course_School b0_0_Course_Code b0_0_Credits b0_0_Grade b0_0_Day b0_0_Sources b0_0_Bundle b0_0_Path b0_1_Course_School b0_1_Course_Code b0_1_Credits b0_1_Grade b0_1_Day b0_1_Sources b0_1_Bundle b0_1_Path b0_2_Course_School b0_2_Course_Code b0_2_Credits b0_2_Grade b0_2_Day b0_2_Sources b0_2_Bundle b0_2_Path s_Worst s_Best s_Pass k;have h:=qS [(qa.mk (qb.mk left0_Course_School left0_Course_Code) left0_Credits left0_Grade left0_Day left0_Sources left0_Bundle left0_Path),(qa.mk (qb.mk left1_Course_School left1_Course_Code) left1_Credits left1_Grade left1_Day left1_Sources left1_Bundle left1_Path)] ((qa.mk (qb.mk b0_0_Course_School b0_0_Course_Code) b0_0_Credits b0_0_Grade b0_0_Day b0_0_Sources b0_0_Bundle b0_0_Path)).Course.School ((qa.mk (qb.mk b0_0_Course_School b0_0_Course_Code) b0_0_Credits b0_0_Grade b0_0_Day b0_0_Sources b0_0_Bundle b0_0_Path)).Course.Code ((qa.mk (qb.mk b0_0_Course_School b0_0_Course_Code) b0_0_Credits b0_0_Grade b0_0_Day b0_0_Sources b0_0_Bundle b0_0_Path)).Credits ((qa.mk (qb.mk b0_0_Course_School b0_0_Course_Code) b0_0_Credits b0_0_Grade b0_0_Day b0_0_Sources b0_0_Bundle b0_0_Path)).Grade ((qa.mk (qb.mk b0_0_Course_School b0_0_Course_Code) b0_0_Credits b0_0_Grade b0_0_Day b0_0_Sources b0_0_Bundle b0_0_Path)).Day ((qa.mk (qb.mk b0_0_Course_School b0_0_Course_Code) b0_0_Credits b0_0_Grade b0_0_Day b0_0_Sources b0_0_Bundle b0_0_Path)).Sources ((qa.mk (qb.mk b0_0_Course_School b0_0_Course_Code) b0_0_Credits b0_0_Grade b0_0_Day b0_0_Sources b0_0_Bundle b0_0_Path)).Bundle ((qa.mk (qb.mk b0_0_Course_School b0_0_Course_Code) b0_0_Credits b0_0_Grade b0_0_Day b0_0_Sources b0_0_Bundle b0_0_Path)).Path ((qa.mk (qb.mk b0_1_Course_School b0_1_Course_Code) b0_1_Credits b0_1_Grade b0_1_Day b0_1_Sources b0_1_Bundle b0_1_Path)).Course.School ((qa.mk (qb.mk b0_1_Course_School b0_1_Course_Code) b0_1_Credits b0_1_Grade b0_1_Day b0_1_Sources b0_1_Bundle b0_1_Path)).Course.Code ((qa.mk (qb.mk b0_1_Course_School b0_1_Course_Code) b0_1_Credits b0_1_Grade b0_1_Day b0_1_Sources b0_1_Bundle b0_1_Path)).Credits ((qa.mk (qb.mk b0_1_Course_School b0_1_Course_Code) b0_1_Credits b0_1_Grade b0_1_Day b0_1_Sources b0_1_Bundle b0_1_Path)).Grade ((qa.mk (qb.mk b0_1_Course_School b0_1_Course_Code) b0_1_Credits b0_1_Grade b0_1_Day b0_1_Sources b0_1_Bundle b0_1_Path)).Day ((qa.mk (qb.mk b0_1_Course_School b0_1_Course_Code) b0_1_Credits b0_1_Grade b0_1_Day b0_1_Sources b0_1_Bundle b0_1_Path)).Sources ((qa.mk (qb.mk b0_1_Course_School b0_1_Course_Code) b0_1_Credits b0_1_Grade b0_1_Day b0_1_Sources b0_1_Bundle b0_1_Path)).Bundle ((qa.mk (qb.mk b0_1_Course_School b0_1_Course_Code) b0_1_Credits b0_1_Grade b0_1_Day b0_1_Sources b0_1_Bundle b0_1_Path)).Path ((qa.mk (qb.mk b0_2_Course_School b0_2_Course_Code) b0_2_Credits b0_2_Grade b0_2_Day b0_2_Sources b0_2_Bundle b0_2_Path)).Course.School ((qa.mk (qb.mk b0_2_Course_School b0_2_Course_Code) b0_2_Credits b0_2_Grade b0_2_Day b0_2_Sources b0_2_Bundle b0_2_Path)).Course.Code ((qa.mk (qb.mk b0_2_Course_School b0_2_Course_Code) b0_2_Credits b0_2_Grade b0_2_Day b0_2_Sources b0_2_Bundle b0_2_Path)).Credits ((qa.mk (qb.mk b0_2_Course_School b0_2_Course_Code) b0_2_Credits b0_2_Grade b0_2_Day b0_2_Sources b0_2_Bundle b0_2_Path)).Grade ((qa.mk (qb.mk b0_2_Course_School b0_2_Course_Code) b0_2_Credits b0_2_Grade b0_2_Day b0_2_Sources b0_2_Bundle b0_2_Path)).Day ((qa.mk (qb.mk b0_2_Course_School b0_2_Course_Code) b0_2_Credits b0_2_Grade b0_2_Day b0_2_Sources b0_2_Bundle b0_2_Path)).Sources ((qa.mk (qb.mk b0_2_Course_School b0_2_Course_Code) b0_2_Credits b0_2_Grade b0_2_Day b0_2_Sources b0_2_Bundle b0_2_Path)).Bundle ((qa.mk (qb.mk b0_2_Course_School b0_2_Course_Code) b0_2_Credits b0_2_Grade b0_2_Day b0_2_Sources b0_2_Bundle b0_2_Path)).Path ((qe.mk s_Worst s_Best s_Pass)).Worst ((qe.mk s_Worst s_Best s_Pass)).Best ((qe.mk s_Worst s_Best s_Pass)).Pass k _ rfl
 first
  | exact h
  | (simp only[rL,dL,bR,bZ,Nat.reduceAdd] at h;exact h)
theorem J9:∀(left0_Course_School:Int) (left0_Course_Code:ByteArray) (left0_Credits left0_Grade left0_Day:Int) (left0_Sources:List Int) (left0_Bundle:Int) (left0_Path:List Int) (b0_0_Course_School:Int) (b0_0_Course_Code:ByteArray) (b0_0_Credits b0_0_Grade b0_0_Day:Int) (b0_0_Sources:List Int) (b0_0_Bundle:Int) (b0_0_Path:List Int) (b0_1_Course_School:Int) (b0_1_Course_Code:ByteArray) (b0_1_Credits b0_1_Grade b0_1_Day:Int) (b0_1_Sources:List Int) (b0_1_Bundle:Int) (b0_1_Path:List Int) (b0_2_Course_School:Int) (b0_2_Course_Code:ByteArray) (b0_2_Credits b0_2_Grade b0_2_Day:Int) (b0_2_Sources:List Int) (b0_2_Bundle:Int) (b0_2_Path:List Int) (s_Worst s_Best s_Pass k:Int),XL2 evo 11 1 9 ⟨[(6,rP 1),(10,rO 2 8 1),(13,rI k)],[(0,B.blk 52 [dI b0_0_Course_School,dS b0_0_Course_Code,dI b0_0_Credits,dI b0_0_Grade,dI b0_0_Day,dL 1 eI b0_0_Sources,dI b0_0_Bundle,dL 1 eI b0_0_Path,dI b0_1_Course_School,dS b0_1_Course_Code,dI b0_1_Credits,dI b0_1_Grade,dI b0_1_Day,dL 1 eI b0_1_Sources,dI b0_1_Bundle,dL 1 eI b0_1_Path,dI b0_2_Course_School,dS b0_2_Course_Code,dI b0_2_Credits,dI b0_2_Grade,dI b0_2_Day,dL 1 eI b0_2_Sources,dI b0_2_Bundle,dL 1 eI b0_2_Path]),(1,B.blk 30 [dI s_Worst,dI s_Best,dI s_Pass]),(2,B.row 52 8 [dI left0_Course_School,dS left0_Course_Code,dI left0_Credits,dI left0_Grade,dI left0_Day,dL 1 eI left0_Sources,dI left0_Bundle,dL 1 eI left0_Path])],3,53⟩=(qx (qk (qa.mk (qb.mk b0_0_Course_School b0_0_Course_Code) b0_0_Credits b0_0_Grade b0_0_Day b0_0_Sources b0_0_Bundle b0_0_Path) (qa.mk (qb.mk b0_1_Course_School b0_1_Course_Code) b0_1_Credits b0_1_Grade b0_1_Day b0_1_Sources b0_1_Bundle b0_1_Path) (qa.mk (qb.mk b0_2_Course_School b0_2_Course_Code) b0_2_Credits b0_2_Grade b0_2_Day b0_2_Sources b0_2_Bundle b0_2_Path) (qe.mk s_Worst s_Best s_Pass)) ([(qa.mk (qb.mk left0_Course_School left0_Course_Code) left0_Credits left0_Grade left0_Day left0_Sources left0_Bundle left0_Path)],k)).bind (fun(e:List qa)=>some (Exit.exit 2,⟨[(10,rO 1 8 e.length)],[(0,B.blk 52 [dI b0_0_Course_School,dS b0_0_Course_Code,dI b0_0_Credits,dI b0_0_Grade,dI b0_0_Day,dL 1 eI b0_0_Sources,dI b0_0_Bundle,dL 1 eI b0_0_Path,dI b0_1_Course_School,dS b0_1_Course_Code,dI b0_1_Credits,dI b0_1_Grade,dI b0_1_Day,dL 1 eI b0_1_Sources,dI b0_1_Bundle,dL 1 eI b0_1_Path,dI b0_2_Course_School,dS b0_2_Course_Code,dI b0_2_Credits,dI b0_2_Grade,dI b0_2_Day,dL 1 eI b0_2_Sources,dI b0_2_Bundle,dL 1 eI b0_2_Path]),(1,bR 52 8 qc e)],2,53⟩)):=by
 intro left0_Course_School left0_Course_Code left0_Credits left0_Grade left0_Day left0_Sources left0_Bundle left0_Path b0_0_Course_School b0_0_Course_Code b0_0_Credits b0_0_Grade b0_0_Day b0_0_Sources b0_0_Bundle b0_0_Path b0_1_Course_School b0_1_Course_Code b0_1_Credits b0_1_Grade b0_1_Day b0_1_Sources b0_1_Bundle b0_1_Path b0_2_Course_School b0_2_Course_Code b0_2_Credits b0_2_Grade b0_2_Day b0_2_Sources b0_2_Bundle b0_2_Path s_Worst s_Best s_Pass k;have h:=qS [(qa.mk (qb.mk left0_Course_School left0_Course_Code) left0_Credits left0_Grade left0_Day left0_Sources left0_Bundle left0_Path)] ((qa.mk (qb.mk b0_0_Course_School b0_0_Course_Code) b0_0_Credits b0_0_Grade b0_0_Day b0_0_Sources b0_0_Bundle b0_0_Path)).Course.School ((qa.mk (qb.mk b0_0_Course_School b0_0_Course_Code) b0_0_Credits b0_0_Grade b0_0_Day b0_0_Sources b0_0_Bundle b0_0_Path)).Course.Code ((qa.mk (qb.mk b0_0_Course_School b0_0_Course_Code) b0_0_Credits b0_0_Grade b0_0_Day b0_0_Sources b0_0_Bundle b0_0_Path)).Credits ((qa.mk (qb.mk b0_0_Course_School b0_0_Course_Code) b0_0_Credits b0_0_Grade b0_0_Day b0_0_Sources b0_0_Bundle b0_0_Path)).Grade ((qa.mk (qb.mk b0_0_Course_School b0_0_Course_Code) b0_0_Credits b0_0_Grade b0_0_Day b0_0_Sources b0_0_Bundle b0_0_Path)).Day ((qa.mk (qb.mk b0_0_Course_School b0_0_Course_Code) b0_0_Credits b0_0_Grade b0_0_Day b0_0_Sources b0_0_Bundle b0_0_Path)).Sources ((qa.mk (qb.mk b0_0_Course_School b0_0_Course_Code) b0_0_Credits b0_0_Grade b0_0_Day b0_0_Sources b0_0_Bundle b0_0_Path)).Bundle ((qa.mk (qb.mk b0_0_Course_School b0_0_Course_Code) b0_0_Credits b0_0_Grade b0_0_Day b0_0_Sources b0_0_Bundle b0_0_Path)).Path ((qa.mk (qb.mk b0_1_Course_School b0_1_Course_Code) b0_1_Credits b0_1_Grade b0_1_Day b0_1_Sources b0_1_Bundle b0_1_Path)).Course.School ((qa.mk (qb.mk b0_1_Course_School b0_1_Course_Code) b0_1_Credits b0_1_Grade b0_1_Day b0_1_Sources b0_1_Bundle b0_1_Path)).Course.Code ((qa.mk (qb.mk b0_1_Course_School b0_1_Course_Code) b0_1_Credits b0_1_Grade b0_1_Day b0_1_Sources b0_1_Bundle b0_1_Path)).Credits ((qa.mk (qb.mk b0_1_Course_School b0_1_Course_Code) b0_1_Credits b0_1_Grade b0_1_Day b0_1_Sources b0_1_Bundle b0_1_Path)).Grade ((qa.mk (qb.mk b0_1_Course_School b0_1_Course_Code) b0_1_Credits b0_1_Grade b0_1_Day b0_1_Sources b0_1_Bundle b0_1_Path)).Day ((qa.mk (qb.mk b0_1_Course_School b0_1_Course_Code) b0_1_Credits b0_1_Grade b0_1_Day b0_1_Sources b0_1_Bundle b0_1_Path)).Sources ((qa.mk (qb.mk b0_1_Course_School b0_1_Course_Code) b0_1_Credits b0_1_Grade b0_1_Day b0_1_Sources b0_1_Bundle b0_1_Path)).Bundle ((qa.mk (qb.mk b0_1_Course_School b0_1_Course_Code) b0_1_Credits b0_1_Grade b0_1_Day b0_1_Sources b0_1_Bundle b0_1_Path)).Path ((qa.mk (qb.mk b0_2_Course_School b0_2_Course_Code) b0_2_Credits b0_2_Grade b0_2_Day b0_2_Sources b0_2_Bundle b0_2_Path)).Course.School ((qa.mk (qb.mk b0_2_Course_School b0_2_Course_Code) b0_2_Credits b0_2_Grade b0_2_Day b0_2_Sources b0_2_Bundle b0_2_Path)).Course.Code ((qa.mk (qb.mk b0_2_Course_School b0_2_Course_Code) b0_2_Credits b0_2_Grade b0_2_Day b0_2_Sources b0_2_Bundle b0_2_Path)).Credits ((qa.mk (qb.mk b0_2_Course_School b0_2_Course_Code) b0_2_Credits b0_2_Grade b0_2_Day b0_2_Sources b0_2_Bundle b0_2_Path)).Grade ((qa.mk (qb.mk b0_2_Course_School b0_2_Course_Code) b0_2_Credits b0_2_Grade b0_2_Day b0_2_Sources b0_2_Bundle b0_2_Path)).Day ((qa.mk (qb.mk b0_2_Course_School b0_2_Course_Code) b0_2_Credits b0_2_Grade b0_2_Day b0_2_Sources b0_2_Bundle b0_2_Path)).Sources ((qa.mk (qb.mk b0_2_Course_School b0_2_Course_Code) b0_2_Credits b0_2_Grade b0_2_Day b0_2_Sources b0_2_Bundle b0_2_Path)).Bundle ((qa.mk (qb.mk b0_2_Course_School b0_2_Course_Code) b0_2_Credits b0_2_Grade b0_2_Day b0_2_Sources b0_2_Bundle b0_2_Path)).Path ((qe.mk s_Worst s_Best s_Pass)).Worst ((qe.mk s_Worst s_Best s_Pass)).Best ((qe.mk s_Worst s_Best s_Pass)).Pass k _ rfl
 first
  | exact h
  | (simp only[rL,dL,bR,bZ,Nat.reduceAdd] at h;exact h)
theorem Jh:∀(left0_Course_School:Int) (left0_Course_Code:ByteArray) (left0_Credits left0_Grade left0_Day:Int) (left0_Sources:List Int) (left0_Bundle:Int) (left0_Path:List Int) (left1_Course_School:Int) (left1_Course_Code:ByteArray) (left1_Credits left1_Grade left1_Day:Int) (left1_Sources:List Int) (left1_Bundle:Int) (left1_Path:List Int) (left2_Course_School:Int) (left2_Course_Code:ByteArray) (left2_Credits left2_Grade left2_Day:Int) (left2_Sources:List Int) (left2_Bundle:Int) (left2_Path:List Int) (b0_0_Course_School:Int) (b0_0_Course_Code:ByteArray) (b0_0_Credits b0_0_Grade b0_0_Day:Int) (b0_0_Sources:List Int) (b0_0_Bundle:Int) (b0_0_Path:List Int) (b0_1_Course_School:Int) (b0_1_Course_Code:ByteArray) (b0_1_Credits b0_1_Grade b0_1_Day:Int) (b0_1_Sources:List Int) (b0_1_Bundle:Int) (b0_1_Path:List Int) (b0_2_Course_School:Int) (b0_2_Course_Code:ByteArray) (b0_2_Credits b0_2_Grade b0_2_Day:Int) (b0_2_Sources:List Int) (b0_2_Bundle:Int) (b0_2_Path:List Int) (s_Worst s_Best s_Pass k:Int),XL2 evo 11 1 9 ⟨[(6,rP 1),(10,rO 2 8 3),(13,rI k)],[(0,B.blk 52 [dI b0_0_Course_School,dS b0_0_Course_Code,dI b0_0_Credits,dI b0_0_Grade,dI b0_0_Day,dL 1 eI b0_0_Sources,dI b0_0_Bundle,dL 1 eI b0_0_Path,dI b0_1_Course_School,dS b0_1_Course_Code,dI b0_1_Credits,dI b0_1_Grade,dI b0_1_Day,dL 1 eI b0_1_Sources,dI b0_1_Bundle,dL 1 eI b0_1_Path,dI b0_2_Course_School,dS b0_2_Course_Code,dI b0_2_Credits,dI b0_2_Grade,dI b0_2_Day,dL 1 eI b0_2_Sources,dI b0_2_Bundle,dL 1 eI b0_2_Path]),(1,B.blk 30 [dI s_Worst,dI s_Best,dI s_Pass]),(2,B.row 52 8 [dI left0_Course_School,dS left0_Course_Code,dI left0_Credits,dI left0_Grade,dI left0_Day,dL 1 eI left0_Sources,dI left0_Bundle,dL 1 eI left0_Path,dI left1_Course_School,dS left1_Course_Code,dI left1_Credits,dI left1_Grade,dI left1_Day,dL 1 eI left1_Sources,dI left1_Bundle,dL 1 eI left1_Path,dI left2_Course_School,dS left2_Course_Code,dI left2_Credits,dI left2_Grade,dI left2_Day,dL 1 eI left2_Sources,dI left2_Bundle,dL 1 eI left2_Path])],3,53⟩=(qx (qk (qa.mk (qb.mk b0_0_Course_School b0_0_Course_Code) b0_0_Credits b0_0_Grade b0_0_Day b0_0_Sources b0_0_Bundle b0_0_Path) (qa.mk (qb.mk b0_1_Course_School b0_1_Course_Code) b0_1_Credits b0_1_Grade b0_1_Day b0_1_Sources b0_1_Bundle b0_1_Path) (qa.mk (qb.mk b0_2_Course_School b0_2_Course_Code) b0_2_Credits b0_2_Grade b0_2_Day b0_2_Sources b0_2_Bundle b0_2_Path) (qe.mk s_Worst s_Best s_Pass)) ([(qa.mk (qb.mk left0_Course_School left0_Course_Code) left0_Credits left0_Grade left0_Day left0_Sources left0_Bundle left0_Path),(qa.mk (qb.mk left1_Course_School left1_Course_Code) left1_Credits left1_Grade left1_Day left1_Sources left1_Bundle left1_Path),(qa.mk (qb.mk left2_Course_School left2_Course_Code) left2_Credits left2_Grade left2_Day left2_Sources left2_Bundle left2_Path)],k)).bind (fun(e:List qa)=>some (Exit.exit 2,⟨[(10,rO 1 8 e.length)],[(0,B.blk 52 [dI b0_0_Course_School,dS b0_0_Course_Code,dI b0_0_Credits,dI b0_0_Grade,dI b0_0_Day,dL 1 eI b0_0_Sources,dI b0_0_Bundle,dL 1 eI b0_0_Path,dI b0_1_Course_School,dS b0_1_Course_Code,dI b0_1_Credits,dI b0_1_Grade,dI b0_1_Day,dL 1 eI b0_1_Sources,dI b0_1_Bundle,dL 1 eI b0_1_Path,dI b0_2_Course_School,dS b0_2_Course_Code,dI b0_2_Credits,dI b0_2_Grade,dI b0_2_Day,dL 1 eI b0_2_Sources,dI b0_2_Bundle,dL 1 eI b0_2_Path]),(1,bR 52 8 qc e)],2,53⟩)):=by
 intro left0_Course_School left0_Course_Code left0_Credits left0_Grade left0_Day left0_Sources left0_Bundle left0_Path left1_Course_School left1_Course_Code left1_Credits left1_Grade left1_Day left1_Sources left1_Bundle left1_Path left2_Course_School left2_Course_Code left2_Credits left2_Grade left2_Day left2_Sources left2_Bundle left2_Path b0_0_Course_School b0_0_Course_Code b0_0_Credits b0_0_Grade b0_0_Day b0_0_Sources b0_0_Bundle b0_0_Path b0_1_Course_School b0_1_Course_Code b0_1_Credits b0_1_Grade b0_1_Day b0_1_Sources b0_1_Bundle b0_1_Path b0_2_Course_School b0_2_Course_Code b0_2_Credits b0_2_Grade b0_2_Day b0_2_Sources b0_2_Bundle b0_2_Path s_Worst s_Best s_Pass k;have h:=qS [(qa.mk (qb.mk left0_Course_School left0_Course_Code) left0_Credits left0_Grade left0_Day left0_Sources left0_Bundle left0_Path),(qa.mk (qb.mk left1_Course_School left1_Course_Code) left1_Credits left1_Grade left1_Day left1_Sources left1_Bundle left1_Path),(qa.mk (qb.mk left2_Course_School left2_Course_Code) left2_Credits left2_Grade left2_Day left2_Sources left2_Bundle left2_Path)] ((qa.mk (qb.mk b0_0_Course_School b0_0_Course_Code) b0_0_Credits b0_0_Grade b0_0_Day b0_0_Sources b0_0_Bundle b0_0_Path)).Course.School ((qa.mk (qb.mk b0_0_Course_School b0_0_Course_Code) b0_0_Credits b0_0_Grade b0_0_Day b0_0_Sources b0_0_Bundle b0_0_Path)).Course.Code ((qa.mk (qb.mk b0_0_Course_School b0_0_Course_Code) b0_0_Credits b0_0_Grade b0_0_Day b0_0_Sources b0_0_Bundle b0_0_Path)).Credits ((qa.mk (qb.mk b0_0_Course_School b0_0_Course_Code) b0_0_Credits b0_0_Grade b0_0_Day b0_0_Sources b0_0_Bundle b0_0_Path)).Grade ((qa.mk (qb.mk b0_0_Course_School b0_0_Course_Code) b0_0_Credits b0_0_Grade b0_0_Day b0_0_Sources b0_0_Bundle b0_0_Path)).Day ((qa.mk (qb.mk b0_0_Course_School b0_0_Course_Code) b0_0_Credits b0_0_Grade b0_0_Day b0_0_Sources b0_0_Bundle b0_0_Path)).Sources ((qa.mk (qb.mk b0_0_Course_School b0_0_Course_Code) b0_0_Credits b0_0_Grade b0_0_Day b0_0_Sources b0_0_Bundle b0_0_Path)).Bundle ((qa.mk (qb.mk b0_0_Course_School b0_0_Course_Code) b0_0_Credits b0_0_Grade b0_0_Day b0_0_Sources b0_0_Bundle b0_0_Path)).Path ((qa.mk (qb.mk b0_1_Course_School b0_1_Course_Code) b0_1_Credits b0_1_Grade b0_1_Day b0_1_Sources b0_1_Bundle b0_1_Path)).Course.School ((qa.mk (qb.mk b0_1_Course_School b0_1_Course_Code) b0_1_Credits b0_1_Grade b0_1_Day b0_1_Sources b0_1_Bundle b0_1_Path)).Course.Code ((qa.mk (qb.mk b0_1_Course_School b0_1_Course_Code) b0_1_Credits b0_1_Grade b0_1_Day b0_1_Sources b0_1_Bundle b0_1_Path)).Credits ((qa.mk (qb.mk b0_1_Course_School b0_1_Course_Code) b0_1_Credits b0_1_Grade b0_1_Day b0_1_Sources b0_1_Bundle b0_1_Path)).Grade ((qa.mk (qb.mk b0_1_Course_School b0_1_Course_Code) b0_1_Credits b0_1_Grade b0_1_Day b0_1_Sources b0_1_Bundle b0_1_Path)).Day ((qa.mk (qb.mk b0_1_Course_School b0_1_Course_Code) b0_1_Credits b0_1_Grade b0_1_Day b0_1_Sources b0_1_Bundle b0_1_Path)).Sources ((qa.mk (qb.mk b0_1_Course_School b0_1_Course_Code) b0_1_Credits b0_1_Grade b0_1_Day b0_1_Sources b0_1_Bundle b0_1_Path)).Bundle ((qa.mk (qb.mk b0_1_Course_School b0_1_Course_Code) b0_1_Credits b0_1_Grade b0_1_Day b0_1_Sources b0_1_Bundle b0_1_Path)).Path ((qa.mk (qb.mk b0_2_Course_School b0_2_Course_Code) b0_2_Credits b0_2_Grade b0_2_Day b0_2_Sources b0_2_Bundle b0_2_Path)).Course.School ((qa.mk (qb.mk b0_2_Course_School b0_2_Course_Code) b0_2_Credits b0_2_Grade b0_2_Day b0_2_Sources b0_2_Bundle b0_2_Path)).Course.Code ((qa.mk (qb.mk b0_2_Course_School b0_2_Course_Code) b0_2_Credits b0_2_Grade b0_2_Day b0_2_Sources b0_2_Bundle b0_2_Path)).Credits ((qa.mk (qb.mk b0_2_Course_School b0_2_Course_Code) b0_2_Credits b0_2_Grade b0_2_Day b0_2_Sources b0_2_Bundle b0_2_Path)).Grade ((qa.mk (qb.mk b0_2_Course_School b0_2_Course_Code) b0_2_Credits b0_2_Grade b0_2_Day b0_2_Sources b0_2_Bundle b0_2_Path)).Day ((qa.mk (qb.mk b0_2_Course_School b0_2_Course_Code) b0_2_Credits b0_2_Grade b0_2_Day b0_2_Sources b0_2_Bundle b0_2_Path)).Sources ((qa.mk (qb.mk b0_2_Course_School b0_2_Course_Code) b0_2_Credits b0_2_Grade b0_2_Day b0_2_Sources b0_2_Bundle b0_2_Path)).Bundle ((qa.mk (qb.mk b0_2_Course_School b0_2_Course_Code) b0_2_Credits b0_2_Grade b0_2_Day b0_2_Sources b0_2_Bundle b0_2_Path)).Path ((qe.mk s_Worst s_Best s_Pass)).Worst ((qe.mk s_Worst s_Best s_Pass)).Best ((qe.mk s_Worst s_Best s_Pass)).Pass k _ rfl
 first
  | exact h
  | (simp only[rL,dL,bR,bZ,Nat.reduceAdd] at h;exact h)
theorem Jb:∀(left0_Course_School:Int) (left0_Course_Code:ByteArray) (left0_Credits left0_Grade left0_Day:Int) (left0_Sources:List Int) (left0_Bundle:Int) (left0_Path:List Int) (left1_Course_School:Int) (left1_Course_Code:ByteArray) (left1_Credits left1_Grade left1_Day:Int) (left1_Sources:List Int) (left1_Bundle:Int) (left1_Path:List Int) (b0_0_Course_School:Int) (b0_0_Course_Code:ByteArray) (b0_0_Credits b0_0_Grade b0_0_Day:Int) (b0_0_Sources:List Int) (b0_0_Bundle:Int) (b0_0_Path:List Int) (b0_1_Course_School:Int) (b0_1_Course_Code:ByteArray) (b0_1_Credits b0_1_Grade b0_1_Day:Int) (b0_1_Sources:List Int) (b0_1_Bundle:Int) (b0_1_Path:List Int) (b0_2_Course_School:Int) (b0_2_Course_Code:ByteArray) (b0_2_Credits b0_2_Grade b0_2_Day:Int) (b0_2_Sources:List Int) (b0_2_Bundle:Int) (b0_2_Path:List Int) (s_Worst s_Best s_Pass k:Int),XL2 evo 11 1 9 ⟨[(6,rP 1),(10,rO 2 8 2),(13,rI k)],[(0,B.blk 52 [dI b0_0_Course_School,dS b0_0_Course_Code,dI b0_0_Credits,dI b0_0_Grade,dI b0_0_Day,dL 1 eI b0_0_Sources,dI b0_0_Bundle,dL 1 eI b0_0_Path,dI b0_1_Course_School,dS b0_1_Course_Code,dI b0_1_Credits,dI b0_1_Grade,dI b0_1_Day,dL 1 eI b0_1_Sources,dI b0_1_Bundle,dL 1 eI b0_1_Path,dI b0_2_Course_School,dS b0_2_Course_Code,dI b0_2_Credits,dI b0_2_Grade,dI b0_2_Day,dL 1 eI b0_2_Sources,dI b0_2_Bundle,dL 1 eI b0_2_Path]),(1,B.blk 30 [dI s_Worst,dI s_Best,dI s_Pass]),(2,B.row 52 8 [dI left0_Course_School,dS left0_Course_Code,dI left0_Credits,dI left0_Grade,dI left0_Day,dL 1 eI left0_Sources,dI left0_Bundle,dL 1 eI left0_Path,dI left1_Course_School,dS left1_Course_Code,dI left1_Credits,dI left1_Grade,dI left1_Day,dL 1 eI left1_Sources,dI left1_Bundle,dL 1 eI left1_Path])],3,53⟩=(qx (qk (qa.mk (qb.mk b0_0_Course_School b0_0_Course_Code) b0_0_Credits b0_0_Grade b0_0_Day b0_0_Sources b0_0_Bundle b0_0_Path) (qa.mk (qb.mk b0_1_Course_School b0_1_Course_Code) b0_1_Credits b0_1_Grade b0_1_Day b0_1_Sources b0_1_Bundle b0_1_Path) (qa.mk (qb.mk b0_2_Course_School b0_2_Course_Code) b0_2_Credits b0_2_Grade b0_2_Day b0_2_Sources b0_2_Bundle b0_2_Path) (qe.mk s_Worst s_Best s_Pass)) ([(qa.mk (qb.mk left0_Course_School left0_Course_Code) left0_Credits left0_Grade left0_Day left0_Sources left0_Bundle left0_Path),(qa.mk (qb.mk left1_Course_School left1_Course_Code) left1_Credits left1_Grade left1_Day left1_Sources left1_Bundle left1_Path)],k)).bind (fun(e:List qa)=>some (Exit.exit 2,⟨[(10,rO 1 8 e.length)],[(0,B.blk 52 [dI b0_0_Course_School,dS b0_0_Course_Code,dI b0_0_Credits,dI b0_0_Grade,dI b0_0_Day,dL 1 eI b0_0_Sources,dI b0_0_Bundle,dL 1 eI b0_0_Path,dI b0_1_Course_School,dS b0_1_Course_Code,dI b0_1_Credits,dI b0_1_Grade,dI b0_1_Day,dL 1 eI b0_1_Sources,dI b0_1_Bundle,dL 1 eI b0_1_Path,dI b0_2_Course_School,dS b0_2_Course_Code,dI b0_2_Credits,dI b0_2_Grade,dI b0_2_Day,dL 1 eI b0_2_Sources,dI b0_2_Bundle,dL 1 eI b0_2_Path]),(1,bR 52 8 qc e)],2,53⟩)):=by
 intro left0_Course_School left0_Course_Code left0_Credits left0_Grade left0_Day left0_Sources left0_Bundle left0_Path left1_Course_School left1_Course_Code left1_Credits left1_Grade left1_Day left1_Sources left1_Bundle left1_Path b0_0_Course_School b0_0_Course_Code b0_0_Credits b0_0_Grade b0_0_Day b0_0_Sources b0_0_Bundle b0_0_Path b0_1_Course_School b0_1_Course_Code b0_1_Credits b0_1_Grade b0_1_Day b0_1_Sources b0_1_Bundle b0_1_Path b0_2_Course_School b0_2_Course_Code b0_2_Credits b0_2_Grade b0_2_Day b0_2_Sources b0_2_Bundle b0_2_Path s_Worst s_Best s_Pass k;have h:=qS [(qa.mk (qb.mk left0_Course_School left0_Course_Code) left0_Credits left0_Grade left0_Day left0_Sources left0_Bundle left0_Path),(qa.mk (qb.mk left1_Course_School left1_Course_Code) left1_Credits left1_Grade left1_Day left1_Sources left1_Bundle left1_Path)] ((qa.mk (qb.mk b0_0_Course_School b0_0_Course_Code) b0_0_Credits b0_0_Grade b0_0_Day b0_0_Sources b0_0_Bundle b0_0_Path)).Course.School ((qa.mk (qb.mk b0_0_Course_School b0_0_Course_Code) b0_0_Credits b0_0_Grade b0_0_Day b0_0_Sources b0_0_Bundle b0_0_Path)).Course.Code ((qa.mk (qb.mk b0_0_Course_School b0_0_Course_Code) b0_0_Credits b0_0_Grade b0_0_Day b0_0_Sources b0_0_Bundle b0_0_Path)).Credits ((qa.mk (qb.mk b0_0_Course_School b0_0_Course_Code) b0_0_Credits b0_0_Grade b0_0_Day b0_0_Sources b0_0_Bundle b0_0_Path)).Grade ((qa.mk (qb.mk b0_0_Course_School b0_0_Course_Code) b0_0_Credits b0_0_Grade b0_0_Day b0_0_Sources b0_0_Bundle b0_0_Path)).Day ((qa.mk (qb.mk b0_0_Course_School b0_0_Course_Code) b0_0_Credits b0_0_Grade b0_0_Day b0_0_Sources b0_0_Bundle b0_0_Path)).Sources ((qa.mk (qb.mk b0_0_Course_School b0_0_Course_Code) b0_0_Credits b0_0_Grade b0_0_Day b0_0_Sources b0_0_Bundle b0_0_Path)).Bundle ((qa.mk (qb.mk b0_0_Course_School b0_0_Course_Code) b0_0_Credits b0_0_Grade b0_0_Day b0_0_Sources b0_0_Bundle b0_0_Path)).Path ((qa.mk (qb.mk b0_1_Course_School b0_1_Course_Code) b0_1_Credits b0_1_Grade b0_1_Day b0_1_Sources b0_1_Bundle b0_1_Path)).Course.School ((qa.mk (qb.mk b0_1_Course_School b0_1_Course_Code) b0_1_Credits b0_1_Grade b0_1_Day b0_1_Sources b0_1_Bundle b0_1_Path)).Course.Code ((qa.mk (qb.mk b0_1_Course_School b0_1_Course_Code) b0_1_Credits b0_1_Grade b0_1_Day b0_1_Sources b0_1_Bundle b0_1_Path)).Credits ((qa.mk (qb.mk b0_1_Course_School b0_1_Course_Code) b0_1_Credits b0_1_Grade b0_1_Day b0_1_Sources b0_1_Bundle b0_1_Path)).Grade ((qa.mk (qb.mk b0_1_Course_School b0_1_Course_Code) b0_1_Credits b0_1_Grade b0_1_Day b0_1_Sources b0_1_Bundle b0_1_Path)).Day ((qa.mk (qb.mk b0_1_Course_School b0_1_Course_Code) b0_1_Credits b0_1_Grade b0_1_Day b0_1_Sources b0_1_Bundle b0_1_Path)).Sources ((qa.mk (qb.mk b0_1_Course_School b0_1_Course_Code) b0_1_Credits b0_1_Grade b0_1_Day b0_1_Sources b0_1_Bundle b0_1_Path)).Bundle ((qa.mk (qb.mk b0_1_Course_School b0_1_Course_Code) b0_1_Credits b0_1_Grade b0_1_Day b0_1_Sources b0_1_Bundle b0_1_Path)).Path ((qa.mk (qb.mk b0_2_Course_School b0_2_Course_Code) b0_2_Credits b0_2_Grade b0_2_Day b0_2_Sources b0_2_Bundle b0_2_Path)).Course.School ((qa.mk (qb.mk b0_2_Course_School b0_2_Course_Code) b0_2_Credits b0_2_Grade b0_2_Day b0_2_Sources b0_2_Bundle b0_2_Path)).Course.Code ((qa.mk (qb.mk b0_2_Course_School b0_2_Course_Code) b0_2_Credits b0_2_Grade b0_2_Day b0_2_Sources b0_2_Bundle b0_2_Path)).Credits ((qa.mk (qb.mk b0_2_Course_School b0_2_Course_Code) b0_2_Credits b0_2_Grade b0_2_Day b0_2_Sources b0_2_Bundle b0_2_Path)).Grade ((qa.mk (qb.mk b0_2_Course_School b0_2_Course_Code) b0_2_Credits b0_2_Grade b0_2_Day b0_2_Sources b0_2_Bundle b0_2_Path)).Day ((qa.mk (qb.mk b0_2_Course_School b0_2_Course_Code) b0_2_Credits b0_2_Grade b0_2_Day b0_2_Sources b0_2_Bundle b0_2_Path)).Sources ((qa.mk (qb.mk b0_2_Course_School b0_2_Course_Code) b0_2_Credits b0_2_Grade b0_2_Day b0_2_Sources b0_2_Bundle b0_2_Path)).Bundle ((qa.mk (qb.mk b0_2_Course_School b0_2_Course_Code) b0_2_Credits b0_2_Grade b0_2_Day b0_2_Sources b0_2_Bundle b0_2_Path)).Path ((qe.mk s_Worst s_Best s_Pass)).Worst ((qe.mk s_Worst s_Best s_Pass)).Best ((qe.mk s_Worst s_Best s_Pass)).Pass k _ rfl
 first
  | exact h
  | (simp only[rL,dL,bR,bZ,Nat.reduceAdd] at h;exact h)
theorem Ja:∀(left0_Course_School:Int) (left0_Course_Code:ByteArray) (left0_Credits left0_Grade left0_Day:Int) (left0_Sources:List Int) (left0_Bundle:Int) (left0_Path:List Int) (b0_0_Course_School:Int) (b0_0_Course_Code:ByteArray) (b0_0_Credits b0_0_Grade b0_0_Day:Int) (b0_0_Sources:List Int) (b0_0_Bundle:Int) (b0_0_Path:List Int) (b0_1_Course_School:Int) (b0_1_Course_Code:ByteArray) (b0_1_Credits b0_1_Grade b0_1_Day:Int) (b0_1_Sources:List Int) (b0_1_Bundle:Int) (b0_1_Path:List Int) (b0_2_Course_School:Int) (b0_2_Course_Code:ByteArray) (b0_2_Credits b0_2_Grade b0_2_Day:Int) (b0_2_Sources:List Int) (b0_2_Bundle:Int) (b0_2_Path:List Int) (s_Worst s_Best s_Pass k:Int),XL2 evo 11 1 9 ⟨[(6,rP 1),(10,rO 2 8 1),(13,rI k)],[(0,B.blk 52 [dI b0_0_Course_School,dS b0_0_Course_Code,dI b0_0_Credits,dI b0_0_Grade,dI b0_0_Day,dL 1 eI b0_0_Sources,dI b0_0_Bundle,dL 1 eI b0_0_Path,dI b0_1_Course_School,dS b0_1_Course_Code,dI b0_1_Credits,dI b0_1_Grade,dI b0_1_Day,dL 1 eI b0_1_Sources,dI b0_1_Bundle,dL 1 eI b0_1_Path,dI b0_2_Course_School,dS b0_2_Course_Code,dI b0_2_Credits,dI b0_2_Grade,dI b0_2_Day,dL 1 eI b0_2_Sources,dI b0_2_Bundle,dL 1 eI b0_2_Path]),(1,B.blk 30 [dI s_Worst,dI s_Best,dI s_Pass]),(2,B.row 52 8 [dI left0_Course_School,dS left0_Course_Code,dI left0_Credits,dI left0_Grade,dI left0_Day,dL 1 eI left0_Sources,dI left0_Bundle,dL 1 eI left0_Path])],3,53⟩=(qx (qk (qa.mk (qb.mk b0_0_Course_School b0_0_Course_Code) b0_0_Credits b0_0_Grade b0_0_Day b0_0_Sources b0_0_Bundle b0_0_Path) (qa.mk (qb.mk b0_1_Course_School b0_1_Course_Code) b0_1_Credits b0_1_Grade b0_1_Day b0_1_Sources b0_1_Bundle b0_1_Path) (qa.mk (qb.mk b0_2_Course_School b0_2_Course_Code) b0_2_Credits b0_2_Grade b0_2_Day b0_2_Sources b0_2_Bundle b0_2_Path) (qe.mk s_Worst s_Best s_Pass)) ([(qa.mk (qb.mk left0_Course_School left0_Course_Code) left0_Credits left0_Grade left0_Day left0_Sources left0_Bundle left0_Path)],k)).bind (fun(e:List qa)=>some (Exit.exit 2,⟨[(10,rO 1 8 e.length)],[(0,B.blk 52 [dI b0_0_Course_School,dS b0_0_Course_Code,dI b0_0_Credits,dI b0_0_Grade,dI b0_0_Day,dL 1 eI b0_0_Sources,dI b0_0_Bundle,dL 1 eI b0_0_Path,dI b0_1_Course_School,dS b0_1_Course_Code,dI b0_1_Credits,dI b0_1_Grade,dI b0_1_Day,dL 1 eI b0_1_Sources,dI b0_1_Bundle,dL 1 eI b0_1_Path,dI b0_2_Course_School,dS b0_2_Course_Code,dI b0_2_Credits,dI b0_2_Grade,dI b0_2_Day,dL 1 eI b0_2_Sources,dI b0_2_Bundle,dL 1 eI b0_2_Path]),(1,bR 52 8 qc e)],2,53⟩)):=by
 intro left0_Course_School left0_Course_Code left0_Credits left0_Grade left0_Day left0_Sources left0_Bundle left0_Path b0_0_Course_School b0_0_Course_Code b0_0_Credits b0_0_Grade b0_0_Day b0_0_Sources b0_0_Bundle b0_0_Path b0_1_Course_School b0_1_Course_Code b0_1_Credits b0_1_Grade b0_1_Day b0_1_Sources b0_1_Bundle b0_1_Path b0_2_Course_School b0_2_Course_Code b0_2_Credits b0_2_Grade b0_2_Day b0_2_Sources b0_2_Bundle b0_2_Path s_Worst s_Best s_Pass k;have h:=qS [(qa.mk (qb.mk left0_Course_School left0_Course_Code) left0_Credits left0_Grade left0_Day left0_Sources left0_Bundle left0_Path)] ((qa.mk (qb.mk b0_0_Course_School b0_0_Course_Code) b0_0_Credits b0_0_Grade b0_0_Day b0_0_Sources b0_0_Bundle b0_0_Path)).Course.School ((qa.mk (qb.mk b0_0_Course_School b0_0_Course_Code) b0_0_Credits b0_0_Grade b0_0_Day b0_0_Sources b0_0_Bundle b0_0_Path)).Course.Code ((qa.mk (qb.mk b0_0_Course_School b0_0_Course_Code) b0_0_Credits b0_0_Grade b0_0_Day b0_0_Sources b0_0_Bundle b0_0_Path)).Credits ((qa.mk (qb.mk b0_0_Course_School b0_0_Course_Code) b0_0_Credits b0_0_Grade b0_0_Day b0_0_Sources b0_0_Bundle b0_0_Path)).Grade ((qa.mk (qb.mk b0_0_Course_School b0_0_Course_Code) b0_0_Credits b0_0_Grade b0_0_Day b0_0_Sources b0_0_Bundle b0_0_Path)).Day ((qa.mk (qb.mk b0_0_Course_School b0_0_Course_Code) b0_0_Credits b0_0_Grade b0_0_Day b0_0_Sources b0_0_Bundle b0_0_Path)).Sources ((qa.mk (qb.mk b0_0_Course_School b0_0_Course_Code) b0_0_Credits b0_0_Grade b0_0_Day b0_0_Sources b0_0_Bundle b0_0_Path)).Bundle ((qa.mk (qb.mk b0_0_Course_School b0_0_Course_Code) b0_0_Credits b0_0_Grade b0_0_Day b0_0_Sources b0_0_Bundle b0_0_Path)).Path ((qa.mk (qb.mk b0_1_Course_School b0_1_Course_Code) b0_1_Credits b0_1_Grade b0_1_Day b0_1_Sources b0_1_Bundle b0_1_Path)).Course.School ((qa.mk (qb.mk b0_1_Course_School b0_1_Course_Code) b0_1_Credits b0_1_Grade b0_1_Day b0_1_Sources b0_1_Bundle b0_1_Path)).Course.Code ((qa.mk (qb.mk b0_1_Course_School b0_1_Course_Code) b0_1_Credits b0_1_Grade b0_1_Day b0_1_Sources b0_1_Bundle b0_1_Path)).Credits ((qa.mk (qb.mk b0_1_Course_School b0_1_Course_Code) b0_1_Credits b0_1_Grade b0_1_Day b0_1_Sources b0_1_Bundle b0_1_Path)).Grade ((qa.mk (qb.mk b0_1_Course_School b0_1_Course_Code) b0_1_Credits b0_1_Grade b0_1_Day b0_1_Sources b0_1_Bundle b0_1_Path)).Day ((qa.mk (qb.mk b0_1_Course_School b0_1_Course_Code) b0_1_Credits b0_1_Grade b0_1_Day b0_1_Sources b0_1_Bundle b0_1_Path)).Sources ((qa.mk (qb.mk b0_1_Course_School b0_1_Course_Code) b0_1_Credits b0_1_Grade b0_1_Day b0_1_Sources b0_1_Bundle b0_1_Path)).Bundle ((qa.mk (qb.mk b0_1_Course_School b0_1_Course_Code) b0_1_Credits b0_1_Grade b0_1_Day b0_1_Sources b0_1_Bundle b0_1_Path)).Path ((qa.mk (qb.mk b0_2_Course_School b0_2_Course_Code) b0_2_Credits b0_2_Grade b0_2_Day b0_2_Sources b0_2_Bundle b0_2_Path)).Course.School ((qa.mk (qb.mk b0_2_Course_School b0_2_Course_Code) b0_2_Credits b0_2_Grade b0_2_Day b0_2_Sources b0_2_Bundle b0_2_Path)).Course.Code ((qa.mk (qb.mk b0_2_Course_School b0_2_Course_Code) b0_2_Credits b0_2_Grade b0_2_Day b0_2_Sources b0_2_Bundle b0_2_Path)).Credits ((qa.mk (qb.mk b0_2_Course_School b0_2_Course_Code) b0_2_Credits b0_2_Grade b0_2_Day b0_2_Sources b0_2_Bundle b0_2_Path)).Grade ((qa.mk (qb.mk b0_2_Course_School b0_2_Course_Code) b0_2_Credits b0_2_Grade b0_2_Day b0_2_Sources b0_2_Bundle b0_2_Path)).Day ((qa.mk (qb.mk b0_2_Course_School b0_2_Course_Code) b0_2_Credits b0_2_Grade b0_2_Day b0_2_Sources b0_2_Bundle b0_2_Path)).Sources ((qa.mk (qb.mk b0_2_Course_School b0_2_Course_Code) b0_2_Credits b0_2_Grade b0_2_Day b0_2_Sources b0_2_Bundle b0_2_Path)).Bundle ((qa.mk (qb.mk b0_2_Course_School b0_2_Course_Code) b0_2_Credits b0_2_Grade b0_2_Day b0_2_Sources b0_2_Bundle b0_2_Path)).Path ((qe.mk s_Worst s_Best s_Pass)).Worst ((qe.mk s_Worst s_Best s_Pass)).Best ((qe.mk s_Worst s_Best s_Pass)).Pass k _ rfl
 first
  | exact h
  | (simp only[rL,dL,bR,bZ,Nat.reduceAdd] at h;exact h)
def Qf (l_n:Nat) (p:qg) (s:qe) (day:Int) (l_0:qa) (l_1:qa) (l_2:qa):Option (List qa×Int):=if 0<((l_n:Nat):Int) then if 0<((l_n:Nat):Int) then Option.bind (qG p l_0 day) fun(a:Bool)=>if(!a)=Bool.true then Option.bind (qv l_0) fun(a2:Unit)=>if 1≤maxLen then if 1<((l_n:Nat):Int) then if 1<((l_n:Nat):Int) then Option.bind (qG p l_1 day) fun(a3:Bool)=>if(!a3)=Bool.true then Option.bind (qv l_1) fun(a4:Unit)=>if 2≤maxLen then if 2<((l_n:Nat):Int) then if 2<((l_n:Nat):Int) then Option.bind (qG p l_2 day) fun(a5:Bool)=>if(!a5)=Bool.true then Option.bind (qv l_2) fun(a6:Unit)=>if 3≤maxLen then if 3<((l_n:Nat):Int) then none else Option.bind (qx (qk l_0 l_1 l_2 s) ([l_0,l_1,l_2],2)) fun(a7:List qa)=>if 10<((a7.length:Nat):Int) then some ([],2) else some (a7,0) else none else if 3<((l_n:Nat):Int) then none else Option.bind (qx (qk l_0 l_1 l_2 s) ([l_0,l_1],1)) fun(a8:List qa)=>if 10<((a8.length:Nat):Int) then some ([],2) else some (a8,0) else none else Option.bind (qx (qk l_0 l_1 l_2 s) ([l_0,l_1],1)) fun(a9:List qa)=>if 10<((a9.length:Nat):Int) then some ([],2) else some (a9,0) else none else if 2<((l_n:Nat):Int) then if 2<((l_n:Nat):Int) then Option.bind (qG p l_2 day) fun(a10:Bool)=>if(!a10)=Bool.true then Option.bind (qv l_2) fun(a11:Unit)=>if 2≤maxLen then if 3<((l_n:Nat):Int) then none else Option.bind (qx (qk l_0 l_1 l_2 s) ([l_0,l_2],1)) fun(a12:List qa)=>if 10<((a12.length:Nat):Int) then some ([],2) else some (a12,0) else none else if 3<((l_n:Nat):Int) then none else Option.bind (qx (qk l_0 l_1 l_2 s) ([l_0],0)) fun(a13:List qa)=>if 10<((a13.length:Nat):Int) then some ([],2) else some (a13,0) else none else Option.bind (qx (qk l_0 l_1 l_2 s) ([l_0],0)) fun(a14:List qa)=>if 10<((a14.length:Nat):Int) then some ([],2) else some (a14,0) else none else Option.bind (qx (qk l_0 l_1 l_2 s) ([l_0],0)) fun(a15:List qa)=>if 10<((a15.length:Nat):Int) then some ([],2) else some (a15,0) else none else if 1<((l_n:Nat):Int) then if 1<((l_n:Nat):Int) then Option.bind (qG p l_1 day) fun(a16:Bool)=>if(!a16)=Bool.true then Option.bind (qv l_1) fun(a17:Unit)=>if 1≤maxLen then if 2<((l_n:Nat):Int) then if 2<((l_n:Nat):Int) then Option.bind (qG p l_2 day) fun(a18:Bool)=>if(!a18)=Bool.true then Option.bind (qv l_2) fun(a19:Unit)=>if 2≤maxLen then if 3<((l_n:Nat):Int) then none else Option.bind (qx (qk l_0 l_1 l_2 s) ([l_1,l_2],1)) fun(a20:List qa)=>if 10<((a20.length:Nat):Int) then some ([],2) else some (a20,0) else none else if 3<((l_n:Nat):Int) then none else Option.bind (qx (qk l_0 l_1 l_2 s) ([l_1],0)) fun(a21:List qa)=>if 10<((a21.length:Nat):Int) then some ([],2) else some (a21,0) else none else Option.bind (qx (qk l_0 l_1 l_2 s) ([l_1],0)) fun(a22:List qa)=>if 10<((a22.length:Nat):Int) then some ([],2) else some (a22,0) else none else if 2<((l_n:Nat):Int) then if 2<((l_n:Nat):Int) then Option.bind (qG p l_2 day) fun(a23:Bool)=>if(!a23)=Bool.true then Option.bind (qv l_2) fun(a24:Unit)=>if 1≤maxLen then if 3<((l_n:Nat):Int) then none else Option.bind (qx (qk l_0 l_1 l_2 s) ([l_2],0)) fun(a25:List qa)=>if 10<((a25.length:Nat):Int) then some ([],2) else some (a25,0) else none else if 3<((l_n:Nat):Int) then none else Option.bind (qx (qk l_0 l_1 l_2 s) ([],(-1))) fun(a26:List qa)=>if 10<((a26.length:Nat):Int) then some ([],2) else some (a26,0) else none else Option.bind (qx (qk l_0 l_1 l_2 s) ([],(-1))) fun(a27:List qa)=>if 10<((a27.length:Nat):Int) then some ([],2) else some (a27,0) else none else Option.bind (qx (qk l_0 l_1 l_2 s) ([],(-1))) fun(a28:List qa)=>if 10<((a28.length:Nat):Int) then some ([],2) else some (a28,0) else none else Option.bind (qx (qk l_0 l_1 l_2 s) ([],(-1))) fun(a29:List qa)=>if 10<((a29.length:Nat):Int) then some ([],2) else some (a29,0)
theorem q1q:∀(l_n:Nat) (p_School p_Id p_Version p_From:Int) (p_Name:ByteArray) (p_Need_Kind p_Need_N p_Need_Min:Int) (p_Need_Set:List qb) (p_Need_L:List qh) (p_Total p_Own p_Age:Int) (p_Exclude:List (QT qb)) (s_Worst s_Best s_Pass day l_0_Course_School:Int) (l_0_Course_Code:ByteArray) (l_0_Credits l_0_Grade l_0_Day:Int) (l_0_Sources:List Int) (l_0_Bundle:Int) (l_0_Path:List Int) (l_1_Course_School:Int) (l_1_Course_Code:ByteArray) (l_1_Credits l_1_Grade l_1_Day:Int) (l_1_Sources:List Int) (l_1_Bundle:Int) (l_1_Path:List Int) (l_2_Course_School:Int) (l_2_Course_Code:ByteArray) (l_2_Credits l_2_Grade l_2_Day:Int) (l_2_Sources:List Int) (l_2_Bundle:Int) (l_2_Path:List Int),ev 11 1 [rO 0 8 l_n,R.agg [dI p_School,dI p_Id,dI p_Version,dI p_From,dS p_Name,dI p_Need_Kind,dI p_Need_N,dI p_Need_Min,dL 2 qj p_Need_Set,dL 5 qq p_Need_L,dI p_Total,dI p_Own,dI p_Age,dL 4 (eA2 qj) p_Exclude],R.agg [dI s_Worst,dI s_Best,dI s_Pass],rI day] [(0,B.blk 52 [dI l_0_Course_School,dS l_0_Course_Code,dI l_0_Credits,dI l_0_Grade,dI l_0_Day,dL 1 eI l_0_Sources,dI l_0_Bundle,dL 1 eI l_0_Path,dI l_1_Course_School,dS l_1_Course_Code,dI l_1_Credits,dI l_1_Grade,dI l_1_Day,dL 1 eI l_1_Sources,dI l_1_Bundle,dL 1 eI l_1_Path,dI l_2_Course_School,dS l_2_Course_Code,dI l_2_Credits,dI l_2_Grade,dI l_2_Day,dL 1 eI l_2_Sources,dI l_2_Bundle,dL 1 eI l_2_Path])]=(Qf l_n (qg.mk p_School p_Id p_Version p_From p_Name (qh.mk p_Need_Kind p_Need_N p_Need_Min p_Need_Set p_Need_L) p_Total p_Own p_Age p_Exclude) (qe.mk s_Worst s_Best s_Pass) day (qa.mk (qb.mk l_0_Course_School l_0_Course_Code) l_0_Credits l_0_Grade l_0_Day l_0_Sources l_0_Bundle l_0_Path) (qa.mk (qb.mk l_1_Course_School l_1_Course_Code) l_1_Credits l_1_Grade l_1_Day l_1_Sources l_1_Bundle l_1_Path) (qa.mk (qb.mk l_2_Course_School l_2_Course_Code) l_2_Credits l_2_Grade l_2_Day l_2_Sources l_2_Bundle l_2_Path)).bind (fun(e:List qa×Int)=>some (R.tup [rL 8 qc e.1,rI e.2],[(0,B.blk 52 [dI l_0_Course_School,dS l_0_Course_Code,dI l_0_Credits,dI l_0_Grade,dI l_0_Day,dL 1 eI l_0_Sources,dI l_0_Bundle,dL 1 eI l_0_Path,dI l_1_Course_School,dS l_1_Course_Code,dI l_1_Credits,dI l_1_Grade,dI l_1_Day,dL 1 eI l_1_Sources,dI l_1_Bundle,dL 1 eI l_1_Path,dI l_2_Course_School,dS l_2_Course_Code,dI l_2_Credits,dI l_2_Grade,dI l_2_Day,dL 1 eI l_2_Sources,dI l_2_Bundle,dL 1 eI l_2_Path])])):=
 fun l_n p_School p_Id p_Version p_From p_Name p_Need_Kind p_Need_N p_Need_Min p_Need_Set p_Need_L p_Total p_Own p_Age p_Exclude s_Worst s_Best s_Pass day l_0_Course_School l_0_Course_Code l_0_Credits l_0_Grade l_0_Day l_0_Sources l_0_Bundle l_0_Path l_1_Course_School l_1_Course_Code l_1_Credits l_1_Grade l_1_Day l_1_Sources l_1_Bundle l_1_Path l_2_Course_School l_2_Course_Code l_2_Credits l_2_Grade l_2_Day l_2_Sources l_2_Bundle l_2_Path=>by
  rw[qD qkU qrG.2.2.2 qqn]
  have:=qpR;have:=@q0y;have:=@Jf;have:=@Jo;have:=@Jd;have:=@J7;have:=@J9;have:=@Qf.eq_1;have:=fun(E:Orc) (k:Nat) (s:S)=>q7M (E:=E) (k:=k) (s:=s) qhy qgZ;have:=@q8q.eq_1;have:=@q4z;have:=@q7b;have:=@qdV;have:=@q88;have:=@qdU;have:=@q8d;have:=@qdN;exact gA
theorem q0b:∀(p_School p_Id p_Version p_From:Int) (p_Name:ByteArray) (p_Need_Kind p_Need_N p_Need_Min p_Total p_Own p_Age l_0_Course_School:Int) (l_0_Course_Code:ByteArray) (l_0_Credits l_0_Grade l_0_Day l_0_Sources0 l_0_Bundle l_1_Course_School:Int) (l_1_Course_Code:ByteArray) (l_1_Credits l_1_Grade l_1_Day l_1_Sources0 l_1_Bundle l_2_Course_School:Int) (l_2_Course_Code:ByteArray) (l_2_Credits l_2_Grade l_2_Day l_2_Sources0 l_2_Bundle:Int) (l_n:Nat) (s_Worst s_Best s_Pass day:Int),ev 11 1 [rO 0 8 l_n,R.agg [dI p_School,dI p_Id,dI p_Version,dI p_From,dS p_Name,dI p_Need_Kind,dI p_Need_N,dI p_Need_Min,C.d (D.sl 2 0 []),C.d (D.sl 5 0 []),dI p_Total,dI p_Own,dI p_Age,C.d (D.sl 4 0 [])],R.agg [dI s_Worst,dI s_Best,dI s_Pass],rI day] [(0,B.blk 52 [dI l_0_Course_School,dS l_0_Course_Code,dI l_0_Credits,dI l_0_Grade,dI l_0_Day,C.d (D.sl 1 1 [D.int .i64 l_0_Sources0]),dI l_0_Bundle,C.d (D.sl 1 0 []),dI l_1_Course_School,dS l_1_Course_Code,dI l_1_Credits,dI l_1_Grade,dI l_1_Day,C.d (D.sl 1 1 [D.int .i64 l_1_Sources0]),dI l_1_Bundle,C.d (D.sl 1 0 []),dI l_2_Course_School,dS l_2_Course_Code,dI l_2_Credits,dI l_2_Grade,dI l_2_Day,C.d (D.sl 1 1 [D.int .i64 l_2_Sources0]),dI l_2_Bundle,C.d (D.sl 1 0 [])])]=(Qf l_n (qg.mk p_School p_Id p_Version p_From p_Name (qh.mk p_Need_Kind p_Need_N p_Need_Min [] []) p_Total p_Own p_Age []) (qe.mk s_Worst s_Best s_Pass) day (qa.mk (qb.mk l_0_Course_School l_0_Course_Code) l_0_Credits l_0_Grade l_0_Day [l_0_Sources0] l_0_Bundle []) (qa.mk (qb.mk l_1_Course_School l_1_Course_Code) l_1_Credits l_1_Grade l_1_Day [l_1_Sources0] l_1_Bundle []) (qa.mk (qb.mk l_2_Course_School l_2_Course_Code) l_2_Credits l_2_Grade l_2_Day [l_2_Sources0] l_2_Bundle [])).bind (fun(e:List qa×Int)=>some (R.tup [rL 8 qc e.1,rI e.2],[(0,B.blk 52 [dI l_0_Course_School,dS l_0_Course_Code,dI l_0_Credits,dI l_0_Grade,dI l_0_Day,C.d (D.sl 1 [l_0_Sources0].length ([l_0_Sources0].flatMap eI)),dI l_0_Bundle,C.d (D.sl 1 ([]:List Int).length (([]:List Int).flatMap eI)),dI l_1_Course_School,dS l_1_Course_Code,dI l_1_Credits,dI l_1_Grade,dI l_1_Day,C.d (D.sl 1 [l_1_Sources0].length ([l_1_Sources0].flatMap eI)),dI l_1_Bundle,C.d (D.sl 1 ([]:List Int).length (([]:List Int).flatMap eI)),dI l_2_Course_School,dS l_2_Course_Code,dI l_2_Credits,dI l_2_Grade,dI l_2_Day,C.d (D.sl 1 [l_2_Sources0].length ([l_2_Sources0].flatMap eI)),dI l_2_Bundle,C.d (D.sl 1 ([]:List Int).length (([]:List Int).flatMap eI))])])):=by
 intro p_School p_Id p_Version p_From p_Name p_Need_Kind p_Need_N p_Need_Min p_Total p_Own p_Age l_0_Course_School l_0_Course_Code l_0_Credits l_0_Grade l_0_Day l_0_Sources0 l_0_Bundle l_1_Course_School l_1_Course_Code l_1_Credits l_1_Grade l_1_Day l_1_Sources0 l_1_Bundle l_2_Course_School l_2_Course_Code l_2_Credits l_2_Grade l_2_Day l_2_Sources0 l_2_Bundle l_n s_Worst s_Best s_Pass day;have h:=q1q l_n ((qg.mk p_School p_Id p_Version p_From p_Name (qh.mk p_Need_Kind p_Need_N p_Need_Min [] []) p_Total p_Own p_Age [])).School ((qg.mk p_School p_Id p_Version p_From p_Name (qh.mk p_Need_Kind p_Need_N p_Need_Min [] []) p_Total p_Own p_Age [])).Id ((qg.mk p_School p_Id p_Version p_From p_Name (qh.mk p_Need_Kind p_Need_N p_Need_Min [] []) p_Total p_Own p_Age [])).Version ((qg.mk p_School p_Id p_Version p_From p_Name (qh.mk p_Need_Kind p_Need_N p_Need_Min [] []) p_Total p_Own p_Age [])).From ((qg.mk p_School p_Id p_Version p_From p_Name (qh.mk p_Need_Kind p_Need_N p_Need_Min [] []) p_Total p_Own p_Age [])).Name ((qg.mk p_School p_Id p_Version p_From p_Name (qh.mk p_Need_Kind p_Need_N p_Need_Min [] []) p_Total p_Own p_Age [])).Need.Kind ((qg.mk p_School p_Id p_Version p_From p_Name (qh.mk p_Need_Kind p_Need_N p_Need_Min [] []) p_Total p_Own p_Age [])).Need.N ((qg.mk p_School p_Id p_Version p_From p_Name (qh.mk p_Need_Kind p_Need_N p_Need_Min [] []) p_Total p_Own p_Age [])).Need.Min ((qg.mk p_School p_Id p_Version p_From p_Name (qh.mk p_Need_Kind p_Need_N p_Need_Min [] []) p_Total p_Own p_Age [])).Need.Set ((qg.mk p_School p_Id p_Version p_From p_Name (qh.mk p_Need_Kind p_Need_N p_Need_Min [] []) p_Total p_Own p_Age [])).Need.L ((qg.mk p_School p_Id p_Version p_From p_Name (qh.mk p_Need_Kind p_Need_N p_Need_Min [] []) p_Total p_Own p_Age [])).Total ((qg.mk p_School p_Id p_Version p_From p_Name (qh.mk p_Need_Kind p_Need_N p_Need_Min [] []) p_Total p_Own p_Age [])).Own ((qg.mk p_School p_Id p_Version p_From p_Name (qh.mk p_Need_Kind p_Need_N p_Need_Min [] []) p_Total p_Own p_Age [])).Age ((qg.mk p_School p_Id p_Version p_From p_Name (qh.mk p_Need_Kind p_Need_N p_Need_Min [] []) p_Total p_Own p_Age [])).Exclude ((qe.mk s_Worst s_Best s_Pass)).Worst ((qe.mk s_Worst s_Best s_Pass)).Best ((qe.mk s_Worst s_Best s_Pass)).Pass day ((qa.mk (qb.mk l_0_Course_School l_0_Course_Code) l_0_Credits l_0_Grade l_0_Day [l_0_Sources0] l_0_Bundle [])).Course.School ((qa.mk (qb.mk l_0_Course_School l_0_Course_Code) l_0_Credits l_0_Grade l_0_Day [l_0_Sources0] l_0_Bundle [])).Course.Code ((qa.mk (qb.mk l_0_Course_School l_0_Course_Code) l_0_Credits l_0_Grade l_0_Day [l_0_Sources0] l_0_Bundle [])).Credits ((qa.mk (qb.mk l_0_Course_School l_0_Course_Code) l_0_Credits l_0_Grade l_0_Day [l_0_Sources0] l_0_Bundle [])).Grade ((qa.mk (qb.mk l_0_Course_School l_0_Course_Code) l_0_Credits l_0_Grade l_0_Day [l_0_Sources0] l_0_Bundle [])).Day ((qa.mk (qb.mk l_0_Course_School l_0_Course_Code) l_0_Credits l_0_Grade l_0_Day [l_0_Sources0] l_0_Bundle [])).Sources ((qa.mk (qb.mk l_0_Course_School l_0_Course_Code) l_0_Credits l_0_Grade l_0_Day [l_0_Sources0] l_0_Bundle [])).Bundle ((qa.mk (qb.mk l_0_Course_School l_0_Course_Code) l_0_Credits l_0_Grade l_0_Day [l_0_Sources0] l_0_Bundle [])).Path ((qa.mk (qb.mk l_1_Course_School l_1_Course_Code) l_1_Credits l_1_Grade l_1_Day [l_1_Sources0] l_1_Bundle [])).Course.School ((qa.mk (qb.mk l_1_Course_School l_1_Course_Code) l_1_Credits l_1_Grade l_1_Day [l_1_Sources0] l_1_Bundle [])).Course.Code ((qa.mk (qb.mk l_1_Course_School l_1_Course_Code) l_1_Credits l_1_Grade l_1_Day [l_1_Sources0] l_1_Bundle [])).Credits ((qa.mk (qb.mk l_1_Course_School l_1_Course_Code) l_1_Credits l_1_Grade l_1_Day [l_1_Sources0] l_1_Bundle [])).Grade ((qa.mk (qb.mk l_1_Course_School l_1_Course_Code) l_1_Credits l_1_Grade l_1_Day [l_1_Sources0] l_1_Bundle [])).Day ((qa.mk (qb.mk l_1_Course_School l_1_Course_Code) l_1_Credits l_1_Grade l_1_Day [l_1_Sources0] l_1_Bundle [])).Sources ((qa.mk (qb.mk l_1_Course_School l_1_Course_Code) l_1_Credits l_1_Grade l_1_Day [l_1_Sources0] l_1_Bundle [])).Bundle ((qa.mk (qb.mk l_1_Course_School l_1_Course_Code) l_1_Credits l_1_Grade l_1_Day [l_1_Sources0] l_1_Bundle [])).Path ((qa.mk (qb.mk l_2_Course_School l_2_Course_Code) l_2_Credits l_2_Grade l_2_Day [l_2_Sources0] l_2_Bundle [])).Course.School ((qa.mk (qb.mk l_2_Course_School l_2_Course_Code) l_2_Credits l_2_Grade l_2_Day [l_2_Sources0] l_2_Bundle [])).Course.Code ((qa.mk (qb.mk l_2_Course_School l_2_Course_Code) l_2_Credits l_2_Grade l_2_Day [l_2_Sources0] l_2_Bundle [])).Credits ((qa.mk (qb.mk l_2_Course_School l_2_Course_Code) l_2_Credits l_2_Grade l_2_Day [l_2_Sources0] l_2_Bundle [])).Grade ((qa.mk (qb.mk l_2_Course_School l_2_Course_Code) l_2_Credits l_2_Grade l_2_Day [l_2_Sources0] l_2_Bundle [])).Day ((qa.mk (qb.mk l_2_Course_School l_2_Course_Code) l_2_Credits l_2_Grade l_2_Day [l_2_Sources0] l_2_Bundle [])).Sources ((qa.mk (qb.mk l_2_Course_School l_2_Course_Code) l_2_Credits l_2_Grade l_2_Day [l_2_Sources0] l_2_Bundle [])).Bundle ((qa.mk (qb.mk l_2_Course_School l_2_Course_Code) l_2_Credits l_2_Grade l_2_Day [l_2_Sources0] l_2_Bundle [])).Path
 first
  | exact h
  | (simp only[rL,dL,bR,bZ,Nat.reduceAdd] at h;exact h)
def qp (w1:List Int) (b0_0:qa) (b0_1:qa) (b0_2_Course_School:Int) (b0_2_Course_Code:ByteArray) (b0_2_Credits:Int) (b0_2_Grade:Int) (b0_2_Day:Int) (b0_2_Bundle:Int) (b0_2_Path:List Int) (s:qe):(List qa×Int)→Option ((List qa×Int)⊕(List qa))|(left,k)=>if 0≤k then Option.bind (Q7 left s k) fun(a:Bool)=>if a=Bool.true then Option.bind (qm k (w64 (k+1)) left) fun(a2:List qa)=>some (Sum.inl (a2,w64 (((a2.length:Nat):Int)-1))) else some (Sum.inl (left,w64 (k-1))) else some (Sum.inr left)
theorem QB:∀(w1:List Int) (left:List qa) (b0_0_Course_School:Int) (b0_0_Course_Code:ByteArray) (b0_0_Credits b0_0_Grade b0_0_Day:Int) (b0_0_Sources:List Int) (b0_0_Bundle:Int) (b0_0_Path:List Int) (b0_1_Course_School:Int) (b0_1_Course_Code:ByteArray) (b0_1_Credits b0_1_Grade b0_1_Day:Int) (b0_1_Sources:List Int) (b0_1_Bundle:Int) (b0_1_Path:List Int) (b0_2_Course_School:Int) (b0_2_Course_Code:ByteArray) (b0_2_Credits b0_2_Grade b0_2_Day b0_2_Bundle:Int) (b0_2_Path:List Int) (s_Worst s_Best s_Pass k:Int) (left_len w1_len:Nat),left_len=left.length→w1_len=w1.length→XL2 evo 11 1 9 ⟨[(6,rP 2),(10,rO 3 8 left_len),(13,rI k)],[(0,B.blk 52 [dI b0_0_Course_School,dS b0_0_Course_Code,dI b0_0_Credits,dI b0_0_Grade,dI b0_0_Day,dL 1 eI b0_0_Sources,dI b0_0_Bundle,dL 1 eI b0_0_Path,dI b0_1_Course_School,dS b0_1_Course_Code,dI b0_1_Credits,dI b0_1_Grade,dI b0_1_Day,dL 1 eI b0_1_Sources,dI b0_1_Bundle,dL 1 eI b0_1_Path,dI b0_2_Course_School,dS b0_2_Course_Code,dI b0_2_Credits,dI b0_2_Grade,dI b0_2_Day,dO 1 1 w1_len,dI b0_2_Bundle,dL 1 eI b0_2_Path]),(1,bR 3 1 eI w1),(2,B.blk 30 [dI s_Worst,dI s_Best,dI s_Pass]),(3,bR 52 8 qc left)],4,53⟩=(qx (qp w1 (qa.mk (qb.mk b0_0_Course_School b0_0_Course_Code) b0_0_Credits b0_0_Grade b0_0_Day b0_0_Sources b0_0_Bundle b0_0_Path) (qa.mk (qb.mk b0_1_Course_School b0_1_Course_Code) b0_1_Credits b0_1_Grade b0_1_Day b0_1_Sources b0_1_Bundle b0_1_Path) b0_2_Course_School b0_2_Course_Code b0_2_Credits b0_2_Grade b0_2_Day b0_2_Bundle b0_2_Path (qe.mk s_Worst s_Best s_Pass)) (left,k)).bind (fun(e:List qa)=>some (Exit.exit 2,⟨[(10,rO 2 8 e.length)],[(0,B.blk 52 [dI b0_0_Course_School,dS b0_0_Course_Code,dI b0_0_Credits,dI b0_0_Grade,dI b0_0_Day,dL 1 eI b0_0_Sources,dI b0_0_Bundle,dL 1 eI b0_0_Path,dI b0_1_Course_School,dS b0_1_Course_Code,dI b0_1_Credits,dI b0_1_Grade,dI b0_1_Day,dL 1 eI b0_1_Sources,dI b0_1_Bundle,dL 1 eI b0_1_Path,dI b0_2_Course_School,dS b0_2_Course_Code,dI b0_2_Credits,dI b0_2_Grade,dI b0_2_Day,dO 1 1 w1.length,dI b0_2_Bundle,dL 1 eI b0_2_Path]),(1,bR 3 1 eI w1),(2,bR 52 8 qc e)],3,53⟩)):=
 by
 intro w1 left b0_0_Course_School b0_0_Course_Code b0_0_Credits b0_0_Grade b0_0_Day b0_0_Sources b0_0_Bundle b0_0_Path b0_1_Course_School b0_1_Course_Code b0_1_Credits b0_1_Grade b0_1_Day b0_1_Sources b0_1_Bundle b0_1_Path b0_2_Course_School b0_2_Course_Code b0_2_Credits b0_2_Grade b0_2_Day b0_2_Bundle b0_2_Path s_Worst s_Best s_Pass k left_len w1_len h0 h1
 subst h0 h1
 revert k;revert left;exact q6H qh1 qh6 (fun e=>by exact⟨_,rfl,fun h=>by cases h⟩) fun left k=>by
  have:=qpR;have:=@q8o.eq_1;have:=@J4;have:=@qV;have:=@qp.eq_1;exact gA
theorem Jc:∀  (w1:List Int) (b0_0_Course_School:Int) (b0_0_Course_Code:ByteArray) (b0_0_Credits b0_0_Grade b0_0_Day:Int) (b0_0_Sources:List Int) (b0_0_Bundle:Int) (b0_0_Path:List Int) (b0_1_Course_School:Int) (b0_1_Course_Code:ByteArray) (b0_1_Credits b0_1_Grade b0_1_Day:Int) (b0_1_Sources:List Int) (b0_1_Bundle:Int) (b0_1_Path:List Int) (b0_2_Course_School:Int) (b0_2_Course_Code:ByteArray) (b0_2_Credits b0_2_Grade b0_2_Day b0_2_Bundle:Int) (b0_2_Path:List Int) (s_Worst s_Best s_Pass k:Int) (w1_len:Nat),w1_len=w1.length→XL2 evo 11 1 9 ⟨[(6,rP 2),(10,rO 3 8 0),(13,rI k)],[(0,B.blk 52 [dI b0_0_Course_School,dS b0_0_Course_Code,dI b0_0_Credits,dI b0_0_Grade,dI b0_0_Day,dL 1 eI b0_0_Sources,dI b0_0_Bundle,dL 1 eI b0_0_Path,dI b0_1_Course_School,dS b0_1_Course_Code,dI b0_1_Credits,dI b0_1_Grade,dI b0_1_Day,dL 1 eI b0_1_Sources,dI b0_1_Bundle,dL 1 eI b0_1_Path,dI b0_2_Course_School,dS b0_2_Course_Code,dI b0_2_Credits,dI b0_2_Grade,dI b0_2_Day,dO 1 1 w1_len,dI b0_2_Bundle,dL 1 eI b0_2_Path]),(1,bR 3 1 eI w1),(2,B.blk 30 [dI s_Worst,dI s_Best,dI s_Pass]),(3,B.row 52 8 [])],4,53⟩=(qx (qp w1 (qa.mk (qb.mk b0_0_Course_School b0_0_Course_Code) b0_0_Credits b0_0_Grade b0_0_Day b0_0_Sources b0_0_Bundle b0_0_Path) (qa.mk (qb.mk b0_1_Course_School b0_1_Course_Code) b0_1_Credits b0_1_Grade b0_1_Day b0_1_Sources b0_1_Bundle b0_1_Path) b0_2_Course_School b0_2_Course_Code b0_2_Credits b0_2_Grade b0_2_Day b0_2_Bundle b0_2_Path (qe.mk s_Worst s_Best s_Pass)) ([],k)).bind (fun(e:List qa)=>some (Exit.exit 2,⟨[(10,rO 2 8 e.length)],[(0,B.blk 52 [dI b0_0_Course_School,dS b0_0_Course_Code,dI b0_0_Credits,dI b0_0_Grade,dI b0_0_Day,dL 1 eI b0_0_Sources,dI b0_0_Bundle,dL 1 eI b0_0_Path,dI b0_1_Course_School,dS b0_1_Course_Code,dI b0_1_Credits,dI b0_1_Grade,dI b0_1_Day,dL 1 eI b0_1_Sources,dI b0_1_Bundle,dL 1 eI b0_1_Path,dI b0_2_Course_School,dS b0_2_Course_Code,dI b0_2_Credits,dI b0_2_Grade,dI b0_2_Day,dO 1 1 w1.length,dI b0_2_Bundle,dL 1 eI b0_2_Path]),(1,bR 3 1 eI w1),(2,bR 52 8 qc e)],3,53⟩)):=by
 intro w1 b0_0_Course_School b0_0_Course_Code b0_0_Credits b0_0_Grade b0_0_Day b0_0_Sources b0_0_Bundle b0_0_Path b0_1_Course_School b0_1_Course_Code b0_1_Credits b0_1_Grade b0_1_Day b0_1_Sources b0_1_Bundle b0_1_Path b0_2_Course_School b0_2_Course_Code b0_2_Credits b0_2_Grade b0_2_Day b0_2_Bundle b0_2_Path s_Worst s_Best s_Pass k w1_len h0;subst h0;have h:=QB w1 [] ((qa.mk (qb.mk b0_0_Course_School b0_0_Course_Code) b0_0_Credits b0_0_Grade b0_0_Day b0_0_Sources b0_0_Bundle b0_0_Path)).Course.School ((qa.mk (qb.mk b0_0_Course_School b0_0_Course_Code) b0_0_Credits b0_0_Grade b0_0_Day b0_0_Sources b0_0_Bundle b0_0_Path)).Course.Code ((qa.mk (qb.mk b0_0_Course_School b0_0_Course_Code) b0_0_Credits b0_0_Grade b0_0_Day b0_0_Sources b0_0_Bundle b0_0_Path)).Credits ((qa.mk (qb.mk b0_0_Course_School b0_0_Course_Code) b0_0_Credits b0_0_Grade b0_0_Day b0_0_Sources b0_0_Bundle b0_0_Path)).Grade ((qa.mk (qb.mk b0_0_Course_School b0_0_Course_Code) b0_0_Credits b0_0_Grade b0_0_Day b0_0_Sources b0_0_Bundle b0_0_Path)).Day ((qa.mk (qb.mk b0_0_Course_School b0_0_Course_Code) b0_0_Credits b0_0_Grade b0_0_Day b0_0_Sources b0_0_Bundle b0_0_Path)).Sources ((qa.mk (qb.mk b0_0_Course_School b0_0_Course_Code) b0_0_Credits b0_0_Grade b0_0_Day b0_0_Sources b0_0_Bundle b0_0_Path)).Bundle ((qa.mk (qb.mk b0_0_Course_School b0_0_Course_Code) b0_0_Credits b0_0_Grade b0_0_Day b0_0_Sources b0_0_Bundle b0_0_Path)).Path ((qa.mk (qb.mk b0_1_Course_School b0_1_Course_Code) b0_1_Credits b0_1_Grade b0_1_Day b0_1_Sources b0_1_Bundle b0_1_Path)).Course.School ((qa.mk (qb.mk b0_1_Course_School b0_1_Course_Code) b0_1_Credits b0_1_Grade b0_1_Day b0_1_Sources b0_1_Bundle b0_1_Path)).Course.Code ((qa.mk (qb.mk b0_1_Course_School b0_1_Course_Code) b0_1_Credits b0_1_Grade b0_1_Day b0_1_Sources b0_1_Bundle b0_1_Path)).Credits ((qa.mk (qb.mk b0_1_Course_School b0_1_Course_Code) b0_1_Credits b0_1_Grade b0_1_Day b0_1_Sources b0_1_Bundle b0_1_Path)).Grade ((qa.mk (qb.mk b0_1_Course_School b0_1_Course_Code) b0_1_Credits b0_1_Grade b0_1_Day b0_1_Sources b0_1_Bundle b0_1_Path)).Day ((qa.mk (qb.mk b0_1_Course_School b0_1_Course_Code) b0_1_Credits b0_1_Grade b0_1_Day b0_1_Sources b0_1_Bundle b0_1_Path)).Sources ((qa.mk (qb.mk b0_1_Course_School b0_1_Course_Code) b0_1_Credits b0_1_Grade b0_1_Day b0_1_Sources b0_1_Bundle b0_1_Path)).Bundle ((qa.mk (qb.mk b0_1_Course_School b0_1_Course_Code) b0_1_Credits b0_1_Grade b0_1_Day b0_1_Sources b0_1_Bundle b0_1_Path)).Path b0_2_Course_School b0_2_Course_Code b0_2_Credits b0_2_Grade b0_2_Day b0_2_Bundle b0_2_Path ((qe.mk s_Worst s_Best s_Pass)).Worst ((qe.mk s_Worst s_Best s_Pass)).Best ((qe.mk s_Worst s_Best s_Pass)).Pass k _ _ rfl rfl
 first
  | exact h
  | (simp only[rL,dL,bR,bZ,Nat.reduceAdd] at h;exact h)
theorem Jk:∀(left0_Course_School:Int) (left0_Course_Code:ByteArray) (left0_Credits left0_Grade left0_Day:Int) (left0_Sources:List Int) (left0_Bundle:Int) (left0_Path:List Int) (left1_Course_School:Int) (left1_Course_Code:ByteArray) (left1_Credits left1_Grade left1_Day:Int) (left1_Sources:List Int) (left1_Bundle:Int) (left1_Path w1:List Int) (b0_0_Course_School:Int) (b0_0_Course_Code:ByteArray) (b0_0_Credits b0_0_Grade b0_0_Day:Int) (b0_0_Sources:List Int) (b0_0_Bundle:Int) (b0_0_Path:List Int) (b0_1_Course_School:Int) (b0_1_Course_Code:ByteArray) (b0_1_Credits b0_1_Grade b0_1_Day:Int) (b0_1_Sources:List Int) (b0_1_Bundle:Int) (b0_1_Path:List Int) (b0_2_Course_School:Int) (b0_2_Course_Code:ByteArray) (b0_2_Credits b0_2_Grade b0_2_Day b0_2_Bundle:Int) (b0_2_Path:List Int) (s_Worst s_Best s_Pass k:Int) (w1_len:Nat),w1_len=w1.length→XL2 evo 11 1 9 ⟨[(6,rP 2),(10,rO 3 8 2),(13,rI k)],[(0,B.blk 52 [dI b0_0_Course_School,dS b0_0_Course_Code,dI b0_0_Credits,dI b0_0_Grade,dI b0_0_Day,dL 1 eI b0_0_Sources,dI b0_0_Bundle,dL 1 eI b0_0_Path,dI b0_1_Course_School,dS b0_1_Course_Code,dI b0_1_Credits,dI b0_1_Grade,dI b0_1_Day,dL 1 eI b0_1_Sources,dI b0_1_Bundle,dL 1 eI b0_1_Path,dI b0_2_Course_School,dS b0_2_Course_Code,dI b0_2_Credits,dI b0_2_Grade,dI b0_2_Day,dO 1 1 w1_len,dI b0_2_Bundle,dL 1 eI b0_2_Path]),(1,bR 3 1 eI w1),(2,B.blk 30 [dI s_Worst,dI s_Best,dI s_Pass]),(3,B.row 52 8 [dI left0_Course_School,dS left0_Course_Code,dI left0_Credits,dI left0_Grade,dI left0_Day,dL 1 eI left0_Sources,dI left0_Bundle,dL 1 eI left0_Path,dI left1_Course_School,dS left1_Course_Code,dI left1_Credits,dI left1_Grade,dI left1_Day,dL 1 eI left1_Sources,dI left1_Bundle,dL 1 eI left1_Path])],4,53⟩=(qx (qp w1 (qa.mk (qb.mk b0_0_Course_School b0_0_Course_Code) b0_0_Credits b0_0_Grade b0_0_Day b0_0_Sources b0_0_Bundle b0_0_Path) (qa.mk (qb.mk b0_1_Course_School b0_1_Course_Code) b0_1_Credits b0_1_Grade b0_1_Day b0_1_Sources b0_1_Bundle b0_1_Path) b0_2_Course_School b0_2_Course_Code b0_2_Credits b0_2_Grade b0_2_Day b0_2_Bundle b0_2_Path (qe.mk s_Worst s_Best s_Pass)) ([(qa.mk (qb.mk left0_Course_School left0_Course_Code) left0_Credits left0_Grade left0_Day left0_Sources left0_Bundle left0_Path),(qa.mk (qb.mk left1_Course_School left1_Course_Code) left1_Credits left1_Grade left1_Day left1_Sources left1_Bundle left1_Path)],k)).bind (fun(e:List qa)=>some (Exit.exit 2,⟨[(10,rO 2 8 e.length)],[(0,B.blk 52 [dI b0_0_Course_School,dS b0_0_Course_Code,dI b0_0_Credits,dI b0_0_Grade,dI b0_0_Day,dL 1 eI b0_0_Sources,dI b0_0_Bundle,dL 1 eI b0_0_Path,dI b0_1_Course_School,dS b0_1_Course_Code,dI b0_1_Credits,dI b0_1_Grade,dI b0_1_Day,dL 1 eI b0_1_Sources,dI b0_1_Bundle,dL 1 eI b0_1_Path,dI b0_2_Course_School,dS b0_2_Course_Code,dI b0_2_Credits,dI b0_2_Grade,dI b0_2_Day,dO 1 1 w1.length,dI b0_2_Bundle,dL 1 eI b0_2_Path]),(1,bR 3 1 eI w1),(2,bR 52 8 qc e)],3,53⟩)):=by
 intro left0_Course_School left0_Course_Code left0_Credits left0_Grade left0_Day left0_Sources left0_Bundle left0_Path left1_Course_School left1_Course_Code left1_Credits left1_Grade left1_Day left1_Sources left1_Bundle left1_Path w1 b0_0_Course_School b0_0_Course_Code b0_0_Credits b0_0_Grade b0_0_Day b0_0_Sources b0_0_Bundle b0_0_Path b0_1_Course_School b0_1_Course_Code b0_1_Credits b0_1_Grade b0_1_Day b0_1_Sources b0_1_Bundle b0_1_Path b0_2_Course_School b0_2_Course_Code b0_2_Credits b0_2_Grade b0_2_Day b0_2_Bundle b0_2_Path s_Worst s_Best s_Pass k w1_len h0;subst h0;have h:=QB w1 [(qa.mk (qb.mk left0_Course_School left0_Course_Code) left0_Credits left0_Grade left0_Day left0_Sources left0_Bundle left0_Path),(qa.mk (qb.mk left1_Course_School left1_Course_Code) left1_Credits left1_Grade left1_Day left1_Sources left1_Bundle left1_Path)] ((qa.mk (qb.mk b0_0_Course_School b0_0_Course_Code) b0_0_Credits b0_0_Grade b0_0_Day b0_0_Sources b0_0_Bundle b0_0_Path)).Course.School ((qa.mk (qb.mk b0_0_Course_School b0_0_Course_Code) b0_0_Credits b0_0_Grade b0_0_Day b0_0_Sources b0_0_Bundle b0_0_Path)).Course.Code ((qa.mk (qb.mk b0_0_Course_School b0_0_Course_Code) b0_0_Credits b0_0_Grade b0_0_Day b0_0_Sources b0_0_Bundle b0_0_Path)).Credits ((qa.mk (qb.mk b0_0_Course_School b0_0_Course_Code) b0_0_Credits b0_0_Grade b0_0_Day b0_0_Sources b0_0_Bundle b0_0_Path)).Grade ((qa.mk (qb.mk b0_0_Course_School b0_0_Course_Code) b0_0_Credits b0_0_Grade b0_0_Day b0_0_Sources b0_0_Bundle b0_0_Path)).Day ((qa.mk (qb.mk b0_0_Course_School b0_0_Course_Code) b0_0_Credits b0_0_Grade b0_0_Day b0_0_Sources b0_0_Bundle b0_0_Path)).Sources ((qa.mk (qb.mk b0_0_Course_School b0_0_Course_Code) b0_0_Credits b0_0_Grade b0_0_Day b0_0_Sources b0_0_Bundle b0_0_Path)).Bundle ((qa.mk (qb.mk b0_0_Course_School b0_0_Course_Code) b0_0_Credits b0_0_Grade b0_0_Day b0_0_Sources b0_0_Bundle b0_0_Path)).Path ((qa.mk (qb.mk b0_1_Course_School b0_1_Course_Code) b0_1_Credits b0_1_Grade b0_1_Day b0_1_Sources b0_1_Bundle b0_1_Path)).Course.School ((qa.mk (qb.mk b0_1_Course_School b0_1_Course_Code) b0_1_Credits b0_1_Grade b0_1_Day b0_1_Sources b0_1_Bundle b0_1_Path)).Course.Code ((qa.mk (qb.mk b0_1_Course_School b0_1_Course_Code) b0_1_Credits b0_1_Grade b0_1_Day b0_1_Sources b0_1_Bundle b0_1_Path)).Credits ((qa.mk (qb.mk b0_1_Course_School b0_1_Course_Code) b0_1_Credits b0_1_Grade b0_1_Day b0_1_Sources b0_1_Bundle b0_1_Path)).Grade ((qa.mk (qb.mk b0_1_Course_School b0_1_Course_Code) b0_1_Credits b0_1_Grade b0_1_Day b0_1_Sources b0_1_Bundle b0_1_Path)).Day ((qa.mk (qb.mk b0_1_Course_School b0_1_Course_Code) b0_1_Credits b0_1_Grade b0_1_Day b0_1_Sources b0_1_Bundle b0_1_Path)).Sources ((qa.mk (qb.mk b0_1_Course_School b0_1_Course_Code) b0_1_Credits b0_1_Grade b0_1_Day b0_1_Sources b0_1_Bundle b0_1_Path)).Bundle ((qa.mk (qb.mk b0_1_Course_School b0_1_Course_Code) b0_1_Credits b0_1_Grade b0_1_Day b0_1_Sources b0_1_Bundle b0_1_Path)).Path b0_2_Course_School b0_2_Course_Code b0_2_Credits b0_2_Grade b0_2_Day b0_2_Bundle b0_2_Path ((qe.mk s_Worst s_Best s_Pass)).Worst ((qe.mk s_Worst s_Best s_Pass)).Best ((qe.mk s_Worst s_Best s_Pass)).Pass k _ _ rfl rfl
 first
  | exact h
  | (simp only[rL,dL,bR,bZ,Nat.reduceAdd] at h;exact h)
theorem J8:∀(left0_Course_School:Int) (left0_Course_Code:ByteArray) (left0_Credits left0_Grade left0_Day:Int) (left0_Sources:List Int) (left0_Bundle:Int) (left0_Path w1:List Int) (b0_0_Course_School:Int) (b0_0_Course_Code:ByteArray) (b0_0_Credits b0_0_Grade b0_0_Day:Int) (b0_0_Sources:List Int) (b0_0_Bundle:Int) (b0_0_Path:List Int) (b0_1_Course_School:Int) (b0_1_Course_Code:ByteArray) (b0_1_Credits b0_1_Grade b0_1_Day:Int) (b0_1_Sources:List Int) (b0_1_Bundle:Int) (b0_1_Path:List Int) (b0_2_Course_School:Int) (b0_2_Course_Code:ByteArray) (b0_2_Credits b0_2_Grade b0_2_Day b0_2_Bundle:Int) (b0_2_Path:List Int) (s_Worst s_Best s_Pass k:Int) (w1_len:Nat),w1_len=w1.length→XL2 evo 11 1 9 ⟨[(6,rP 2),(10,rO 3 8 1),(13,rI k)],[(0,B.blk 52 [dI b0_0_Course_School,dS b0_0_Course_Code,dI b0_0_Credits,dI b0_0_Grade,dI b0_0_Day,dL 1 eI b0_0_Sources,dI b0_0_Bundle,dL 1 eI b0_0_Path,dI b0_1_Course_School,dS b0_1_Course_Code,dI b0_1_Credits,dI b0_1_Grade,dI b0_1_Day,dL 1 eI b0_1_Sources,dI b0_1_Bundle,dL 1 eI b0_1_Path,dI b0_2_Course_School,dS b0_2_Course_Code,dI b0_2_Credits,dI b0_2_Grade,dI b0_2_Day,dO 1 1 w1_len,dI b0_2_Bundle,dL 1 eI b0_2_Path]),(1,bR 3 1 eI w1),(2,B.blk 30 [dI s_Worst,dI s_Best,dI s_Pass]),(3,B.row 52 8 [dI left0_Course_School,dS left0_Course_Code,dI left0_Credits,dI left0_Grade,dI left0_Day,dL 1 eI left0_Sources,dI left0_Bundle,dL 1 eI left0_Path])],4,53⟩=(qx (qp w1 (qa.mk (qb.mk b0_0_Course_School b0_0_Course_Code) b0_0_Credits b0_0_Grade b0_0_Day b0_0_Sources b0_0_Bundle b0_0_Path) (qa.mk (qb.mk b0_1_Course_School b0_1_Course_Code) b0_1_Credits b0_1_Grade b0_1_Day b0_1_Sources b0_1_Bundle b0_1_Path) b0_2_Course_School b0_2_Course_Code b0_2_Credits b0_2_Grade b0_2_Day b0_2_Bundle b0_2_Path (qe.mk s_Worst s_Best s_Pass)) ([(qa.mk (qb.mk left0_Course_School left0_Course_Code) left0_Credits left0_Grade left0_Day left0_Sources left0_Bundle left0_Path)],k)).bind (fun(e:List qa)=>some (Exit.exit 2,⟨[(10,rO 2 8 e.length)],[(0,B.blk 52 [dI b0_0_Course_School,dS b0_0_Course_Code,dI b0_0_Credits,dI b0_0_Grade,dI b0_0_Day,dL 1 eI b0_0_Sources,dI b0_0_Bundle,dL 1 eI b0_0_Path,dI b0_1_Course_School,dS b0_1_Course_Code,dI b0_1_Credits,dI b0_1_Grade,dI b0_1_Day,dL 1 eI b0_1_Sources,dI b0_1_Bundle,dL 1 eI b0_1_Path,dI b0_2_Course_School,dS b0_2_Course_Code,dI b0_2_Credits,dI b0_2_Grade,dI b0_2_Day,dO 1 1 w1.length,dI b0_2_Bundle,dL 1 eI b0_2_Path]),(1,bR 3 1 eI w1),(2,bR 52 8 qc e)],3,53⟩)):=by
 intro left0_Course_School left0_Course_Code left0_Credits left0_Grade left0_Day left0_Sources left0_Bundle left0_Path w1 b0_0_Course_School b0_0_Course_Code b0_0_Credits b0_0_Grade b0_0_Day b0_0_Sources b0_0_Bundle b0_0_Path b0_1_Course_School b0_1_Course_Code b0_1_Credits b0_1_Grade b0_1_Day b0_1_Sources b0_1_Bundle b0_1_Path b0_2_Course_School b0_2_Course_Code b0_2_Credits b0_2_Grade b0_2_Day b0_2_Bundle b0_2_Path s_Worst s_Best s_Pass k w1_len h0;subst h0;have h:=QB w1 [(qa.mk (qb.mk left0_Course_School left0_Course_Code) left0_Credits left0_Grade left0_Day left0_Sources left0_Bundle left0_Path)] ((qa.mk (qb.mk b0_0_Course_School b0_0_Course_Code) b0_0_Credits b0_0_Grade b0_0_Day b0_0_Sources b0_0_Bundle b0_0_Path)).Course.School ((qa.mk (qb.mk b0_0_Course_School b0_0_Course_Code) b0_0_Credits b0_0_Grade b0_0_Day b0_0_Sources b0_0_Bundle b0_0_Path)).Course.Code ((qa.mk (qb.mk b0_0_Course_School b0_0_Course_Code) b0_0_Credits b0_0_Grade b0_0_Day b0_0_Sources b0_0_Bundle b0_0_Path)).Credits ((qa.mk (qb.mk b0_0_Course_School b0_0_Course_Code) b0_0_Credits b0_0_Grade b0_0_Day b0_0_Sources b0_0_Bundle b0_0_Path)).Grade ((qa.mk (qb.mk b0_0_Course_School b0_0_Course_Code) b0_0_Credits b0_0_Grade b0_0_Day b0_0_Sources b0_0_Bundle b0_0_Path)).Day ((qa.mk (qb.mk b0_0_Course_School b0_0_Course_Code) b0_0_Credits b0_0_Grade b0_0_Day b0_0_Sources b0_0_Bundle b0_0_Path)).Sources ((qa.mk (qb.mk b0_0_Course_School b0_0_Course_Code) b0_0_Credits b0_0_Grade b0_0_Day b0_0_Sources b0_0_Bundle b0_0_Path)).Bundle ((qa.mk (qb.mk b0_0_Course_School b0_0_Course_Code) b0_0_Credits b0_0_Grade b0_0_Day b0_0_Sources b0_0_Bundle b0_0_Path)).Path ((qa.mk (qb.mk b0_1_Course_School b0_1_Course_Code) b0_1_Credits b0_1_Grade b0_1_Day b0_1_Sources b0_1_Bundle b0_1_Path)).Course.School ((qa.mk (qb.mk b0_1_Course_School b0_1_Course_Code) b0_1_Credits b0_1_Grade b0_1_Day b0_1_Sources b0_1_Bundle b0_1_Path)).Course.Code ((qa.mk (qb.mk b0_1_Course_School b0_1_Course_Code) b0_1_Credits b0_1_Grade b0_1_Day b0_1_Sources b0_1_Bundle b0_1_Path)).Credits ((qa.mk (qb.mk b0_1_Course_School b0_1_Course_Code) b0_1_Credits b0_1_Grade b0_1_Day b0_1_Sources b0_1_Bundle b0_1_Path)).Grade ((qa.mk (qb.mk b0_1_Course_School b0_1_Course_Code) b0_1_Credits b0_1_Grade b0_1_Day b0_1_Sources b0_1_Bundle b0_1_Path)).Day ((qa.mk (qb.mk b0_1_Course_School b0_1_Course_Code) b0_1_Credits b0_1_Grade b0_1_Day b0_1_Sources b0_1_Bundle b0_1_Path)).Sources ((qa.mk (qb.mk b0_1_Course_School b0_1_Course_Code) b0_1_Credits b0_1_Grade b0_1_Day b0_1_Sources b0_1_Bundle b0_1_Path)).Bundle ((qa.mk (qb.mk b0_1_Course_School b0_1_Course_Code) b0_1_Credits b0_1_Grade b0_1_Day b0_1_Sources b0_1_Bundle b0_1_Path)).Path b0_2_Course_School b0_2_Course_Code b0_2_Credits b0_2_Grade b0_2_Day b0_2_Bundle b0_2_Path ((qe.mk s_Worst s_Best s_Pass)).Worst ((qe.mk s_Worst s_Best s_Pass)).Best ((qe.mk s_Worst s_Best s_Pass)).Pass k _ _ rfl rfl
 first
  | exact h
  | (simp only[rL,dL,bR,bZ,Nat.reduceAdd] at h;exact h)
end
noncomputable section
open Go.RowKit
set_option maxRecDepth 20000
set_option maxHeartbeats 8000000
def Qg (l_n:Nat) (p:qg) (s:qe) (day:Int) (w1:List Int) (l_0:qa) (l_1:qa) (l_2_Course_School:Int) (l_2_Course_Code:ByteArray) (l_2_Credits:Int) (l_2_Grade:Int) (l_2_Day:Int) (l_2_Bundle:Int) (l_2_Path:List Int):Option ((List qa×Int×qa)⊕(List qa×Int)):=if 0<((l_n:Nat):Int) then if 0<((l_n:Nat):Int) then Option.bind (qG p l_0 day) fun(a:Bool)=>if(!a)=Bool.true then Option.bind (qv l_0) fun(a2:Unit)=>if 1≤maxLen then if 1<((l_n:Nat):Int) then if 1<((l_n:Nat):Int) then Option.bind (qG p l_1 day) fun(a3:Bool)=>if(!a3)=Bool.true then Option.bind (qv l_1) fun(a4:Unit)=>if 2≤maxLen then if 2<((l_n:Nat):Int) then if 2<((l_n:Nat):Int) then Option.bind (qG p (qa.mk (qb.mk l_2_Course_School l_2_Course_Code) l_2_Credits l_2_Grade l_2_Day w1 l_2_Bundle l_2_Path) day) fun(a5:Bool)=>if(!a5)=Bool.true then Option.bind (qv (qa.mk (qb.mk l_2_Course_School l_2_Course_Code) l_2_Credits l_2_Grade l_2_Day w1 l_2_Bundle l_2_Path)) fun(a6:Unit)=>if 3≤maxLen then if 3<((l_n:Nat):Int) then none else Option.bind (qx (qk l_0 l_1 (qa.mk (qb.mk l_2_Course_School l_2_Course_Code) l_2_Credits l_2_Grade l_2_Day w1 l_2_Bundle l_2_Path) s) ([l_0,l_1,qa.mk (qb.mk l_2_Course_School l_2_Course_Code) l_2_Credits l_2_Grade l_2_Day w1 l_2_Bundle l_2_Path],2)) fun(a7:List qa)=>if 10<((a7.length:Nat):Int) then some (Sum.inl ([],2,qa.mk (qb.mk l_2_Course_School l_2_Course_Code) l_2_Credits l_2_Grade l_2_Day w1 l_2_Bundle l_2_Path)) else some (Sum.inl (a7,0,qa.mk (qb.mk l_2_Course_School l_2_Course_Code) l_2_Credits l_2_Grade l_2_Day w1 l_2_Bundle l_2_Path)) else none else if 3<((l_n:Nat):Int) then none else Option.bind (qx (qp w1 l_0 l_1 l_2_Course_School l_2_Course_Code l_2_Credits l_2_Grade l_2_Day l_2_Bundle l_2_Path s) ([l_0,l_1],1)) fun(a8:List qa)=>if 10<((a8.length:Nat):Int) then some (Sum.inr ([],2)) else some (Sum.inr (a8,0)) else none else Option.bind (qx (qp w1 l_0 l_1 l_2_Course_School l_2_Course_Code l_2_Credits l_2_Grade l_2_Day l_2_Bundle l_2_Path s) ([l_0,l_1],1)) fun(a9:List qa)=>if 10<((a9.length:Nat):Int) then some (Sum.inr ([],2)) else some (Sum.inr (a9,0)) else none else if 2<((l_n:Nat):Int) then if 2<((l_n:Nat):Int) then Option.bind (qG p (qa.mk (qb.mk l_2_Course_School l_2_Course_Code) l_2_Credits l_2_Grade l_2_Day w1 l_2_Bundle l_2_Path) day) fun(a10:Bool)=>if(!a10)=Bool.true then Option.bind (qv (qa.mk (qb.mk l_2_Course_School l_2_Course_Code) l_2_Credits l_2_Grade l_2_Day w1 l_2_Bundle l_2_Path)) fun(a11:Unit)=>if 2≤maxLen then if 3<((l_n:Nat):Int) then none else Option.bind (qx (qk l_0 l_1 (qa.mk (qb.mk l_2_Course_School l_2_Course_Code) l_2_Credits l_2_Grade l_2_Day w1 l_2_Bundle l_2_Path) s) ([l_0,qa.mk (qb.mk l_2_Course_School l_2_Course_Code) l_2_Credits l_2_Grade l_2_Day w1 l_2_Bundle l_2_Path],1)) fun(a12:List qa)=>if 10<((a12.length:Nat):Int) then some (Sum.inl ([],2,qa.mk (qb.mk l_2_Course_School l_2_Course_Code) l_2_Credits l_2_Grade l_2_Day w1 l_2_Bundle l_2_Path)) else some (Sum.inl (a12,0,qa.mk (qb.mk l_2_Course_School l_2_Course_Code) l_2_Credits l_2_Grade l_2_Day w1 l_2_Bundle l_2_Path)) else none else if 3<((l_n:Nat):Int) then none else Option.bind (qx (qp w1 l_0 l_1 l_2_Course_School l_2_Course_Code l_2_Credits l_2_Grade l_2_Day l_2_Bundle l_2_Path s) ([l_0],0)) fun(a13:List qa)=>if 10<((a13.length:Nat):Int) then some (Sum.inr ([],2)) else some (Sum.inr (a13,0)) else none else Option.bind (qx (qp w1 l_0 l_1 l_2_Course_School l_2_Course_Code l_2_Credits l_2_Grade l_2_Day l_2_Bundle l_2_Path s) ([l_0],0)) fun(a14:List qa)=>if 10<((a14.length:Nat):Int) then some (Sum.inr ([],2)) else some (Sum.inr (a14,0)) else none else Option.bind (qx (qp w1 l_0 l_1 l_2_Course_School l_2_Course_Code l_2_Credits l_2_Grade l_2_Day l_2_Bundle l_2_Path s) ([l_0],0)) fun(a15:List qa)=>if 10<((a15.length:Nat):Int) then some (Sum.inr ([],2)) else some (Sum.inr (a15,0)) else none else if 1<((l_n:Nat):Int) then if 1<((l_n:Nat):Int) then Option.bind (qG p l_1 day) fun(a16:Bool)=>if(!a16)=Bool.true then Option.bind (qv l_1) fun(a17:Unit)=>if 1≤maxLen then if 2<((l_n:Nat):Int) then if 2<((l_n:Nat):Int) then Option.bind (qG p (qa.mk (qb.mk l_2_Course_School l_2_Course_Code) l_2_Credits l_2_Grade l_2_Day w1 l_2_Bundle l_2_Path) day) fun(a18:Bool)=>if(!a18)=Bool.true then Option.bind (qv (qa.mk (qb.mk l_2_Course_School l_2_Course_Code) l_2_Credits l_2_Grade l_2_Day w1 l_2_Bundle l_2_Path)) fun(a19:Unit)=>if 2≤maxLen then if 3<((l_n:Nat):Int) then none else Option.bind (qx (qk l_0 l_1 (qa.mk (qb.mk l_2_Course_School l_2_Course_Code) l_2_Credits l_2_Grade l_2_Day w1 l_2_Bundle l_2_Path) s) ([l_1,qa.mk (qb.mk l_2_Course_School l_2_Course_Code) l_2_Credits l_2_Grade l_2_Day w1 l_2_Bundle l_2_Path],1)) fun(a20:List qa)=>if 10<((a20.length:Nat):Int) then some (Sum.inl ([],2,qa.mk (qb.mk l_2_Course_School l_2_Course_Code) l_2_Credits l_2_Grade l_2_Day w1 l_2_Bundle l_2_Path)) else some (Sum.inl (a20,0,qa.mk (qb.mk l_2_Course_School l_2_Course_Code) l_2_Credits l_2_Grade l_2_Day w1 l_2_Bundle l_2_Path)) else none else if 3<((l_n:Nat):Int) then none else Option.bind (qx (qp w1 l_0 l_1 l_2_Course_School l_2_Course_Code l_2_Credits l_2_Grade l_2_Day l_2_Bundle l_2_Path s) ([l_1],0)) fun(a21:List qa)=>if 10<((a21.length:Nat):Int) then some (Sum.inr ([],2)) else some (Sum.inr (a21,0)) else none else Option.bind (qx (qp w1 l_0 l_1 l_2_Course_School l_2_Course_Code l_2_Credits l_2_Grade l_2_Day l_2_Bundle l_2_Path s) ([l_1],0)) fun(a22:List qa)=>if 10<((a22.length:Nat):Int) then some (Sum.inr ([],2)) else some (Sum.inr (a22,0)) else none else if 2<((l_n:Nat):Int) then if 2<((l_n:Nat):Int) then Option.bind (qG p (qa.mk (qb.mk l_2_Course_School l_2_Course_Code) l_2_Credits l_2_Grade l_2_Day w1 l_2_Bundle l_2_Path) day) fun(a23:Bool)=>if(!a23)=Bool.true then Option.bind (qv (qa.mk (qb.mk l_2_Course_School l_2_Course_Code) l_2_Credits l_2_Grade l_2_Day w1 l_2_Bundle l_2_Path)) fun(a24:Unit)=>if 1≤maxLen then if 3<((l_n:Nat):Int) then none else Option.bind (qx (qk l_0 l_1 (qa.mk (qb.mk l_2_Course_School l_2_Course_Code) l_2_Credits l_2_Grade l_2_Day w1 l_2_Bundle l_2_Path) s) ([qa.mk (qb.mk l_2_Course_School l_2_Course_Code) l_2_Credits l_2_Grade l_2_Day w1 l_2_Bundle l_2_Path],0)) fun(a25:List qa)=>if 10<((a25.length:Nat):Int) then some (Sum.inl ([],2,qa.mk (qb.mk l_2_Course_School l_2_Course_Code) l_2_Credits l_2_Grade l_2_Day w1 l_2_Bundle l_2_Path)) else some (Sum.inl (a25,0,qa.mk (qb.mk l_2_Course_School l_2_Course_Code) l_2_Credits l_2_Grade l_2_Day w1 l_2_Bundle l_2_Path)) else none else if 3<((l_n:Nat):Int) then none else Option.bind (qx (qp w1 l_0 l_1 l_2_Course_School l_2_Course_Code l_2_Credits l_2_Grade l_2_Day l_2_Bundle l_2_Path s) ([],(-1))) fun(a26:List qa)=>if 10<((a26.length:Nat):Int) then some (Sum.inr ([],2)) else some (Sum.inr (a26,0)) else none else Option.bind (qx (qp w1 l_0 l_1 l_2_Course_School l_2_Course_Code l_2_Credits l_2_Grade l_2_Day l_2_Bundle l_2_Path s) ([],(-1))) fun(a27:List qa)=>if 10<((a27.length:Nat):Int) then some (Sum.inr ([],2)) else some (Sum.inr (a27,0)) else none else Option.bind (qx (qp w1 l_0 l_1 l_2_Course_School l_2_Course_Code l_2_Credits l_2_Grade l_2_Day l_2_Bundle l_2_Path s) ([],(-1))) fun(a28:List qa)=>if 10<((a28.length:Nat):Int) then some (Sum.inr ([],2)) else some (Sum.inr (a28,0)) else none else Option.bind (qx (qp w1 l_0 l_1 l_2_Course_School l_2_Course_Code l_2_Credits l_2_Grade l_2_Day l_2_Bundle l_2_Path s) ([],(-1))) fun(a29:List qa)=>if 10<((a29.length:Nat):Int) then some (Sum.inr ([],2)) else some (Sum.inr (a29,0))
theorem q1t:∀(l_n:Nat) (p_School p_Id p_Version p_From:Int) (p_Name:ByteArray) (p_Need_Kind p_Need_N p_Need_Min:Int) (p_Need_Set:List qb) (p_Need_L:List qh) (p_Total p_Own p_Age:Int) (p_Exclude:List (QT qb)) (s_Worst s_Best s_Pass day:Int) (w1:List Int) (l_0_Course_School:Int) (l_0_Course_Code:ByteArray) (l_0_Credits l_0_Grade l_0_Day:Int) (l_0_Sources:List Int) (l_0_Bundle:Int) (l_0_Path:List Int) (l_1_Course_School:Int) (l_1_Course_Code:ByteArray) (l_1_Credits l_1_Grade l_1_Day:Int) (l_1_Sources:List Int) (l_1_Bundle:Int) (l_1_Path:List Int) (l_2_Course_School:Int) (l_2_Course_Code:ByteArray) (l_2_Credits l_2_Grade l_2_Day l_2_Bundle:Int) (l_2_Path:List Int) (w1_len:Nat),w1_len=w1.length→ev 11 1 [rO 0 8 l_n,R.agg [dI p_School,dI p_Id,dI p_Version,dI p_From,dS p_Name,dI p_Need_Kind,dI p_Need_N,dI p_Need_Min,dL 2 qj p_Need_Set,dL 5 qq p_Need_L,dI p_Total,dI p_Own,dI p_Age,dL 4 (eA2 qj) p_Exclude],R.agg [dI s_Worst,dI s_Best,dI s_Pass],rI day] [(0,B.blk 52 [dI l_0_Course_School,dS l_0_Course_Code,dI l_0_Credits,dI l_0_Grade,dI l_0_Day,dL 1 eI l_0_Sources,dI l_0_Bundle,dL 1 eI l_0_Path,dI l_1_Course_School,dS l_1_Course_Code,dI l_1_Credits,dI l_1_Grade,dI l_1_Day,dL 1 eI l_1_Sources,dI l_1_Bundle,dL 1 eI l_1_Path,dI l_2_Course_School,dS l_2_Course_Code,dI l_2_Credits,dI l_2_Grade,dI l_2_Day,dO 1 1 w1_len,dI l_2_Bundle,dL 1 eI l_2_Path]),(1,bR 3 1 eI w1)]=(Qg l_n (qg.mk p_School p_Id p_Version p_From p_Name (qh.mk p_Need_Kind p_Need_N p_Need_Min p_Need_Set p_Need_L) p_Total p_Own p_Age p_Exclude) (qe.mk s_Worst s_Best s_Pass) day w1 (qa.mk (qb.mk l_0_Course_School l_0_Course_Code) l_0_Credits l_0_Grade l_0_Day l_0_Sources l_0_Bundle l_0_Path) (qa.mk (qb.mk l_1_Course_School l_1_Course_Code) l_1_Credits l_1_Grade l_1_Day l_1_Sources l_1_Bundle l_1_Path) l_2_Course_School l_2_Course_Code l_2_Credits l_2_Grade l_2_Day l_2_Bundle l_2_Path).bind (Sum.elim (fun(e:List qa×Int×qa)=>some (R.tup [rL 8 qc e.1,rI e.2.1],[(0,B.blk 52 [dI l_0_Course_School,dS l_0_Course_Code,dI l_0_Credits,dI l_0_Grade,dI l_0_Day,dL 1 eI l_0_Sources,dI l_0_Bundle,dL 1 eI l_0_Path,dI l_1_Course_School,dS l_1_Course_Code,dI l_1_Credits,dI l_1_Grade,dI l_1_Day,dL 1 eI l_1_Sources,dI l_1_Bundle,dL 1 eI l_1_Path,dI e.2.2.Course.School,dS e.2.2.Course.Code,dI e.2.2.Credits,dI e.2.2.Grade,dI e.2.2.Day,dL 1 eI e.2.2.Sources,dI e.2.2.Bundle,dL 1 eI e.2.2.Path])])) (fun(e:List qa×Int)=>some (R.tup [rL 8 qc e.1,rI e.2],[(0,B.blk 52 [dI l_0_Course_School,dS l_0_Course_Code,dI l_0_Credits,dI l_0_Grade,dI l_0_Day,dL 1 eI l_0_Sources,dI l_0_Bundle,dL 1 eI l_0_Path,dI l_1_Course_School,dS l_1_Course_Code,dI l_1_Credits,dI l_1_Grade,dI l_1_Day,dL 1 eI l_1_Sources,dI l_1_Bundle,dL 1 eI l_1_Path,dI l_2_Course_School,dS l_2_Course_Code,dI l_2_Credits,dI l_2_Grade,dI l_2_Day,dO 1 1 w1.length,dI l_2_Bundle,dL 1 eI l_2_Path]),(1,bR 3 1 eI w1)]))):=
 by
 intro l_n p_School p_Id p_Version p_From p_Name p_Need_Kind p_Need_N p_Need_Min p_Need_Set p_Need_L p_Total p_Own p_Age p_Exclude s_Worst s_Best s_Pass day w1 l_0_Course_School l_0_Course_Code l_0_Credits l_0_Grade l_0_Day l_0_Sources l_0_Bundle l_0_Path l_1_Course_School l_1_Course_Code l_1_Credits l_1_Grade l_1_Day l_1_Sources l_1_Bundle l_1_Path l_2_Course_School l_2_Course_Code l_2_Credits l_2_Grade l_2_Day l_2_Bundle l_2_Path w1_len h0
 subst h0
 rw[qD qkU qrG.2.2.2 qqn]
 have:=qpR;have:=@q0y;have:=@Jc;have:=@Jo;have:=@Jh;have:=@Jk;have:=@Jb;have:=@J8;have:=@Ja;have:=@Qg.eq_1;have:=fun(E:Orc) (k:Nat) (s:S)=>q7M (E:=E) (k:=k) (s:=s) qhy qgZ;have:=@q8q.eq_1;have:=@q4z;have:=@q7b;have:=@qdV;have:=@q88;have:=@qdU;have:=@q8d;have:=@qdN;exact gA
theorem q0a:∀(p_School p_Id p_Version p_From:Int) (p_Name:ByteArray) (p_Need_Kind p_Need_N p_Need_Min p_Total p_Own p_Age w10 l_0_Course_School:Int) (l_0_Course_Code:ByteArray) (l_0_Credits l_0_Grade l_0_Day l_0_Sources0 l_0_Bundle l_1_Course_School:Int) (l_1_Course_Code:ByteArray) (l_1_Credits l_1_Grade l_1_Day l_1_Sources0 l_1_Bundle:Int) (l_n:Nat) (s_Worst s_Best s_Pass day l_2_Course_School:Int) (l_2_Course_Code:ByteArray) (l_2_Credits l_2_Grade l_2_Day l_2_Bundle:Int),ev 11 1 [rO 0 8 l_n,R.agg [dI p_School,dI p_Id,dI p_Version,dI p_From,dS p_Name,dI p_Need_Kind,dI p_Need_N,dI p_Need_Min,C.d (D.sl 2 0 []),C.d (D.sl 5 0 []),dI p_Total,dI p_Own,dI p_Age,C.d (D.sl 4 0 [])],R.agg [dI s_Worst,dI s_Best,dI s_Pass],rI day] [(0,B.blk 52 [dI l_0_Course_School,dS l_0_Course_Code,dI l_0_Credits,dI l_0_Grade,dI l_0_Day,C.d (D.sl 1 1 [D.int .i64 l_0_Sources0]),dI l_0_Bundle,C.d (D.sl 1 0 []),dI l_1_Course_School,dS l_1_Course_Code,dI l_1_Credits,dI l_1_Grade,dI l_1_Day,C.d (D.sl 1 1 [D.int .i64 l_1_Sources0]),dI l_1_Bundle,C.d (D.sl 1 0 []),dI l_2_Course_School,dS l_2_Course_Code,dI l_2_Credits,dI l_2_Grade,dI l_2_Day,dO 1 1 1,dI l_2_Bundle,C.d (D.sl 1 0 [])]),(1,B.row 3 1 [dI w10])]=(Qg l_n (qg.mk p_School p_Id p_Version p_From p_Name (qh.mk p_Need_Kind p_Need_N p_Need_Min ([]:List qb) ([]:List qh)) p_Total p_Own p_Age ([]:List (QT qb))) (qe.mk s_Worst s_Best s_Pass) day [w10] (qa.mk (qb.mk l_0_Course_School l_0_Course_Code) l_0_Credits l_0_Grade l_0_Day [l_0_Sources0] l_0_Bundle ([]:List Int)) (qa.mk (qb.mk l_1_Course_School l_1_Course_Code) l_1_Credits l_1_Grade l_1_Day [l_1_Sources0] l_1_Bundle ([]:List Int)) l_2_Course_School l_2_Course_Code l_2_Credits l_2_Grade l_2_Day l_2_Bundle ([]:List Int)).bind (Sum.elim (fun(e:List qa×Int×qa)=>some (R.tup [rL 8 qc e.1,rI e.2.1],[(0,B.blk 52 [dI l_0_Course_School,dS l_0_Course_Code,dI l_0_Credits,dI l_0_Grade,dI l_0_Day,C.d (D.sl 1 [l_0_Sources0].length ([l_0_Sources0].flatMap eI)),dI l_0_Bundle,C.d (D.sl 1 ([]:List Int).length (([]:List Int).flatMap eI)),dI l_1_Course_School,dS l_1_Course_Code,dI l_1_Credits,dI l_1_Grade,dI l_1_Day,C.d (D.sl 1 [l_1_Sources0].length ([l_1_Sources0].flatMap eI)),dI l_1_Bundle,C.d (D.sl 1 ([]:List Int).length (([]:List Int).flatMap eI)),dI e.2.2.Course.School,dS e.2.2.Course.Code,dI e.2.2.Credits,dI e.2.2.Grade,dI e.2.2.Day,dL 1 eI e.2.2.Sources,dI e.2.2.Bundle,dL 1 eI e.2.2.Path])])) (fun(e:List qa×Int)=>some (R.tup [rL 8 qc e.1,rI e.2],[(0,B.blk 52 [dI l_0_Course_School,dS l_0_Course_Code,dI l_0_Credits,dI l_0_Grade,dI l_0_Day,C.d (D.sl 1 [l_0_Sources0].length ([l_0_Sources0].flatMap eI)),dI l_0_Bundle,C.d (D.sl 1 ([]:List Int).length (([]:List Int).flatMap eI)),dI l_1_Course_School,dS l_1_Course_Code,dI l_1_Credits,dI l_1_Grade,dI l_1_Day,C.d (D.sl 1 [l_1_Sources0].length ([l_1_Sources0].flatMap eI)),dI l_1_Bundle,C.d (D.sl 1 ([]:List Int).length (([]:List Int).flatMap eI)),dI l_2_Course_School,dS l_2_Course_Code,dI l_2_Credits,dI l_2_Grade,dI l_2_Day,C.own 1 1 0 [w10].length,dI l_2_Bundle,C.d (D.sl 1 ([]:List Int).length (([]:List Int).flatMap eI))]),(1,B.row 3 1 (([w10].flatMap eI).map C.d))]))):=by
 intro p_School p_Id p_Version p_From p_Name p_Need_Kind p_Need_N p_Need_Min p_Total p_Own p_Age w10 l_0_Course_School l_0_Course_Code l_0_Credits l_0_Grade l_0_Day l_0_Sources0 l_0_Bundle l_1_Course_School l_1_Course_Code l_1_Credits l_1_Grade l_1_Day l_1_Sources0 l_1_Bundle l_n s_Worst s_Best s_Pass day l_2_Course_School l_2_Course_Code l_2_Credits l_2_Grade l_2_Day l_2_Bundle;have h:=q1t l_n ((qg.mk p_School p_Id p_Version p_From p_Name (qh.mk p_Need_Kind p_Need_N p_Need_Min ([]:List qb) ([]:List qh)) p_Total p_Own p_Age ([]:List (QT qb)))).School ((qg.mk p_School p_Id p_Version p_From p_Name (qh.mk p_Need_Kind p_Need_N p_Need_Min ([]:List qb) ([]:List qh)) p_Total p_Own p_Age ([]:List (QT qb)))).Id ((qg.mk p_School p_Id p_Version p_From p_Name (qh.mk p_Need_Kind p_Need_N p_Need_Min ([]:List qb) ([]:List qh)) p_Total p_Own p_Age ([]:List (QT qb)))).Version ((qg.mk p_School p_Id p_Version p_From p_Name (qh.mk p_Need_Kind p_Need_N p_Need_Min ([]:List qb) ([]:List qh)) p_Total p_Own p_Age ([]:List (QT qb)))).From ((qg.mk p_School p_Id p_Version p_From p_Name (qh.mk p_Need_Kind p_Need_N p_Need_Min ([]:List qb) ([]:List qh)) p_Total p_Own p_Age ([]:List (QT qb)))).Name ((qg.mk p_School p_Id p_Version p_From p_Name (qh.mk p_Need_Kind p_Need_N p_Need_Min ([]:List qb) ([]:List qh)) p_Total p_Own p_Age ([]:List (QT qb)))).Need.Kind ((qg.mk p_School p_Id p_Version p_From p_Name (qh.mk p_Need_Kind p_Need_N p_Need_Min ([]:List qb) ([]:List qh)) p_Total p_Own p_Age ([]:List (QT qb)))).Need.N ((qg.mk p_School p_Id p_Version p_From p_Name (qh.mk p_Need_Kind p_Need_N p_Need_Min ([]:List qb) ([]:List qh)) p_Total p_Own p_Age ([]:List (QT qb)))).Need.Min ((qg.mk p_School p_Id p_Version p_From p_Name (qh.mk p_Need_Kind p_Need_N p_Need_Min ([]:List qb) ([]:List qh)) p_Total p_Own p_Age ([]:List (QT qb)))).Need.Set ((qg.mk p_School p_Id p_Version p_From p_Name (qh.mk p_Need_Kind p_Need_N p_Need_Min ([]:List qb) ([]:List qh)) p_Total p_Own p_Age ([]:List (QT qb)))).Need.L ((qg.mk p_School p_Id p_Version p_From p_Name (qh.mk p_Need_Kind p_Need_N p_Need_Min ([]:List qb) ([]:List qh)) p_Total p_Own p_Age ([]:List (QT qb)))).Total ((qg.mk p_School p_Id p_Version p_From p_Name (qh.mk p_Need_Kind p_Need_N p_Need_Min ([]:List qb) ([]:List qh)) p_Total p_Own p_Age ([]:List (QT qb)))).Own ((qg.mk p_School p_Id p_Version p_From p_Name (qh.mk p_Need_Kind p_Need_N p_Need_Min ([]:List qb) ([]:List qh)) p_Total p_Own p_Age ([]:List (QT qb)))).Age ((qg.mk p_School p_Id p_Version p_From p_Name (qh.mk p_Need_Kind p_Need_N p_Need_Min ([]:List qb) ([]:List qh)) p_Total p_Own p_Age ([]:List (QT qb)))).Exclude ((qe.mk s_Worst s_Best s_Pass)).Worst ((qe.mk s_Worst s_Best s_Pass)).Best ((qe.mk s_Worst s_Best s_Pass)).Pass day [w10] ((qa.mk (qb.mk l_0_Course_School l_0_Course_Code) l_0_Credits l_0_Grade l_0_Day [l_0_Sources0] l_0_Bundle ([]:List Int))).Course.School ((qa.mk (qb.mk l_0_Course_School l_0_Course_Code) l_0_Credits l_0_Grade l_0_Day [l_0_Sources0] l_0_Bundle ([]:List Int))).Course.Code ((qa.mk (qb.mk l_0_Course_School l_0_Course_Code) l_0_Credits l_0_Grade l_0_Day [l_0_Sources0] l_0_Bundle ([]:List Int))).Credits ((qa.mk (qb.mk l_0_Course_School l_0_Course_Code) l_0_Credits l_0_Grade l_0_Day [l_0_Sources0] l_0_Bundle ([]:List Int))).Grade ((qa.mk (qb.mk l_0_Course_School l_0_Course_Code) l_0_Credits l_0_Grade l_0_Day [l_0_Sources0] l_0_Bundle ([]:List Int))).Day ((qa.mk (qb.mk l_0_Course_School l_0_Course_Code) l_0_Credits l_0_Grade l_0_Day [l_0_Sources0] l_0_Bundle ([]:List Int))).Sources ((qa.mk (qb.mk l_0_Course_School l_0_Course_Code) l_0_Credits l_0_Grade l_0_Day [l_0_Sources0] l_0_Bundle ([]:List Int))).Bundle ((qa.mk (qb.mk l_0_Course_School l_0_Course_Code) l_0_Credits l_0_Grade l_0_Day [l_0_Sources0] l_0_Bundle ([]:List Int))).Path ((qa.mk (qb.mk l_1_Course_School l_1_Course_Code) l_1_Credits l_1_Grade l_1_Day [l_1_Sources0] l_1_Bundle ([]:List Int))).Course.School ((qa.mk (qb.mk l_1_Course_School l_1_Course_Code) l_1_Credits l_1_Grade l_1_Day [l_1_Sources0] l_1_Bundle ([]:List Int))).Course.Code ((qa.mk (qb.mk l_1_Course_School l_1_Course_Code) l_1_Credits l_1_Grade l_1_Day [l_1_Sources0] l_1_Bundle ([]:List Int))).Credits ((qa.mk (qb.mk l_1_Course_School l_1_Course_Code) l_1_Credits l_1_Grade l_1_Day [l_1_Sources0] l_1_Bundle ([]:List Int))).Grade ((qa.mk (qb.mk l_1_Course_School l_1_Course_Code) l_1_Credits l_1_Grade l_1_Day [l_1_Sources0] l_1_Bundle ([]:List Int))).Day ((qa.mk (qb.mk l_1_Course_School l_1_Course_Code) l_1_Credits l_1_Grade l_1_Day [l_1_Sources0] l_1_Bundle ([]:List Int))).Sources ((qa.mk (qb.mk l_1_Course_School l_1_Course_Code) l_1_Credits l_1_Grade l_1_Day [l_1_Sources0] l_1_Bundle ([]:List Int))).Bundle ((qa.mk (qb.mk l_1_Course_School l_1_Course_Code) l_1_Credits l_1_Grade l_1_Day [l_1_Sources0] l_1_Bundle ([]:List Int))).Path l_2_Course_School l_2_Course_Code l_2_Credits l_2_Grade l_2_Day l_2_Bundle ([]:List Int) _ rfl
 first
  | exact h
  | (simp only[rL,dL,bR,bZ,Nat.reduceAdd] at h;exact h)
theorem quF:okL 18 q94:=qF (qf qpI) (by kernel_rfl) (by kernel_rfl)
def qtt:=JA_ @q94.eq_1 (JA_ @Try.f18.eq_1 @qpI)
theorem qlG:lbO 18 4=qei:=zt (qf qpI) rfl
theorem qok:okL 18 qei:=qN quF (qwS (i:=0) (by kernel_rfl))
def zm (a:List (List Int)) (b:List (List Int)):Int→Option (Int⊕(Unit⊕Unit))|k=>if k<((a.length:Nat):Int) then if 0≤k∧k<((a.length:Nat):Int) then Option.bind a[Int.toNat k]? fun(a2:List Int)=>if 0≤k∧k<((b.length:Nat):Int) then Option.bind b[Int.toNat k]? fun(a3:List Int)=>Option.bind (Qe a2 a3) fun(a4:Bool)=>if(!a4)=Bool.true then some (Sum.inr (Sum.inl ())) else some (Sum.inl (w64 (k+1))) else none else none else some (Sum.inr (Sum.inr ()))
theorem Jq:∀(a b:List (List Int)) (k:Int),XL2 evo 18 0 4 ⟨[(0,rL 1 (eL 1 eI) a),(1,rL 1 (eL 1 eI) b),(5,rI k)],[],0,29⟩=(qx (zm a b) k).bind (Sum.elim (fun(e:Unit)=>some (Exit.ret,⟨[(4,rB Bool.false)],[],0,29⟩)) (fun(e:Unit)=>some (Exit.exit 0,⟨[(4,R.any)],[],0,29⟩))):=
 fun a b k=>by
  revert k;exact q75 qlG qok (fun e=>by rcases e with _|_<;>exact⟨_,rfl,fun h=>by cases h⟩) fun x=>by
   have:=qtt;have:=@qei.eq_1;have:=@ZV;have:=@zm.eq_1;exact gA
def qU (a:List (List Int)) (b:List (List Int)):Option Bool:=if(((a.length:Nat):Int) != ((b.length:Nat):Int))=Bool.true then some Bool.false else Option.bind (qx (zm a b) 0) fun(a2:Sum Unit Unit)=>Sum.elim (fun(a3:Unit)=>some Bool.false) (fun(a4:Unit)=>some Bool.true) a2
theorem Zw:∀(a b:List (List Int)),ev 18 0 [rL 1 (eL 1 eI) a,rL 1 (eL 1 eI) b] []=(qU a b).bind (fun(e:Bool)=>some (rB e,[])):=
 fun a b=>by
  rw[qD qpI qu2.2.2.2 quF]
  have:=qtt;have:=@Jq;have:=@qU.eq_1;exact gA
theorem JA:∀(b00 b01 b02 b10:Int) (a:List (List Int)),ev 18 0 [rL 1 (eL 1 eI) a,R.c (C.d (D.sl 1 2 [D.sl 1 3 [D.int .i64 b00,D.int .i64 b01,D.int .i64 b02],D.sl 1 1 [D.int .i64 b10]]))] []=(qU a [[b00,b01,b02],[b10]]).bind (fun(e:Bool)=>some (rB e,[])):=by
 intro b00 b01 b02 b10 a;have h:=Zw a [[b00,b01,b02],[b10]]
 first
  | exact h
  | (simp only[rL,dL,bR,bZ,Nat.reduceAdd] at h;exact h)
def QY:Option Bool:=Option.bind (Qf 3 (qg.mk 1 0 0 0 (ByteArray.mk (List.toArray [])) (qh.mk 0 0 0 [] []) 0 0 0 []) (qe.mk 0 100 50) 100 (qa.mk (qb.mk 1 (ByteArray.mk (List.toArray [65,49]))) 5 60 5 [(1:Int)] 0 []) (qa.mk (qb.mk 1 (ByteArray.mk (List.toArray [65,49]))) 5 70 9 [(2:Int)] 0 []) (qa.mk (qb.mk 1 (ByteArray.mk (List.toArray [66,49]))) 5 50 0 [(3:Int)] 0 [])) fun(a:Prod (List qa) Int)=>Option.bind (Qg 3 (qg.mk 1 0 0 0 (ByteArray.mk (List.toArray [])) (qh.mk 0 0 0 [] []) 0 0 0 []) (qe.mk 0 100 50) 100 [(2:Int)] (qa.mk (qb.mk 1 (ByteArray.mk (List.toArray [65,49]))) 5 60 5 [(1:Int)] 0 []) (qa.mk (qb.mk 1 (ByteArray.mk (List.toArray [65,49]))) 5 70 9 [(2:Int)] 0 []) 1 (ByteArray.mk (List.toArray [66,49])) 5 50 0 1 []) fun(a2:Sum (Prod (List qa) (Prod Int qa)) (Prod (List qa) Int))=>Sum.elim (fun(a3:Prod (List qa) (Prod Int qa))=>if(a.2 != 0)=Bool.true then some Bool.false else if(a3.2.1 != 0)=Bool.true then some Bool.false else if(((a.1.length:Nat):Int) != 2)=Bool.true then some Bool.false else if 0<((a.1.length:Nat):Int) then Option.bind a.1[0]? fun(a5:qa)=>if(a5.Grade != 70)=Bool.true then some Bool.false else if 1<((a.1.length:Nat):Int) then Option.bind a.1[1]? fun(a6:qa)=>if(!(ByteArray.toList a6.Course.Code==ByteArray.toList (ByteArray.mk (List.toArray [66,49]))))=Bool.true then some Bool.false else if(((a3.1.length:Nat):Int) != 3)=Bool.true then some Bool.false else Option.bind (zL [qa.mk (qb.mk 1 (ByteArray.mk (List.toArray [65,49]))) 5 60 0 [(1:Int)] 0 [],qa.mk (qb.mk 1 (ByteArray.mk (List.toArray [66,49]))) 10 60 0 [(3:Int)] 0 [],qa.mk (qb.mk 1 (ByteArray.mk (List.toArray [65,49]))) 6 60 0 [(2:Int)] 0 []]) fun(a7:Prod Int Int)=>if(a7.2==0)=Bool.true then if(a7.1==16)=Bool.true then Option.bind (Q0 [qa.mk (qb.mk 1 (ByteArray.mk (List.toArray [65,49]))) 5 60 0 [(1:Int)] 0 [],qa.mk (qb.mk 1 (ByteArray.mk (List.toArray [66,49]))) 10 60 0 [(3:Int)] 0 [],qa.mk (qb.mk 1 (ByteArray.mk (List.toArray [65,49]))) 6 60 0 [(2:Int)] 0 [],qa.mk (qb.mk 1 (ByteArray.mk (List.toArray [67,49]))) 5 60 0 [(2:Int)] 1 []]) fun(a8:List (List Int))=>Option.bind (qU a8 [[(0:Int),2,3],[(1:Int)]]) fun(e0:Bool)=>some e0 else some Bool.false else some Bool.false else none else none) (fun(a4:Prod (List qa) Int)=>if(a.2 != 0)=Bool.true then some Bool.false else if(a4.2 != 0)=Bool.true then some Bool.false else if(((a.1.length:Nat):Int) != 2)=Bool.true then some Bool.false else if 0<((a.1.length:Nat):Int) then Option.bind a.1[0]? fun(a9:qa)=>if(a9.Grade != 70)=Bool.true then some Bool.false else if 1<((a.1.length:Nat):Int) then Option.bind a.1[1]? fun(a10:qa)=>if(!(ByteArray.toList a10.Course.Code==ByteArray.toList (ByteArray.mk (List.toArray [66,49]))))=Bool.true then some Bool.false else if(((a4.1.length:Nat):Int) != 3)=Bool.true then some Bool.false else Option.bind (zL [qa.mk (qb.mk 1 (ByteArray.mk (List.toArray [65,49]))) 5 60 0 [(1:Int)] 0 [],qa.mk (qb.mk 1 (ByteArray.mk (List.toArray [66,49]))) 10 60 0 [(3:Int)] 0 [],qa.mk (qb.mk 1 (ByteArray.mk (List.toArray [65,49]))) 6 60 0 [(2:Int)] 0 []]) fun(a11:Prod Int Int)=>if(a11.2==0)=Bool.true then if(a11.1==16)=Bool.true then Option.bind (Q0 [qa.mk (qb.mk 1 (ByteArray.mk (List.toArray [65,49]))) 5 60 0 [(1:Int)] 0 [],qa.mk (qb.mk 1 (ByteArray.mk (List.toArray [66,49]))) 10 60 0 [(3:Int)] 0 [],qa.mk (qb.mk 1 (ByteArray.mk (List.toArray [65,49]))) 6 60 0 [(2:Int)] 0 [],qa.mk (qb.mk 1 (ByteArray.mk (List.toArray [67,49]))) 5 60 0 [(2:Int)] 1 []]) fun(a12:List (List Int))=>Option.bind (qU a12 [[(0:Int),2,3],[(1:Int)]]) fun(e02:Bool)=>some e02 else some Bool.false else some Bool.false else none else none) a2
theorem q2A:ev 8 0 [] []=(QY).bind (fun(e:Bool)=>some (rB e,[])):=
 by
  rw[qD bd8 pw8.2.2.2 lo8]
  have:=cx8;have:=@q4N;have:=@q2b;have:=@q0b;have:=@q0a;have:=@q1T;have:=@q14;have:=@JA;have:=@QY.eq_1;exact gA
end

noncomputable section
open Go.RowKit
structure Za (d:qd):Prop where
 lo:0≤d.At
 hi:d.At≤d.L.length
 len:d.L.length≤9223372036854775807
theorem JH {d:qd} (h:Za d) {most:Int} (h0:0<most) (h1:most≤1000000):∃v d',qi most d=some (v,d')∧0≤v∧v<most∧Za d':=by
 obtain⟨a,b,c⟩:=h
 unfold qi
 by_cases he:(d.L.length:Int)≤d.At
 ·exact⟨0,d,if_pos he,Int.le_refl _,h0,⟨a,b,c⟩⟩
 ·obtain⟨x,hx⟩:∃x,d.L[Int.toNat d.At]?=some x:=⟨_,qwT (by omega)⟩
  have e1:=Int.tmod_lt_of_pos x h0
  have e2 : -most<Int.tmod x most:=by
   have:=Int.tmod_lt_of_pos (-x) h0
   rw[Int.neg_tmod] at this;omega
  have e3:w64 (Int.tmod x most+most)=Int.tmod x most+most:=Qo (by omega) (by omega)
  have e4:=Int.tmod_lt_of_pos (Int.tmod x most+most) h0
  have e5:0≤Int.tmod (Int.tmod x most+most) most:=Int.tmod_nonneg _ (by omega)
  have e6:w64 (d.At+1)=d.At+1:=Qo (by omega) (by omega)
  refine⟨Int.tmod (Int.tmod x most+most) most,⟨d.L,d.At+1⟩,?_,e5,e4,⟨by show 0≤d.At+1;omega,by show d.At+1≤d.L.length;omega,c⟩⟩
  rw[if_neg he,if_pos ⟨a,by omega⟩,hx,qwR,if_neg (by omega),if_neg (by omega),e3,e6]
def q3p:List Int:=[1,1,1,2,2,3]
def qdk (c:qb):Prop:=c.School∈q3p∧c.Code∈qt
theorem qeV {α:Type} (l:List α) (i:Int) (h0:0≤i) (h1:i<l.length):∃x,l[Int.toNat i]?=some x∧x∈l:=⟨l[Int.toNat i],qwT (by omega),qxI _⟩
theorem q8e {d:qd} (h:Za d):∃c d',Qn d=some (c,d')∧qdk c∧Za d':=by
 obtain⟨v,d1,e1,a1,b1,h1⟩:=JH h (most:=6) (by omega) (by omega)
 obtain⟨w,d2,e2,a2,b2,h2⟩:=JH h1 (most:=((qt.length:Nat):Int)) (by unfold qt;simp) (by unfold qt;simp)
 obtain⟨x,hx,mx⟩:=qeV q3p v a1 (by simpa [q3p] using b1)
 obtain⟨y,hy,my⟩:=qeV qt w a2 b2
 refine⟨⟨x,y⟩,d2,?_,⟨mx,my⟩,h2⟩
 unfold Qn
 rw[e1,qwR,if_pos ⟨a1,b1⟩]
 unfold q3p at hx
 rw[hx,qwR,e2,qwR,if_pos ⟨a2,b2⟩,hy,qwR]
def q7m (a b:qb):Bool:=zu a b
def ceq (a b:qb):Bool:=(a.School==b.School)&&(a.Code.toList==b.Code.toList)
def qkZ {α:Type} (l:List α) (k:Nat) (c:α):List α:=l.take k++c::l.drop k
theorem qhd {α:Type}:∀(ys l:List α) (k:Nat),k+ys.length≤l.length→spl l k ys=l.take k++(ys++l.drop (k+ys.length))
 | [],l,k,_=>by rw[spl,qxA,Nat.add_zero,qxb,qxF]
 | x::ys,l,k,h=>by
  simp only[qx2] at h ⊢
  rw[spl,qhd ys (l.set k x) (k+1) (by rw[qxC];omega)]
  have e:l.set k x=l.take k++x::l.drop (k+1):=by rw[List.set_eq_take_append_cons_drop,if_pos (by omega)]
  have hl:(l.take k).length=k:=by rw[qxk];omega
  have e1:(l.set k x).take (k+1)=l.take k++[x]:=by
   rw[e,List.take_append,hl,qxW (by omega),show k+1-k=1 by omega];rfl
  have e2:(l.set k x).drop (k+1+ys.length)=l.drop (k+(ys.length+1)):=by
   rw[e,List.drop_append,hl,qxx (by omega),qxb,show k+1+ys.length-k=ys.length+1 by omega,List.drop_succ_cons,qxE]
   congr 1;omega
  rw[e1,e2,qxw]
  rfl
theorem qj0 {α:Type} (l:List α) (z c:α) (k:Nat) (h:k<l.length):List.set (spl (l++[z]) (k+1) (List.take (min (l.length+1-k) (l.length+1-(k+1))) (List.take (l.length+1-k) (List.drop k (l++[z]))))) k c=qkZ l k c:=by
 have e1:List.take (min (l.length+1-k) (l.length+1-(k+1))) (List.take (l.length+1-k) (List.drop k (l++[z])))=l.drop k:=by
  rw[List.take_take,List.drop_append_of_le_length (by omega),show min (min (l.length+1-k) (l.length+1-(k+1))) (l.length+1-k)=l.length-k by omega,List.take_append_of_le_length (by rw[qxD];omega),qxW (by rw[qxD];omega)]
 rw[e1,qhd _ _ _ (by rw[qxD,qwY,qx9];omega)]
 unfold qkZ
 have e2:List.drop (k+1+(l.length-k)) (l++[z])=[]:=qxx (by rw[qwY,qx9];omega)
 rw[qxD,e2,qxc,List.take_append_of_le_length (by omega)]
 rw[List.take_add_one,qwT h,Option.toList_some,qxw,List.set_append_right _ _ (by rw[qxk];omega),qxk,Nat.min_eq_left (by omega),Nat.sub_self]
 rfl
theorem qeE {α:Type} (l:List α) (z c:α):List.set (l++[z]) l.length c=qkZ l l.length c:=by
 unfold qkZ
 rw[List.set_append_right _ _ (qx7 _),Nat.sub_self,List.take_length,List.drop_length]
 rfl
def atF (l:List qb) (c:qb):Nat:=(l.takeWhile fun x=>q7m x c).length
theorem qh0 (l:List qb) (c:qb):atF l c≤l.length:=by
 unfold atF
 induction l with
 | nil=>simp
 | cons x l ih=>rw[List.takeWhile_cons];split<;>simp<;>omega
theorem qiP (out:List qb) (hl:out.length≤1000000) (d:qd) (c:qb) (many k:Int):qx (Qm out d c many k) 0=some ((atF out c:Nat):Int):=by
 have h1:=q9M (ε:=Int) (step:=Qm out d c many k) out (fun(_:Unit) i=>(i:Int)) (fun i _ x=>if q7m x c=true then .inl () else .inr (i:Int)) (fun _=>(out.length:Int)) (fun _ i x hx=>by
   have hi:=Q5 hx
   unfold Qm
   rw[if_pos (by omega),if_pos ⟨by omega,by omega⟩,qwU,hx,qwR,q5z hi (by omega)]
   show(if q7m x c=true then _ else _)=_
   cases q7m x c<;>simp) (fun _=>by
   unfold Qm
   rw[if_neg (by omega)]) ()
 rw[show((0:Nat):Int)=0 from rfl] at h1
 rw[h1]
 congr 1
 have:∀(l:List qb) (i:Nat) (n:Nat),i+l.length=n→q7F (ε:=Int) (fun i (_:Unit) (x:qb)=>if q7m x c=true then .inl () else .inr (i:Int)) (fun _=>(n:Int)) l i ()=((i+atF l c:Nat):Int):=by
  intro l
  induction l with
  | nil=>intro i n h;simp at h;unfold q7F atF;simp[h]
  | cons x l ih=>
   intro i n h
   simp only[qx2] at h
   unfold q7F
   by_cases hx:q7m x c=true
   ·have e:atF (x::l) c=atF l c+1:=by unfold atF;rw[List.takeWhile_cons,if_pos hx];rfl
    simp only[hx,if_true]
    rw[ih (i+1) n (by omega),e]
    omega
   ·have e:atF (x::l) c=0:=by unfold atF;rw[List.takeWhile_cons,if_neg hx];rfl
    have hx':q7m x c=false:=by simpa using hx
    simp only[hx',Bool.false_eq_true,if_false]
    rw[e];rfl
 have:=this out 0 out.length (by simp)
 simpa using this
def ql0 (l:List qb) (c:qb):List qb:=if(l[atF l c]?).any (fun x=>ceq x c)=true then l else qkZ l (atF l c) c
theorem qiG (l:List qb) (c:qb):l.length≤(ql0 l c).length∧(ql0 l c).length≤l.length+1∧1≤(ql0 l c).length:=by
 have h:=qh0 l c
 unfold ql0
 split
 ·rename_i h2
  refine⟨qx7 _,by omega,?_⟩
  cases l with
  | nil=>simp at h2
  | cons x l=>simp
 ·unfold qkZ
  simp only[qwY,qx2,qxk,qxD]
  omega
theorem qdI (out:List qb) (hl:out.length≤1000) {d:qd} (hd:Za d) (many:Int) (k:Nat) (hk:(k:Int)<many) (hk2:k≤1000):∃c d',qdk c∧Za d'∧zG many (out,d,(k:Int))=some (.inl (ql0 out c,d',((k+1:Nat):Int))):=by
 obtain⟨c,d',h1,h2,h3⟩:=q8e hd
 refine⟨c,d',h2,h3,?_⟩
 have hML:100000≤maxLen:=by unfold maxLen;omega
 have hat:=qh0 out c
 unfold zG
 simp only
 rw[if_pos hk,h1,qwR]
 simp only
 rw[qiP out (by omega),qwR]
 have hwk:w64 ((k:Int)+1)=((k+1:Nat):Int):=by rw[Qo (by omega) (by omega)];omega
 have hwa:w64 (((atF out c:Nat):Int)+1)=((atF out c+1:Nat):Int):=by rw[Qo (by omega) (by omega)];omega
 rw[hwk,hwa]
 simp only[qwU,qxk,qxD,qwY,qx2,qxA]
 unfold ql0
 by_cases hlt:atF out c<out.length
 ·obtain⟨x,hx⟩:∃x,out[atF out c]?=some x:=⟨_,qwT hlt⟩
  rw[if_pos (by omega),if_pos ⟨by omega,by omega⟩,hx,qwR]
  simp only[Option.any_some]
  by_cases hc:ceq x c=true
  ·have hc2:=hc
   unfold ceq at hc2
   simp only[qxn] at hc2
   rw[if_pos hc2,if_pos hc]
  ·have hc2:¬ ((x.School==c.School)=true∧(x.Code.toList==c.Code.toList)=true):=fun h=>hc (by unfold ceq;rw[h.1,h.2];rfl)
   rw[if_neg hc2,if_neg hc]
   repeat (first|rw[if_pos (by omega)]|rw[if_neg (by omega)])
   rw[qj0 _ _ _ _ hlt]
 ·have he:atF out c=out.length:=by omega
  have hnone:out[out.length]?=none:=qxp (qx7 _)
  rw[he,hnone]
  simp only[Option.any_none,Bool.false_eq_true,if_false]
  repeat (first|rw[if_pos (by omega)]|rw[if_neg (by omega)])
  rw[qeE]
theorem qtD {d:qd} (hd:Za d):∃S d',zU d=some (S,d')∧Za d':=by
 obtain⟨v,d1,e1,a1,b1,h1⟩:=JH hd (most:=3) (by omega) (by omega)
 obtain⟨m,rfl⟩:∃m:Nat,v=(m:Int):=⟨v.toNat,by omega⟩
 have hw:w64 (1+(m:Int))=((m+1:Nat):Int):=by rw[Qo (by omega) (by omega)];omega
 have key:∀(j k:Nat) (out:List qb) (d:qd),j+k=m+1→Za d→out.length≤k→∃S d',qx (zG ((m+1:Nat):Int)) (out,d,(k:Int))=some (S,d')∧Za d':=by
  intro j
  induction j with
  | zero=>
   intro k out d hk hd hl1
   refine⟨out,d,qW ?_,hd⟩
   unfold zG
   simp only
   rw[if_neg (by omega)]
  | succ j ih=>
   intro k out d hk hd hl1
   obtain⟨c,d',g1,g2,g3⟩:=qdI out (by omega) hd ((m+1:Nat):Int) k (by omega) (by omega)
   obtain⟨p1,p2,p3⟩:=qiG out c
   rw[zS g3]
   exact ih (k+1) _ d' (by omega) g2 (by omega)
 obtain⟨S,d',g1,g2⟩:=key (m+1) 0 [] d1 (by omega) h1 (by simp)
 refine⟨S,d',?_,g2⟩
 unfold zU
 rw[e1,qwR,hw]
 rw[show((0:Nat):Int)=0 from rfl] at g1
 simp only
 rw[g1,qwR]
def qdY (d:qd):Option (qh×qd):=Option.bind (qi (3:Int) d) fun a3=>if(a3.1==(0:Int))=Bool.true then Option.bind (qi (12:Int) a3.2) fun a4=>Option.bind (qi (3:Int) a4.2) fun a5=>if(0:Int)≤a5.1∧a5.1<(3:Int) then Option.bind [(0:Int),(50:Int),(60:Int)][Int.toNat a5.1]? fun a6=>Option.bind (zU a5.2) fun a7=>some (qh.mk (2:Int) (w64 ((1:Int)+a4.1)) a6 a7.1 [],a7.2) else none else Option.bind (qi (4:Int) a3.2) fun a8=>if(0:Int)≤a8.1∧a8.1<(4:Int) then Option.bind [(0:Int),(50:Int),(60:Int),(80:Int)][Int.toNat a8.1]? fun a9=>Option.bind (zU a8.2) fun a10=>some (qh.mk (1:Int) (0:Int) a9 a10.1 [],a10.2) else none
theorem q8W {d:qd} (hd:Za d):∃n d',qdY d=some (n,d')∧Za d':=by
 obtain⟨v,d1,e1,a1,b1,h1⟩:=JH hd (most:=3) (by omega) (by omega)
 unfold qdY
 rw[e1,qwR]
 simp only
 by_cases hv:v=0
 ·obtain⟨w,d2,e2,a2,b2,h2⟩:=JH h1 (most:=12) (by omega) (by omega)
  obtain⟨u,d3,e3,a3,b3,h3⟩:=JH h2 (most:=3) (by omega) (by omega)
  obtain⟨x,hx,mx⟩:=qeV [(0:Int),50,60] u a3 (by simpa using b3)
  obtain⟨S,d4,e4,h4⟩:=qtD h3
  have hw:w64 (1+w)=1+w:=Qo (by omega) (by omega)
  refine⟨⟨2,1+w,x,S,[]⟩,d4,?_,h4⟩
  rw[if_pos (by simp[hv]),e2,qwR]
  simp only
  rw[e3,qwR]
  simp only
  rw[if_pos ⟨a3,b3⟩,hx,qwR,e4,qwR,hw]
 ·obtain⟨u,d3,e3,a3,b3,h3⟩:=JH h1 (most:=4) (by omega) (by omega)
  obtain⟨x,hx,mx⟩:=qeV [(0:Int),50,60,80] u a3 (by simpa using b3)
  obtain⟨S,d4,e4,h4⟩:=qtD h3
  refine⟨⟨1,0,x,S,[]⟩,d4,?_,h4⟩
  rw[if_neg (by simpa using hv),e3,qwR]
  simp only
  rw[if_pos ⟨a3,b3⟩,hx,qwR,e4,qwR]
theorem q2Z (rF:(Int×Int×qd)→Option (qh×qd)) (x1 x2:Int) (v:qd):QM rF (x1,x2,v)=(qi 6 v).bind fun a2=>
  if x1≤0 then qdY a2.2 else if x2<2 then qdY a2.2 else if a2.1<2 then qdY a2.2 else
  Option.bind (qi (min (3:Int) x2) a2.2) fun a27=>
  Option.bind (qx (zc rF (0:Int) (0:Int) (0:Int) (3:Int) (0:Int) (0:Int) x1 x2 a2.1 (w64 ((1:Int)+a27.1))) ([],(a27.2,(0:Int)))) fun a28=>
  if(3:Int)<a2.1 then Option.bind (qi (w64 ((1:Int)+a27.1)) a28.2) fun a29=>
   some (qh.mk (4:Int) (w64 ((1:Int)+a29.1)) (0:Int) [] a28.1,a29.2)
  else some (qh.mk (3:Int) (0:Int) (0:Int) [] a28.1,a28.2):=rfl
theorem qbj:∀(deep leaves:Nat) (d:qd),deep≤10→leaves≤100→Za d→∃n d',zC ((deep:Int),(leaves:Int),d)=some (n,d')∧Za d':=by
 intro deep
 induction deep with
 | zero=>
  intro leaves d _ _ hd
  obtain⟨v,d1,e1,a1,b1,h1⟩:=JH hd (most:=6) (by omega) (by omega)
  obtain⟨n,d',g1,g3⟩:=q8W h1
  refine⟨n,d',?_,g3⟩
  rw[q0w,q2Z,e1,qwR,if_pos (by omega)]
  exact g1
 | succ deep ih=>
  intro leaves d hdp hlv hd
  obtain⟨v,d1,e1,a1,b1,h1⟩:=JH hd (most:=6) (by omega) (by omega)
  obtain⟨n0,d0,g1,g3⟩:=q8W h1
  rw[q0w,q2Z,e1,qwR,if_neg (by omega)]
  by_cases hl:leaves<2
  ·exact⟨n0,d0,by rw[if_pos (by omega)];exact g1,g3⟩
  ·rw[if_neg (by omega)]
   by_cases hv:v<2
   ·exact⟨n0,d0,by rw[if_pos hv];exact g1,g3⟩
   ·rw[if_neg hv]
    clear g1 g3 n0 d0
    obtain⟨w,d2,e2,a2,b2,h2⟩:=JH h1 (most:=min 3 (leaves:Int)) (by omega) (by omega)
    simp only
    rw[e2,qwR]
    simp only
    obtain⟨m,hm⟩:∃m:Nat,(m:Int)=1+w:=⟨(1+w).toNat,by omega⟩
    have hw:w64 (1+w)=(m:Int):=by rw[Qo (by omega) (by omega)];omega
    rw[hw]
    have hm1:1≤m:=by omega
    have hm3:m≤3:=by omega
    have hml:m≤leaves:=by omega
    obtain⟨q,hq⟩:∃q,q=leaves / m:=⟨_,rfl⟩
    have hq1:1≤q:=by rw[hq];exact(Nat.le_div_iff_mul_le (by omega)).2 (by omega)
    have hqm:m*q≤leaves:=by rw[hq];exact Nat.mul_div_le _ _
    have hq2:q≤leaves:=by rw[hq];exact Nat.div_le_self _ _
    have hML:100000≤maxLen:=by unfold maxLen;omega
    have hdiv:w64 (Int.tdiv (leaves:Int) (m:Int))=(q:Int):=by
     rw[←Int.ofNat_tdiv,←hq,Qo (by omega) (by omega)]
    have hdeep:w64 (((deep+1:Nat):Int)-1)=(deep:Int):=by rw[Qo (by omega) (by omega)];omega
    have key:∀(j i:Nat) (l:List qh) (d:qd),j+i=m→l.length=i→Za d→∃l' d',qx (zc zC 0 0 0 3 0 0 ((deep+1:Nat):Int) (leaves:Int) v (m:Int)) (l,d,(i:Int))=some (l',d')∧l'.length=m∧Za d':=by
     intro j
     induction j with
     | zero=>
      intro i l d hi hl hd
      refine⟨l,d,qW ?_,by omega,hd⟩
      unfold zc
      simp only
      rw[if_neg (by omega)]
     | succ j ihj=>
      intro i l d hi hl hd
      obtain⟨n,d',q1,q3⟩:=ih q d (by omega) (by omega) hd
      have hs:zc zC 0 0 0 3 0 0 ((deep+1:Nat):Int) (leaves:Int) v (m:Int) (l,d,(i:Int))=some (.inl (l++[n],d',((i+1:Nat):Int))):=by
       unfold zc
       simp only
       rw[if_pos (by omega),if_neg (by omega),hdiv,hdeep,q1,qwR]
       simp only
       rw[if_pos ⟨by omega,by omega⟩,Qo (by omega) (by omega)]
       rfl
      rw[zS hs]
      exact ihj (i+1) (l++[n]) d' (by omega) (by simp[hl]) q3
    obtain⟨l,d3,q1,q2,q4⟩:=key m 0 [] d2 (by omega) rfl h2
    rw[show((0:Nat):Int)=0 from rfl] at q1
    rw[q1,qwR]
    by_cases hv3:(3:Int)<v
    ·obtain⟨u,d4,e4,a4,b4,h4⟩:=JH q4 (most:=(m:Int)) (by omega) (by omega)
     have hwu:w64 (1+u)=1+u:=Qo (by omega) (by omega)
     simp only
     rw[if_pos hv3,e4,qwR,hwu]
     exact⟨_,d4,rfl,h4⟩
    ·simp only
     rw[if_neg hv3]
     exact⟨_,d3,rfl,q4⟩
abbrev nmL:List ByteArray:=[ByteArray.mk (List.toArray [77,117,115,105,99]),ByteArray.mk (List.toArray [76,97,119]),ByteArray.mk (List.toArray [79,108,100,32,109,97,112,115])]
abbrev agL:List Int:=[(0:Int),(0:Int),(0:Int),(2:Int),(5:Int)]
theorem qoA (l:List Int) (hl:l.length≤9223372036854775807):∃p,qK l=some p:=by
 obtain⟨v1,d1,e1,a1,b1,h1⟩:=JH (d:=⟨l,0⟩) ⟨by show(0:Int)≤0;omega,by show(0:Int)≤(l.length:Int);omega,hl⟩ (most:=3) (by omega) (by omega)
 obtain⟨v2,d2,e2,a2,b2,h2⟩:=JH h1 (most:=3) (by omega) (by omega)
 obtain⟨v3,d3,e3,a3,b3,h3⟩:=JH h2 (most:=5) (by omega) (by omega)
 obtain⟨v4,d4,e4,a4,b4,h4⟩:=JH h3 (most:=3) (by omega) (by omega)
 obtain⟨v6,d6,e6,a6,b6,h6⟩:=JH h4 (most:=20) (by omega) (by omega)
 obtain⟨v7,d7,e7,a7,b7,h7⟩:=JH h6 (most:=3) (by omega) (by omega)
 obtain⟨v8,d8,e8,a8,b8,h8⟩:=JH h7 (most:=6) (by omega) (by omega)
 obtain⟨v9,d9,e9,a9,b9,h9⟩:=JH h8 (most:=5) (by omega) (by omega)
 obtain⟨v11,d11,e11,a11,b11,h11⟩:=JH h9 (most:=3) (by omega) (by omega)
 obtain⟨c1,d12,e12,m12,h12⟩:=q8e h11
 obtain⟨c2,d13,e13,m13,h13⟩:=q8e h12
 obtain⟨n1,d14,e14,h14⟩:=qbj 3 6 d13 (by omega) (by omega) h13
 obtain⟨n2,d15,e15,h15⟩:=qbj 3 6 d11 (by omega) (by omega) h11
 obtain⟨nm,g5,q5⟩:=qeV nmL v4 a4 (by show v4<((3:Nat):Int);omega)
 obtain⟨ag,g10,q10⟩:=qeV agL v9 a9 (by show v9<((5:Nat):Int);omega)
 have w1:w64 (1+v1)=1+v1:=Qo (by omega) (by omega)
 have w2:w64 (1+v2)=1+v2:=Qo (by omega) (by omega)
 have w3:w64 (100*v3)=100*v3:=Qo (by omega) (by omega)
 have hm:0≤v7*v8∧v7*v8≤10:=by
  have hv7:v7=0∨v7=1∨v7=2:=by omega
  rcases hv7 with rfl|rfl|rfl<;>omega
 have w4:w64 (v7*v8)=v7*v8:=Qo (by omega) (by omega)
 have e14':zC ((3:Int),((6:Int),d13))=some (n1,d14):=e14
 have e15':zC ((3:Int),((6:Int),d11))=some (n2,d15):=e15
 unfold qK
 rw[e1,qwR];dsimp only
 rw[e2,qwR];dsimp only
 rw[e3,qwR];dsimp only
 rw[e4,qwR];dsimp only
 rw[if_pos ⟨a4,b4⟩,g5,qwR,e6,qwR];dsimp only
 rw[e7,qwR];dsimp only
 rw[e8,qwR];dsimp only
 rw[e9,qwR];dsimp only
 rw[if_pos ⟨a9,b9⟩,g10,qwR,e11,qwR];dsimp only
 rw[w1,w2,w3,w4]
 by_cases h0:v11=0
 ·rw[if_pos (by simpa using h0),e12,qwR];dsimp only
  rw[e13,qwR];dsimp only
  by_cases hp:zu c1 c2=true
  ·rw[if_pos hp,e14',qwR]
   exact⟨_,rfl⟩
  ·rw[if_neg hp,e14',qwR]
   exact⟨_,rfl⟩
 ·rw[if_neg (by simpa using h0),e15',qwR]
  exact⟨_,rfl⟩
end
noncomputable section
open Go.RowKit
section
variable {α ε:Type} {step:Int→Option (Int⊕ε)} (l:List α)
theorem q9o (q:α→Bool) (e0 e1:ε) (hs:∀(i:Nat) (a:α),l[i]?=some a→step (i:Int)=some (if q a=true then .inl ((i+1:Nat):Int) else .inr e0)) (he:step ((l.length:Nat):Int)=some (.inr e1)) :
  qx step (0:Int)=some (if l.all q=true then e1 else e0):=by
 have key:∀(r:List α) (i:Nat),r.length+i=l.length→(∀j,r[j]?=l[i+j]?)→qx step (i:Int)=some (if r.all q=true then e1 else e0):=by
  intro r
  induction r with
  | nil=>
   intro i hi _
   have:i=l.length:=by simpa using hi
   subst this
   exact qW he
  | cons a r ih=>
   intro i hi hj
   have ha:l[i]?=some a:=by have:=hj 0;rw[Nat.add_zero] at this;exact this.symm
   have h1:=hs i a ha
   rw[List.all_cons]
   cases hq:q a
   ·rw[hq,if_neg (by decide)] at h1
    exact qW h1
   ·rw[hq,if_pos rfl] at h1
    rw[zS h1,ih (i+1) (by simp only[qx2] at hi;omega) (fun j=>by have:=hj (j+1);rw[qxg] at this;rw[this];congr 1;omega),qxo]
 exact key l 0 (by omega) fun j=>by rw[qxf]
theorem q26 (q:α→Bool) (mk:Nat→ε) (e1:ε) (hs:∀(i:Nat) (a:α),l[i]?=some a→step (i:Int)=some (if q a=true then .inr (mk i) else .inl ((i+1:Nat):Int))) (he:step ((l.length:Nat):Int)=some (.inr e1)) :
  (l.any q=true∧∃i,qx step (0:Int)=some (mk i))∨(l.any q=false∧qx step (0:Int)=some e1):=by
 have key:∀(r:List α) (i:Nat),r.length+i=l.length→(∀j,r[j]?=l[i+j]?)→(r.any q=true∧∃k,qx step (i:Int)=some (mk k))∨(r.any q=false∧qx step (i:Int)=some e1):=by
  intro r
  induction r with
  | nil=>
   intro i hi _
   have:i=l.length:=by simpa using hi
   subst this
   exact .inr ⟨rfl,qW he⟩
  | cons a r ih=>
   intro i hi hj
   have ha:l[i]?=some a:=by have:=hj 0;rw[Nat.add_zero] at this;exact this.symm
   have h1:=hs i a ha
   rw[List.any_cons]
   cases hq:q a
   ·rw[hq,if_neg (by decide)] at h1
    rw[zS h1,Bool.false_or]
    exact ih (i+1) (by simp only[qx2] at hi;omega) (fun j=>by have:=hj (j+1);rw[qxg] at this;rw[this];congr 1;omega)
   ·rw[hq,if_pos rfl] at h1
    exact .inl ⟨rfl,i,qW h1⟩
 exact key l 0 (by omega) fun j=>by rw[qxf]
end
theorem Q8 {i n:Nat} (h:i<n) (hn:n≤1000000):w64 ((i:Int)+1)=((i+1:Nat):Int):=q5z h (by omega)
theorem q2U (s:List Int) (hs:s.length≤1000000) (v:Int):qP s v=some (s.any fun x=>v==x):=by
 have h:=q26 (step:=qQ s v ((s.length:Nat):Int)) s (fun x=>v==x) (fun i => .inl (i:Int)) (.inr ()) (fun i a ha=>by
  have hi:=Q5 ha
  unfold qQ
  rw[if_pos (by omega),if_pos ⟨by omega,by omega⟩,qwU,ha,qwR,Q8 hi hs]
  split<;>rfl) (by
  unfold qQ
  rw[if_neg (by omega)])
 unfold qP Qb
 rcases h with ⟨h1,i,h2⟩|⟨h1,h2⟩
 ·rw[h2,qwR,Sum.elim_inl,qwR,h1,qxR (by omega)]
 ·rw[h2,qwR,Sum.elim_inr,qwR,h1,decide_eq_false (by omega)]
def q47 (a b:List Int):Bool:=a.any fun x=>b.any fun y=>x==y
theorem qiB (a b:List Int) (ha:a.length≤1000000) (hb:b.length≤1000000):Q4 a b=some (q47 a b):=by
 have h:=q26 (step:=qC b a ((a.length:Nat):Int)) a (fun x=>b.any fun y=>x==y) (fun i => .inl (i:Int)) (.inr ()) (fun i x hx=>by
  have hi:=Q5 hx
  unfold qC QD
  rw[if_pos (by omega),if_pos ⟨by omega,by omega⟩,qwU,hx,qwR,q2U b hb,qwR,qwR,Q8 hi ha]
  split<;>rfl) (by
  unfold qC
  rw[if_neg (by omega)])
 unfold Q4 zf zD q47
 rcases h with ⟨h1,i,h2⟩|⟨h1,h2⟩
 ·rw[h2,qwR,Sum.elim_inl,qwR,h1,qxR (by omega),qwR]
 ·rw[h2,qwR,Sum.elim_inr,qwR,h1,decide_eq_false (by omega),qwR]
theorem q6j (a b:List Int) (ha:a.length≤1000000):za a b=some (decide (a=b)):=by
 unfold za
 by_cases hl:a.length=b.length
 ·rw[if_neg (by rw[hl];simp)]
  have key:∀(r q:List Int) (i:Nat),r.length+i=a.length→q.length=r.length→(∀j,r[j]?=a[i+j]?)→(∀j,q[j]?=b[i+j]?)→qx (qE a b ((a.length:Nat):Int)) (i:Int)=some (if r=q then .inr () else .inl ()):=by
   intro r
   induction r with
   | nil=>
    intro q i hi hq _ _
    obtain rfl:=qxa hq
    have hi:i=a.length:=by simpa using hi
    refine qW ?_
    unfold qE
    rw[if_neg (by omega),if_pos rfl]
   | cons x r ih=>
    intro q i hi hq hr hb
    cases q with
    | nil=>cases hq
    | cons y q=>
     simp only[qx2] at hi hq
     have hx:a[i]?=some x:=by have:=hr 0;rw[Nat.add_zero] at this;exact this.symm
     have hy:b[i]?=some y:=by have:=hb 0;rw[Nat.add_zero] at this;exact this.symm
     have e:qE a b ((a.length:Nat):Int) (i:Int)=some (if(x != y)=true then .inr (.inl ()) else .inl ((i+1:Nat):Int)):=by
      unfold qE
      rw[if_pos (by omega),if_pos ⟨by omega,by omega⟩,qwU,hx,qwR,if_pos ⟨by omega,by omega⟩,hy,qwR,Q8 (Q5 hx) ha]
      split<;>rfl
     by_cases hxy:x=y
     ·subst hxy
      rw[if_neg (by simp)] at e
      rw[zS e,ih q (i+1) (by omega) (by omega) (fun j=>by have:=hr (j+1);rw[qxg] at this;rw[this];congr 1;omega) (fun j=>by have:=hb (j+1);rw[qxg] at this;rw[this];congr 1;omega)]
      simp
     ·rw[if_pos (by simpa using hxy)] at e
      rw[qW e,if_neg (fun h=>hxy (by injection h))]
  have h:=key a b 0 (by omega) hl.symm (fun j=>by rw[qxf]) (fun j=>by rw[qxf])
  change Option.bind (qx _ ((0:Nat):Int)) _=_
  rw[h,qwR]
  by_cases e:a=b
  ·rw[if_pos e,Sum.elim_inr,qxR e]
  ·rw[if_neg e,Sum.elim_inl,decide_eq_false e]
 ·rw[if_pos (by simpa using fun h=>hl (by omega)),decide_eq_false (fun e=>hl (by rw[e]))]
def zd (a:qa):Prop:=a.Sources.length≤1000∧a.Path.length≤1000
def Qh (a b:qa):Bool := !ceq a.Course b.Course&&((decide (0<a.Bundle)&&a.Bundle==b.Bundle&&decide (a.Path=b.Path)) || !q47 a.Sources b.Sources)
theorem q8g {a b:qa} (ha:zd a) (hb:zd b):Z5 a b=some (Qh a b):=by
 have h1:=ha.1;have h2:=ha.2;have h3:=hb.1
 unfold Z5 Qh
 rw[q6j _ _ (by omega),qiB _ _ (by omega) (by omega)]
 simp only[qwR]
 by_cases hc:ceq a.Course b.Course=true
 ·rw[if_pos (by unfold ceq at hc;rw[qxn] at hc;exact hc),hc];rfl
 ·rw[if_neg (by unfold ceq at hc;rw[qxn] at hc;exact hc),qxj.2 hc]
  by_cases h0:0<a.Bundle
  ·rw[if_pos h0,qxR h0]
   cases hbd:a.Bundle==b.Bundle
   ·rw[if_neg (by decide)];simp
   ·rw[if_pos rfl]
    cases hp:decide (a.Path=b.Path)
    ·rw[if_neg (by decide)];simp
    ·rw[if_pos rfl];simp
  ·rw[if_neg h0,decide_eq_false h0];simp
def q8P (l:List qa):Int:=l.foldl (fun n a=>w64 (n+a.Credits)) 0
theorem q5b (l:List qa) (hl:l.length≤1000):QZ l=some (q8P l):=by
 have h:=q0Y (step:=Q2 l ((l.length:Nat):Int)) l (fun(b:Int) k=>(b,(k:Int))) (fun b a=>w64 (b+a.Credits)) (fun b=>b) (fun b k a ha=>by
  have hi:=Q5 ha
  unfold Q2
  dsimp only
  rw[if_pos (by omega),if_pos ⟨by omega,by omega⟩,qwU,ha,qwR,Q8 hi (by omega)]) (fun b=>by
  unfold Q2
  dsimp only
  rw[if_neg (by omega)]) 0
 unfold QZ
 change Option.bind (qx _ ((0:Int),((0:Nat):Int))) _=_
 rw[h];rfl
theorem q8k (x m:Int) (h0:0<m) (h1:m≤1000000):∃v,zV x m=some v∧0≤v∧v<m:=by
 have e1:=Int.tmod_lt_of_pos x h0
 have e2 : -m<Int.tmod x m:=by
  have:=Int.tmod_lt_of_pos (-x) h0
  rw[Int.neg_tmod] at this;omega
 have e3:w64 (Int.tmod x m+m)=Int.tmod x m+m:=Qo (by omega) (by omega)
 refine⟨Int.tmod (Int.tmod x m+m) m,?_,Int.tmod_nonneg _ (by omega),Int.tmod_lt_of_pos _ h0⟩
 unfold zV
 rw[if_neg (by omega),if_neg (by omega),e3]
theorem q4b {d:qd} (h:Za d) {most:Int} (h0:0<most) (h1:most≤1000000):∃v d',qr most d=some (v,d')∧0≤v∧v<most∧Za d':=by
 obtain⟨a,b,c⟩:=h
 unfold qr
 by_cases he:(d.L.length:Int)≤d.At
 ·exact⟨0,d,if_pos he,Int.le_refl _,h0,⟨a,b,c⟩⟩
 ·obtain⟨x,hx⟩:∃x,d.L[Int.toNat d.At]?=some x:=⟨_,qwT (by omega)⟩
  obtain⟨v,e1,e2,e3⟩:=q8k x most h0 h1
  have e6:w64 (d.At+1)=d.At+1:=Qo (by omega) (by omega)
  have e7:w64 (d.At+1-1)=d.At:=by rw[Qo (by omega) (by omega)];omega
  refine⟨v,⟨d.L,d.At+1⟩,?_,e2,e3,⟨by show 0≤d.At+1;omega,by show d.At+1≤d.L.length;omega,c⟩⟩
  rw[if_neg he,e6,e7,if_pos ⟨a,by omega⟩,hx,qwR,e1,qwR]
end
noncomputable section
open Go.RowKit
structure q74 (j:Nat) (a:qa):Prop where
 src:a.Sources.length≤2+j
 pth:a.Path.length≤1+j
 crd:0≤a.Credits∧a.Credits≤40
 day:0≤a.Day∧a.Day≤1000
theorem q74.fit {j:Nat} {a:qa} (h:q74 j a) (hj:j≤900):zd a:=⟨by have:=h.src;omega,by have:=h.pth;omega⟩
theorem q74.mono {j j':Nat} {a:qa} (h:q74 j a) (hj:j≤j'):q74 j' a:=⟨by have:=h.src;omega,by have:=h.pth;omega,h.crd,h.day⟩
theorem q6d (t0:List (List Int)) (hq:∀q∈t0,q.length≤9223372036854775807) (l:List qa) (k:Nat) (hl:l.length=k) (hk:k<t0.length) (h8:k<8) :
  ∃a,q74 0 a∧zK t0 (l,(k:Int))=some (.inl (l++[a],((k+1:Nat):Int))):=by
 have hML:100000≤maxLen:=by unfold maxLen;omega
 obtain⟨q,hqk⟩:∃q,t0[k]?=some q:=⟨_,qwT hk⟩
 have hd:Za ⟨q,0⟩:=⟨by show(0:Int)≤0;omega,by show(0:Int)≤(q.length:Int);omega,hq q (qwS hqk)⟩
 obtain⟨v1,d1,e1,a1,b1,h1⟩:=q4b hd (most:=6) (by omega) (by omega)
 obtain⟨c,hc,_⟩:=qeV qt v1 a1 (by unfold qt;simpa using b1)
 obtain⟨v2,d2,e2,a2,b2,h2⟩:=q4b h1 (most:=3) (by omega) (by omega)
 obtain⟨cr,hcr,mcr⟩:=qeV [(5:Int),6,10] v2 a2 (by simpa using b2)
 obtain⟨v3,d3,e3,a3,b3,h3⟩:=q4b h2 (most:=11) (by omega) (by omega)
 obtain⟨v4,d4,e4,a4,b4,h4⟩:=q4b h3 (most:=60) (by omega) (by omega)
 obtain⟨v5,d5,e5,a5,b5,h5⟩:=q4b h4 (most:=9) (by omega) (by omega)
 obtain⟨v6,d6,e6,a6,b6,h6⟩:=q4b h5 (most:=3) (by omega) (by omega)
 obtain⟨v7,d7,e7,a7,b7,h7⟩:=q4b h6 (most:=3) (by omega) (by omega)
 obtain⟨v8,d8,e8,a8,b8,h8'⟩:=q4b h7 (most:=4) (by omega) (by omega)
 obtain⟨v9,d9,e9,a9,b9,h9⟩:=q4b h8' (most:=3) (by omega) (by omega)
 obtain⟨v10,d10,e10,a10,b10,h10⟩:=q4b h9 (most:=3) (by omega) (by omega)
 obtain⟨v11,d11,e11,a11,b11,h11⟩:=q4b h10 (most:=3) (by omega) (by omega)
 have hw:w64 ((k:Int)+1)=((k+1:Nat):Int):=by rw[Qo (by omega) (by omega)];omega
 have hcr2:0≤cr∧cr≤40:=by
  have:cr=5∨cr=6∨cr=10:=by simpa using mcr
  omega
 have hdy:0≤w64 ((10:Int)*v4)∧w64 ((10:Int)*v4)≤1000:=by rw[Qo (by omega) (by omega)];omega
 unfold zK
 dsimp only
 rw[if_pos (by omega),if_pos (by omega),if_pos ⟨by omega,by omega⟩,qwU,hqk,qwR,e1,qwR]
 dsimp only
 rw[if_pos ⟨a1,by unfold qt;simpa using b1⟩,hc,qwR,e2,qwR]
 dsimp only
 rw[if_pos ⟨a2,b2⟩,hcr,qwR,e3,qwR]
 dsimp only
 rw[e4,qwR]
 dsimp only
 rw[e5,qwR]
 dsimp only
 rw[e6,qwR]
 dsimp only
 rw[e7]
 by_cases h0:v6=0
 ·rw[if_pos (by simpa using h0),qwR]
  dsimp only
  rw[e8,qwR]
  dsimp only
  rw[e9,qwR]
  dsimp only
  rw[e10]
  by_cases h00:v9=0
  ·rw[if_pos (by simpa using h00),qwR]
   dsimp only
   rw[e11,qwR]
   dsimp only
   rw[if_pos ⟨by omega,by omega⟩,hw]
   exact⟨_,⟨qx7 _,qx7 _,hcr2,hdy⟩,rfl⟩
  ·rw[if_neg (by simpa using h00),qwR]
   dsimp only
   rw[if_pos ⟨by omega,by omega⟩,hw]
   exact⟨_,⟨by show 1≤2;omega,qx7 _,hcr2,hdy⟩,rfl⟩
 ·rw[if_neg (by simpa using h0),if_pos ⟨by omega,by omega⟩,hw]
  exact⟨_,⟨by show 1≤2;omega,by show 0≤1;omega,hcr2,hdy⟩,rfl⟩
theorem qmf (t0:List (List Int)) (hq:∀q∈t0,q.length≤9223372036854775807) (ht:t0.length≤9223372036854775807):∃l,Zx t0=some l∧l.length≤8∧∀a∈l,q74 0 a:=by
 have key:∀(j k:Nat) (l:List qa),j+k=min t0.length 8→l.length=k→(∀a∈l,q74 0 a)→∃l',qx (zK t0) (l,(k:Int))=some l'∧l'.length=min t0.length 8∧∀a∈l',q74 0 a:=by
  intro j
  induction j with
  | zero=>
   intro k l hk hl hs
   refine⟨l,qW ?_,by omega,hs⟩
   unfold zK
   dsimp only
   by_cases h:(k:Int)<(t0.length:Int)
   ·rw[if_pos h,if_neg (by omega)]
   ·rw[if_neg h]
  | succ j ih=>
   intro k l hk hl hs
   obtain⟨a,h1,h2⟩:=q6d t0 hq l k hl (by omega) (by omega)
   rw[zS h2]
   refine ih (k+1) (l++[a]) (by omega) (by simp[hl]) fun x hx=>?_
   rcases qxl.1 hx with h|h
   ·exact hs x h
   ·rw[qxH.1 h];exact h1
 obtain⟨l,h1,h2,h3⟩:=key (min t0.length 8) 0 [] (by omega) rfl (fun a ha=>by cases ha)
 refine⟨l,?_,by omega,h3⟩
 unfold Zx
 change Option.bind (qx _ ([],((0:Nat):Int))) _=_
 rw[h1];rfl
theorem qdy {a:qa} (h:zd a):ZA a=some (a.Course.School,a.Course.Code,a.Credits,a.Grade,a.Day,a.Bundle,a.Sources,a.Path):=by
 have hML:100000≤maxLen:=by unfold maxLen;omega
 have h1:=h.1;have h2:=h.2
 unfold ZA
 rw[if_pos ⟨by omega,by omega⟩,if_pos ⟨by omega,by omega⟩]
theorem qru {j:Nat} (hj:j≤100) {a:qa} (h:q74 j a) (q:QT Int):∃b,Qy a q=some b∧q74 (j+1) b:=by
 have hML:100000≤maxLen:=by unfold maxLen;omega
 have h1:=h.src;have h2:=h.pth;have h3:=h.crd;have h9:=h.day
 obtain⟨n,e1,n0,n1⟩:=q8k q.a1 40 (by omega) (by omega)
 obtain⟨k,e2,k0,k1⟩:=q8k q.a0 8 (by omega) (by omega)
 unfold Qy
 rw[qdy (h.fit (by omega)),qwR,e1,qwR,e2,qwR]
 dsimp only
 have hmod:0≤Int.tmod n 4∧Int.tmod n 4<4:=⟨Int.tmod_nonneg _ n0,Int.tmod_lt_of_pos _ (by omega)⟩
 obtain⟨c,hc,_⟩:=qeV [ByteArray.mk (List.toArray [65,49]),ByteArray.mk (List.toArray [66,49]),ByteArray.mk (List.toArray []),ByteArray.mk (List.toArray [65])] (Int.tmod n 4) hmod.1 (by simpa using hmod.2)
 have hb:∀(sc:Int) (cd:ByteArray) (cr g d:Int) (S:List Int) (bd:Int) (P:List Int),S.length≤2+(j+1)→P.length≤1+(j+1)→0≤cr∧cr≤40→0≤d∧d≤1000→q74 (j+1) (qa.mk (qb.mk sc cd) cr g d S bd P):=fun sc cd cr g d S bd P a1 a2 a3 a4=>⟨a1,a2,a3,a4⟩
 by_cases h00:k=0
 ·rw[if_pos (by simpa using h00)];exact⟨_,rfl,hb _ _ _ _ _ _ _ _ (by omega) (by omega) h3 h9⟩
 rw[if_neg (by simpa using h00)]
 by_cases h01:k=1
 ·rw[if_pos (by simpa using h01),if_pos hmod,hc,qwR];exact⟨_,rfl,hb _ _ _ _ _ _ _ _ (by omega) (by omega) h3 h9⟩
 rw[if_neg (by simpa using h01)]
 by_cases h02:k=2
 ·rw[if_pos (by simpa using h02)];exact⟨_,rfl,hb _ _ _ _ _ _ _ _ (by omega) (by omega) ⟨n0,by omega⟩ h9⟩
 rw[if_neg (by simpa using h02)]
 by_cases h03:k=3
 ·rw[if_pos (by simpa using h03)];exact⟨_,rfl,hb _ _ _ _ _ _ _ _ (by omega) (by omega) h3 h9⟩
 rw[if_neg (by simpa using h03)]
 by_cases h04:k=4
 ·rw[if_pos (by simpa using h04)];exact⟨_,rfl,hb _ _ _ _ _ _ _ _ (by omega) (by omega) h3 (by rw[Qo (by omega) (by omega)];omega)⟩
 rw[if_neg (by simpa using h04)]
 by_cases h05:k=5
 ·rw[if_pos (by simpa using h05),if_pos ⟨by omega,by omega⟩];exact⟨_,rfl,hb _ _ _ _ _ _ _ _ (by simp;omega) (by omega) h3 h9⟩
 rw[if_neg (by simpa using h05)]
 by_cases h06:k=6
 ·rw[if_pos (by simpa using h06)];exact⟨_,rfl,hb _ _ _ _ _ _ _ _ (by omega) (by omega) h3 h9⟩
 rw[if_neg (by simpa using h06)]
 by_cases h07:k=7
 ·rw[if_pos (by simpa using h07),if_pos ⟨by omega,by omega⟩];exact⟨_,rfl,hb _ _ _ _ _ _ _ _ (by omega) (by simp;omega) h3 h9⟩
 ·rw[if_neg (by simpa using h07)];exact⟨_,rfl,hb _ _ _ _ _ _ _ _ (by omega) (by omega) h3 h9⟩
theorem qbT {j:Nat} (hj:j≤100) {l:List qa} (hl:l.length≤8) (hs:∀a∈l,q74 j a) (h0:0<l.length) (q:qhA Int):∃(k:Nat) (a b:qa),k<l.length∧zV q.a2 ((l.length:Nat):Int)=some (k:Int)∧l[k]?=some a∧Qy a (QT.mk q.a0 q.a1)=some b∧(List.set l k b).length≤8∧∀x∈List.set l k b,q74 (j+1) x:=by
 obtain⟨v,e1,v0,v1⟩:=q8k q.a2 ((l.length:Nat):Int) (by omega) (by omega)
 obtain⟨k,rfl⟩:∃k:Nat,v=(k:Int):=⟨v.toNat,by omega⟩
 have hk:k<l.length:=by omega
 obtain⟨b,e2,hb⟩:=qru hj (hs _ (qxI hk)) (QT.mk q.a0 q.a1)
 refine⟨k,l[k],b,hk,e1,qwT hk,e2,by rw[qxC];exact hl,fun x hx=>?_⟩
 rcases List.mem_or_eq_of_mem_set hx with h|rfl
 ·exact(hs x h).mono (by omega)
 ·exact hb
theorem q9L (c:Qq) (hq:∀q∈c.Has,q.length≤9223372036854775807) (ht:c.Has.length≤9223372036854775807) (hp:c.Programme.length≤9223372036854775807):∃l p d,Q1 c=some (l,p,d)∧l.length≤8∧(∀a∈l,q74 2 a)∧d=Int.tmod (w64 c.Day) 800:=by
 obtain⟨l,e1,l8,hs⟩:=qmf c.Has hq ht
 obtain⟨p,hpe⟩:=qoA c.Programme hp
 unfold Q1
 rw[e1,qwR,hpe]
 by_cases h0:0<l.length
 ·have h0':(0:Int)<((l.length:Nat):Int):=by omega
  rw[if_pos h0']
  obtain⟨k,a,b,hk,q1,q2,q3,q4,q5⟩:=qbT (j:=0) (by omega) l8 hs h0 c.Odd.a0
  by_cases h1:(0:Int)<c.Odd.a0.a0
  ·rw[if_pos h1,q1,qwR,if_pos ⟨by omega,by omega⟩,qwU,q2,qwR,q3,qwR,if_pos ⟨by omega,by omega⟩,if_pos (by omega),if_pos h0']
   by_cases h2:(0:Int)<c.Odd.a1.a0
   ·obtain⟨k',a',b',hk',r1,r2,r3,r4,r5⟩:=qbT (j:=1) (by omega) q4 q5 (by rw[qxC];exact h0) c.Odd.a1
    rw[qxC] at hk' r1
    rw[if_pos h2,r1,qwR,if_pos ⟨by omega,by omega⟩,qwU,r2,qwR,r3,qwR,if_pos ⟨by omega,by omega⟩,if_pos (by omega)]
    exact⟨_,_,_,rfl,r4,r5,rfl⟩
   ·rw[if_neg h2]
    exact⟨_,_,_,rfl,q4,fun x hx=>(q5 x hx).mono (by omega),rfl⟩
  ·rw[if_neg h1,if_pos h0']
   by_cases h2:(0:Int)<c.Odd.a1.a0
   ·obtain⟨k',a',b',hk',r1,r2,r3,r4,r5⟩:=qbT (j:=0) (by omega) l8 hs h0 c.Odd.a1
    rw[if_pos h2,r1,qwR,if_pos ⟨by omega,by omega⟩,qwU,r2,qwR,r3,qwR,if_pos ⟨by omega,by omega⟩,if_pos (by omega)]
    exact⟨_,_,_,rfl,r4,fun x hx=>(r5 x hx).mono (by omega),rfl⟩
   ·rw[if_neg h2]
    exact⟨_,_,_,rfl,l8,fun x hx=>(hs x hx).mono (by omega),rfl⟩
 ·have h0':¬ (0:Int)<((l.length:Nat):Int):=by omega
  rw[if_neg h0',if_neg h0']
  exact⟨_,_,_,rfl,l8,fun x hx=>(hs x hx).mono (by omega),rfl⟩
theorem qc9 (c:Qq) (hq:∀q∈c.Has,q.length≤9223372036854775807) (ht:c.Has.length≤9223372036854775807) (hp:c.Programme.length≤9223372036854775807):∃l p d,Q1 c=some (l,p,d)∧l.length≤8∧∀a∈l,q74 2 a:=by
 obtain⟨l,p,d,h1,h2,h3,-⟩:=q9L c hq ht hp
 exact⟨l,p,d,h1,h2,h3⟩
end
noncomputable section
section
variable {A:Type} (fr:List A→Bool) (cr:List A→Int)
def dfs:List A→List A→Int→Int
 | [],_,b=>b
 | a::r,s,b=>dfs r s (if fr (s++[a])=true then dfs r (s++[a]) (max b (cr (s++[a]))) else b)
def pt:List A→Nat→List A
 | [],_=>[]
 | a::l,m=>if m % 2=1 then a::pt l (m / 2) else pt l (m / 2)
def qba (l:List A) (b:Int) (ms:List Nat):Int:=ms.foldl (fun b m=>if fr (pt l m)=true then max b (cr (pt l m)) else b) b
def q73 (l:List A) (v:Int):Prop:=(∃s,s.Sublist l∧fr s=true∧cr s=v)∧∀s,s.Sublist l→fr s=true→cr s≤v
variable {fr cr}
theorem q6F:∀(r s:List A) (b:Int),b≤dfs fr cr r s b
 | [],_,b=>Int.le_refl b
 | a::r,s,b=>by
  unfold dfs
  refine Int.le_trans ?_ (q6F r s _)
  split
  ·exact Int.le_trans (Int.le_max_left _ _) (q6F r _ _)
  ·exact Int.le_refl b
theorem qbs (hp:∀x y,fr (x++y)=true→fr x=true):∀(r s:List A) (b:Int) (t:List A),t.Sublist r→t≠[]→fr (s++t)=true→cr (s++t)≤dfs fr cr r s b
 | [],s,b,t,ht,hn,_=>absurd (List.sublist_nil.1 ht) hn
 | a::r,s,b,t,ht,hn,hf=>by
  unfold dfs
  cases ht with
  | cons _ h=>exact qbs hp r s _ t h hn hf
  | cons_cons _ h=>
   rename_i t
   have e:s++a::t=(s++[a])++t:=by simp
   rw[e] at hf ⊢
   rw[if_pos (hp _ _ hf)]
   refine Int.le_trans ?_ (q6F r s _)
   by_cases h0:t=[]
   ·subst h0
    rw[qxc]
    exact Int.le_trans (Int.le_max_right _ _) (q6F r _ _)
   ·exact qbs hp r _ _ t h h0 hf
theorem qb2:∀(r s:List A) (b:Int),dfs fr cr r s b=b∨∃t,t.Sublist r∧fr (s++t)=true∧dfs fr cr r s b=cr (s++t)
 | [],_,b => .inl rfl
 | a::r,s,b=>by
  unfold dfs
  rcases qb2 r s (if fr (s++[a])=true then dfs fr cr r (s++[a]) (max b (cr (s++[a]))) else b) with h|⟨t,h1,h2,h3⟩
  ·rw[h]
   by_cases hf:fr (s++[a])=true
   ·simp only[if_pos hf]
    rcases qb2 r (s++[a]) (max b (cr (s++[a]))) with h|⟨t,h1,h2,h3⟩
    ·rw[h]
     by_cases hm:cr (s++[a])≤b
     ·exact .inl (Int.max_eq_left hm)
     ·exact .inr ⟨[a],(List.Sublist.cons_cons a (List.nil_sublist r)),hf,Int.max_eq_right (by omega)⟩
    ·refine .inr ⟨a::t,h1.cons_cons a,?_,?_⟩
     ·rw[show s++a::t=(s++[a])++t by simp];exact h2
     ·rw[show s++a::t=(s++[a])++t by simp];exact h3
   ·rw[if_neg hf];exact .inl rfl
  ·exact .inr ⟨t,h1.cons a,h2,h3⟩
theorem qfN (hp:∀x y,fr (x++y)=true→fr x=true) (h0:fr []=true) (hc:cr []=0) (l:List A):q73 fr cr l (dfs fr cr l [] 0):=by
 refine⟨?_,fun s hs hf=>?_⟩
 ·rcases qb2 (fr:=fr) (cr:=cr) l [] 0 with h|⟨t,h1,h2,h3⟩
  ·exact⟨[],List.nil_sublist l,h0,by rw[h,hc]⟩
  ·exact⟨t,h1,h2,h3.symm⟩
 ·by_cases hn:s=[]
  ·subst hn;rw[hc];exact q6F l [] 0
  ·exact qbs hp l [] 0 s hs hn hf
theorem q6Y:∀(l:List A) (m:Nat),(pt l m).Sublist l
 | [],_ => .slnil
 | a::l,m=>by
  unfold pt
  split
  ·exact(q6Y l _).cons_cons a
  ·exact(q6Y l _).cons a
theorem qcs:∀{l s:List A},s.Sublist l→∃m,m<2 ^ l.length∧pt l m=s
 | [],s,h=>⟨0,by simp,by rw[List.sublist_nil.1 h];rfl⟩
 | a::l,s,h=>by
  cases h with
  | cons _ h=>
   obtain⟨m,h1,h2⟩:=qcs h
   refine⟨2*m,by rw[qx2,Nat.pow_succ];omega,?_⟩
   unfold pt
   rw[if_neg (by omega),show 2*m / 2=m by omega,h2]
  | cons_cons _ h=>
   obtain⟨m,h1,h2⟩:=qcs h
   refine⟨2*m+1,by rw[qx2,Nat.pow_succ];omega,?_⟩
   unfold pt
   rw[if_pos (by omega),show(2*m+1) / 2=m by omega,h2]
theorem qdj (l:List A):∀(ms:List Nat) (b:Int),b≤qba fr cr l b ms
 | [],b=>Int.le_refl b
 | m::ms,b=>by
  show b≤qba fr cr l (if fr (pt l m)=true then max b (cr (pt l m)) else b) ms
  refine Int.le_trans ?_ (qdj l ms _)
  split
  ·exact Int.le_max_left _ _
  ·exact Int.le_refl b
theorem qd0 (l:List A):∀(ms:List Nat) (b:Int) (m:Nat),m∈ms→fr (pt l m)=true→cr (pt l m)≤qba fr cr l b ms
 | m'::ms,b,m,hm,hf=>by
  show _≤qba fr cr l (if fr (pt l m')=true then max b (cr (pt l m')) else b) ms
  rcases qxd.1 hm with rfl|hm
  ·rw[if_pos hf]
   exact Int.le_trans (Int.le_max_right _ _) (qdj l ms _)
  ·exact qd0 l ms _ m hm hf
theorem qce (l:List A):∀(ms:List Nat) (b:Int),qba fr cr l b ms=b∨∃m,m∈ms∧fr (pt l m)=true∧qba fr cr l b ms=cr (pt l m)
 | [],b => .inl rfl
 | m::ms,b=>by
  show qba fr cr l (if fr (pt l m)=true then max b (cr (pt l m)) else b) ms=b∨∃k,k∈m::ms∧fr (pt l k)=true∧qba fr cr l (if fr (pt l m)=true then max b (cr (pt l m)) else b) ms=cr (pt l k)
  rcases qce l ms (if fr (pt l m)=true then max b (cr (pt l m)) else b) with h|⟨k,h1,h2,h3⟩
  ·rw[h]
   by_cases hf:fr (pt l m)=true
   ·rw[if_pos hf]
    by_cases hm:cr (pt l m)≤b
    ·exact .inl (Int.max_eq_left hm)
    ·exact .inr ⟨m,qx6,hf,Int.max_eq_right (by omega)⟩
   ·rw[if_neg hf];exact .inl rfl
  ·exact .inr ⟨k,qwZ _ h1,h2,h3⟩
theorem qcr (h0:fr []=true) (hc:cr []=0) (l:List A):q73 fr cr l (qba fr cr l 0 (List.range (2 ^ l.length))):=by
 refine⟨?_,fun s hs hf=>?_⟩
 ·rcases qce (fr:=fr) (cr:=cr) l (List.range (2 ^ l.length)) 0 with h|⟨m,-,h2,h3⟩
  ·exact⟨[],List.nil_sublist l,h0,by rw[h,hc]⟩
  ·exact⟨_,q6Y l m,h2,h3.symm⟩
 ·obtain⟨m,h1,h2⟩:=qcs hs
  subst h2
  exact qd0 l _ 0 m (qxN.2 h1) hf
theorem qaN {l:List A} {v w:Int} (h1:q73 fr cr l v) (h2:q73 fr cr l w):v=w:=by
 obtain⟨⟨s,a1,a2,a3⟩,a4⟩:=h1
 obtain⟨⟨t,b1,b2,b3⟩,b4⟩:=h2
 exact Int.le_antisymm (by rw[←a3];exact b4 s a1 a2) (by rw[←b3];exact a4 t b1 b2)
end
end
noncomputable section
open Go.RowKit
theorem q2c {α ε:Type} {step:Int→Option (Int⊕ε)} (l:List α) (q:α→Bool) (e0 e1:ε) (hs:∀(i:Nat) (a:α),l[i]?=some a→step (i:Int)=some (if q a=true then .inr e0 else .inl ((i+1:Nat):Int))) (he:step ((l.length:Nat):Int)=some (.inr e1)) :
  qx step (0:Int)=some (if l.any q=true then e0 else e1):=by
 rcases q26 l q (fun _=>e0) e1 hs he with ⟨h1,i,h2⟩|⟨h1,h2⟩
 ·rw[h2,h1];rfl
 ·rw[h2,h1];rfl
theorem q8T (a b:List Int) (ha:a.length≤1000000):Qe a b=some (decide (a=b)):=by
 unfold Qe
 by_cases hl:a.length=b.length
 ·rw[if_neg (by rw[hl];simp)]
  have key:∀(r q:List Int) (i:Nat),r.length+i=a.length→q.length=r.length→(∀j,r[j]?=a[i+j]?)→(∀j,q[j]?=b[i+j]?)→qx (zh a b) (i:Int)=some (if r=q then .inr () else .inl ()):=by
   intro r
   induction r with
   | nil=>
    intro q i hi hq _ _
    obtain rfl:=qxa hq
    have hi:i=a.length:=by simpa using hi
    refine qW ?_
    unfold zh
    rw[if_neg (by omega),if_pos rfl]
   | cons x r ih=>
    intro q i hi hq hr hb
    cases q with
    | nil=>cases hq
    | cons y q=>
     simp only[qx2] at hi hq
     have hx:a[i]?=some x:=by have:=hr 0;rw[Nat.add_zero] at this;exact this.symm
     have hy:b[i]?=some y:=by have:=hb 0;rw[Nat.add_zero] at this;exact this.symm
     have e:zh a b (i:Int)=some (if(x != y)=true then .inr (.inl ()) else .inl ((i+1:Nat):Int)):=by
      unfold zh
      rw[if_pos (by omega),if_pos ⟨by omega,by omega⟩,qwU,hx,qwR,if_pos ⟨by omega,by omega⟩,hy,qwR,Q8 (Q5 hx) ha]
      split<;>rfl
     by_cases hxy:x=y
     ·subst hxy
      rw[if_neg (by simp)] at e
      rw[zS e,ih q (i+1) (by omega) (by omega) (fun j=>by have:=hr (j+1);rw[qxg] at this;rw[this];congr 1;omega) (fun j=>by have:=hb (j+1);rw[qxg] at this;rw[this];congr 1;omega)]
      simp
     ·rw[if_pos (by simpa using hxy)] at e
      rw[qW e,if_neg (fun h=>hxy (by injection h))]
  have h:=key a b 0 (by omega) hl.symm (fun j=>by rw[qxf]) (fun j=>by rw[qxf])
  change Option.bind (qx _ ((0:Nat):Int)) _=_
  rw[h,qwR]
  by_cases e:a=b
  ·rw[if_pos e,Sum.elim_inr,qxR e]
  ·rw[if_neg e,Sum.elim_inl,decide_eq_false e]
 ·rw[if_pos (by simpa using fun h=>hl (by omega)),decide_eq_false (fun e=>hl (by rw[e]))]
theorem qgL (a b:qb):ceq a b=ceq b a:=by
 unfold ceq
 rw[Bool.beq_comm (a:=a.School),Bool.beq_comm (a:=a.Code.toList)]
theorem q9C (a b:List Int):q47 a b=q47 b a:=by
 have h:∀a b:List Int,q47 a b=true→q47 b a=true:=fun a b h=>by
  unfold q47 at h ⊢
  obtain⟨x,h1,h2⟩:=qxL.1 h
  obtain⟨y,h3,h4⟩:=qxL.1 h2
  have e:x=y:=by simpa using h4
  exact qxL.2 ⟨y,h3,qxL.2 ⟨x,h1,by simp[e]⟩⟩
 exact Bool.eq_iff_iff.2 ⟨h a b,h b a⟩
theorem q8b (a b:qa):Qh a b=Qh b a:=by
 unfold Qh
 rw[qgL,q9C]
 by_cases hb:a.Bundle=b.Bundle
 ·rw[hb]
  have e:decide (a.Path=b.Path)=decide (b.Path=a.Path):=by
   by_cases hp:a.Path=b.Path
   ·rw[hp]
   ·rw[decide_eq_false hp,decide_eq_false fun h=>hp h.symm]
  rw[e]
 ·rw[show(a.Bundle==b.Bundle)=false by simpa using hb,show(b.Bundle==a.Bundle)=false by simpa using fun h=>hb h.symm];simp
def Z3:List qa→Bool
 | []=>true
 | a::l=>l.all (fun b=>Qh a b)&&Z3 l
theorem q0u:∀l:List qa,Z3 l=true↔l.Pairwise fun a b=>Qh a b=true
 | []=>⟨fun _ => .nil,fun _=>rfl⟩
 | a::l=>by
  unfold Z3
  rw[qxn,qx8,q0u l,List.pairwise_cons]
theorem qjt (l:List qa) (hl:l.length≤1000) (hf:∀a∈l,zd a):Zk l=some (Z3 l):=by
 have cf:∀(s:List qa) (a:qa),s.length≤1000→(∀b∈s,zd b)→zd a→qn s a=some (s.any fun b => !Qh a b):=fun s a hs hsf ha=>by
  have h:=q26 (step:=ql a s ((s.length:Nat):Int)) s (fun b => !Qh a b) (fun i => .inl (i:Int)) (.inr ()) (fun i b hb=>by
   have hi:=Q5 hb
   unfold ql ZH
   rw[if_pos (by omega),if_pos ⟨by omega,by omega⟩,qwU,hb,qwR,q8g ha (hsf b (qwS hb)),qwR,qwR,Q8 hi (by omega)]
   split<;>rfl) (by
   unfold ql
   rw[if_neg (by omega)])
  unfold qn qs
  rcases h with ⟨h1,i,h2⟩|⟨h1,h2⟩
  ·rw[h2,qwR,Sum.elim_inl,qwR,h1,qxR (by omega)]
  ·rw[h2,qwR,Sum.elim_inr,qwR,h1,decide_eq_false (by omega)]
 have key:∀(r:List qa) (i:Nat),r.length+i=l.length→l.drop i=r→qx (Qk l l ((l.length:Nat):Int)) (i:Int)=some (if Z3 r=true then .inr () else .inl ()):=by
  intro r
  induction r with
  | nil=>
   intro i hi _
   have hi:i=l.length:=by simpa using hi
   refine qW ?_
   unfold Qk
   rw[if_neg (by omega)];rfl
  | cons a r ih=>
   intro i hi hd
   simp only[qx2] at hi
   have ha:l[i]?=some a:=by have:=congrArg (fun x:List qa=>x[0]?) hd;simpa [List.getElem?_drop] using this
   have hd1:l.drop (i+1)=r:=by rw[←qxE,hd];rfl
   have hr:∀b∈r,zd b:=fun b hb=>hf b (List.mem_of_mem_drop (i:=i) (by rw[hd];exact qwZ _ hb))
   have e:Qk l l ((l.length:Nat):Int) (i:Int)=some (if(r.any fun b => !Qh a b)=true then .inr (.inl ()) else .inl ((i+1:Nat):Int)):=by
    unfold Qk
    rw[if_pos (by omega),if_pos ⟨by omega,by omega⟩,qwU,ha,qwR,Q8 (Q5 ha) (by omega),if_pos ⟨by omega,by omega⟩,qwU,hd1,qxW (by omega),cf r a (by omega) hr (hf a (qwS ha)),qwR]
    split<;>rfl
   unfold Z3
   cases hq:r.any fun b => !Qh a b
   ·have hall:r.all (fun b=>Qh a b)=true:=by
     rw[qx8];intro b hb
     have:=List.any_eq_false.1 hq b hb
     simpa using this
    rw[hq,if_neg (by decide)] at e
    rw[zS e,ih (i+1) (by omega) hd1,hall,qxo]
   ·have hall:r.all (fun b=>Qh a b)=false:=by
     rw[List.all_eq_false]
     obtain⟨b,h1,h2⟩:=qxL.1 hq
     exact⟨b,h1,by simpa using h2⟩
    rw[hq,if_pos rfl] at e
    rw[qW e,hall];rfl
 unfold Zk
 change Option.bind (qx _ ((0:Nat):Int)) _=_
 rw[key l 0 (by omega) rfl,qwR]
 cases Z3 l<;>rfl
theorem q2j:∀(l:List qa) (a:qa),Z3 (l++[a])=(Z3 l&&l.all fun b=>Qh b a)
 | [],a=>rfl
 | x::l,a=>by
  rw[qxV]
  unfold Z3
  rw[q2j l a,List.all_append,List.all_cons (a:=x) (l:=l)]
  simp only[List.all_cons,List.all_nil,qxS]
  cases l.all (fun b=>Qh x b)<;>cases Qh x a<;>cases Z3 l<;>simp
theorem qe9 (x y:List qa) (h:Z3 (x++y)=true):Z3 x=true:=
 (q0u _).2 (((q0u _).1 h).sublist (List.sublist_append_left x y))
end
noncomputable section
inductive Cn (e:Nat→Nat→Prop):Nat→Nat→Prop
 | refl (k:Nat):Cn e k k
 | step {i j k:Nat}:Cn e i j→e j k→Cn e i k
def Lw (e:Nat→Nat→Prop) (k m:Nat):Prop:=Cn e k m∧∀j,Cn e k j→m≤j
section
variable {e:Nat→Nat→Prop}
theorem Cn.trans {i j k:Nat} (h:Cn e i j) (h2:Cn e j k):Cn e i k:=by
 induction h2 with
 | refl=>exact h
 | step _ h4 ih=>exact ih.step h4
theorem Cn.one {i j:Nat} (h:e i j):Cn e i j:=(Cn.refl i).step h
theorem Cn.symm (hs:∀i j,e i j→e j i) {i j:Nat} (h:Cn e i j):Cn e j i:=by
 induction h with
 | refl=>exact .refl _
 | step _ h4 ih=>exact(Cn.one (hs _ _ h4)).trans ih
theorem Cn.lt {n:Nat} (hn:∀i j,e i j→i<n∧j<n) {i j:Nat} (h:Cn e i j) (hi:i<n):j<n:=by
 cases h with
 | refl=>exact hi
 | step _ h4=>exact(hn _ _ h4).2
theorem Lw.uniq {k m m':Nat} (h:Lw e k m) (h':Lw e k m'):m=m':=Nat.le_antisymm (h.2 _ h'.1) (h'.2 _ h.1)
theorem Lw.same (hs:∀i j,e i j→e j i) {k j m:Nat} (h:Lw e k m) (hc:Cn e k j):Lw e j m:=⟨(hc.symm hs).trans h.1,fun i hi=>h.2 i (hc.trans hi)⟩
theorem Lw.self (hs:∀i j,e i j→e j i) {k m:Nat} (h:Lw e k m):Lw e m m:=h.same hs h.1
theorem qqS (k:Nat):∃m,Lw e k m:=by
 have:∀b j,j≤b→Cn e k j→∃m,Lw e k m:=by
  intro b
  induction b with
  | zero=>intro j hj hc;exact⟨j,hc,fun i _=>by omega⟩
  | succ b ih=>
   intro j hj hc
   by_cases h:∃i,i≤b∧Cn e k i
   ·obtain⟨i,h1,h2⟩:=h;exact ih i h1 h2
   ·refine⟨j,hc,fun i hi=>?_⟩
    by_cases hib:i≤b
    ·exact absurd ⟨i,hib,hi⟩ h
    ·omega
 exact this k k (qx7 k) (.refl k)
theorem qaT {n:Nat} (hn:∀i j,e i j→i<n∧j<n) (hs:∀i j,e i j→e j i) {f:Nat→Nat} (h1:∀k,k<n→Cn e k (f k)) (h2:∀k,k<n→f k≤k) (h3:∀i k,e i k→f k≤f i) {k:Nat} (hk:k<n):Lw e k (f k):=by
 have hc:∀j,Cn e k j→f j=f k:=fun j hj=>by
  induction hj with
  | refl=>rfl
  | step _ h4 ih=>rw[←ih];exact Nat.le_antisymm (h3 _ _ h4) (h3 _ _ (hs _ _ h4))
 refine⟨h1 k hk,fun j hj=>?_⟩
 rw[←hc j hj]
 exact h2 j (hj.lt hn hk)
theorem qiU {l:List Nat} {p q:Nat→Bool} (h:∀x∈l,p x=true→q x=true) {y:Nat} (hy:y∈l) (h1:p y=false) (h2:q y=true):(l.filter p).length<(l.filter q).length:=by
 have mono:∀l:List Nat,(∀x∈l,p x=true→q x=true)→(l.filter p).length≤(l.filter q).length:=by
  intro l
  induction l with
  | nil=>intro _;exact qx7 _
  | cons a l ih=>
   intro h
   have:=ih fun x hx=>h x (qwZ _ hx)
   rw[List.filter_cons,List.filter_cons]
   by_cases ha:p a=true
   ·rw[if_pos ha,if_pos (h a qx6 ha)];simp only[qx2];omega
   ·rw[if_neg ha];split
    ·simp only[qx2];omega
    ·exact this
 induction l with
 | nil=>cases hy
 | cons a l ih=>
  have ht:=fun x hx=>h x (qwZ _ hx)
  rw[List.filter_cons,List.filter_cons]
  rcases qxd.1 hy with rfl|hy
  ·have:=mono l ht
   rw[if_neg (by rw[h1];simp),if_pos h2];simp only[qx2];omega
  ·have:=ih ht hy
   by_cases ha:p a=true
   ·rw[if_pos ha,if_pos (h a qx6 ha)];simp only[qx2];omega
   ·rw[if_neg ha];split
    ·simp only[qx2];omega
    ·exact this
theorem q6T {n:Nat} (hn:∀i j,e i j→i<n∧j<n) (hs:∀i j,e i j→e j i) {G:Nat→Nat→Nat} (h0:∀k,k<n→G 0 k=k) (h1:∀r k,k<n→G (r+1) k≤G r k) (h2:∀r i k,e i k→G (r+1) i≤G r k)
  (h3:∀r k,k<n→Cn e k (G r k)) {k:Nat} (hk:k<n):Lw e k (G n k):=by
 obtain⟨m,hm⟩:=qqS (e:=e) k
 have hmn:m<n:=hm.1.lt hn hk
 have hge:∀r j,Cn e m j→m≤G r j:=fun r j hj=>hm.2 _ ((hm.1.trans hj).trans (h3 r j (hj.lt hn hmn)))
 have hA:∀r j,Cn e m j→G r j=m→G (r+1) j=m:=fun r j hj h=>Nat.le_antisymm (by have:=h1 r j (hj.lt hn hmn);omega) (hge _ _ hj)
 have h0m:∀r,G r m=m:=by
  intro r
  induction r with
  | zero=>exact h0 m hmn
  | succ r ih=>exact hA r m (.refl m) ih
 -- either all that is joined has it, or there is one more
 have key:∀r,(∀j,Cn e m j→G r j=m)∨r+1≤((List.range n).filter fun j=>decide (G r j=m)).length:=by
  intro r
  induction r with
  | zero=>
   refine .inr ?_
   have:m∈(List.range n).filter fun j=>decide (G 0 j=m):=qxM.2 ⟨qxN.2 hmn,qxR (h0 m hmn)⟩
   exact List.length_pos_of_mem this
  | succ r ih=>
   rcases ih with ih|ih
   ·exact .inl fun j hj=>hA r j hj (ih j hj)
   ·by_cases hcl:∀j,j<n→G (r+1) j=m→G r j=m
    ·refine .inl fun j hj=>?_
     have:G r j=m:=by
      induction hj with
      | refl=>exact h0m r
      | step hij he ih2=>
       rename_i j k
       have hk:=(hn _ _ he).2
       refine hcl k hk (Nat.le_antisymm ?_ (hge _ _ (hij.step he)))
       have:=h2 r k j (hs _ _ he)
       omega
     exact hA r j hj this
    ·refine .inr ?_
     simp only[Classical.not_forall] at hcl
     obtain⟨j,hj,hj1,hj2⟩:=hcl
     have:=qiU (l:=List.range n) (p:=fun j=>decide (G r j=m)) (q:=fun j=>decide (G (r+1) j=m)) (fun x hx hp=>by
      have hp:=of_decide_eq_true hp
      have hx:=qxN.1 hx
      have hcx:Cn e m x:=by have:=(h3 r x hx).symm hs;rw[hp] at this;exact this
      exact qxR (hA r x hcx hp)) (qxN.2 hj) (decide_eq_false hj2) (qxR hj1)
     omega
 rcases key n with h|h
 ·rw[h k (hm.1.symm hs)];exact hm
 ·have:=List.length_filter_le (fun j=>decide (G n j=m)) (List.range n)
  rw[List.length_range] at this
  omega
end
def q5G (n:Nat) (f:Nat→Nat):List (List Nat):=((List.range n).filter fun k=>decide (f k=k)).map fun r=>(List.range n).filter fun i=>decide (f i=r)
theorem q4Z {n:Nat} {f g:Nat→Nat} (h:∀k,k<n→f k=g k):q5G n f=q5G n g:=by
 unfold q5G
 have e1:(List.range n).filter (fun k=>decide (f k=k))=(List.range n).filter fun k=>decide (g k=k):=List.filter_congr fun k hk=>by rw[h k (qxN.1 hk)]
 rw[e1]
 exact List.map_congr_left fun r _=>List.filter_congr fun k hk=>by rw[h k (qxN.1 hk)]
end
noncomputable section
def q1x (g:List Nat) (j:Nat×Nat):List Nat:=(g.set j.1 (min (g.getD j.1 0) (g.getD j.2 0))).set j.2 (min (g.getD j.1 0) (g.getD j.2 0))
def QW (js:List (Nat×Nat)) (g:List Nat):List Nat:=js.foldl q1x g
def QO (js:List (Nat×Nat)):Nat→List Nat→List Nat
 | 0,g=>g
 | r+1,g=>QO js r (QW js g)
theorem JB (g:List Nat) (j:Nat×Nat):(q1x g j).length=g.length:=by unfold q1x;rw[qxC,qxC]
theorem q0W:∀(js:List (Nat×Nat)) (g:List Nat),(QW js g).length=g.length
 | [],_=>rfl
 | j::js,g=>(q0W js (q1x g j)).trans (JB g j)
theorem q1v (js:List (Nat×Nat)):∀(r:Nat) (g:List Nat),(QO js r g).length=g.length
 | 0,_=>rfl
 | r+1,g=>(q1v js r _).trans (q0W js g)
theorem J1 (js:List (Nat×Nat)):∀(r:Nat) (g:List Nat),QO js (r+1) g=QW js (QO js r g)
 | 0,_=>rfl
 | r+1,g=>J1 js r (QW js g)
theorem q3r {g:List Nat} {i:Nat} (v k:Nat) (hi:i<g.length):(g.set i v).getD k 0=if k=i then v else g.getD k 0:=by
 simp only[List.getD_eq_getElem?_getD]
 by_cases h:k=i
 ·subst h;rw[if_pos rfl,qxO hi];rfl
 ·rw[if_neg h,qxP (by omega)]
theorem q1F {g:List Nat} {j:Nat×Nat} (h1:j.1<g.length) (h2:j.2<g.length) (k:Nat):(q1x g j).getD k 0=if k=j.1∨k=j.2 then min (g.getD j.1 0) (g.getD j.2 0) else g.getD k 0:=by
 unfold q1x
 rw[q3r _ _ (by rw[qxC];exact h2),q3r _ _ h1]
 by_cases a:k=j.2<;>by_cases b:k=j.1<;>simp[a,b]
section
variable {e:Nat→Nat→Prop}
theorem q5k {g:List Nat} {j:Nat×Nat} (h1:j.1<g.length) (h2:j.2<g.length) (k:Nat):(q1x g j).getD k 0≤g.getD k 0:=by
 rw[q1F h1 h2]
 split
 ·rename_i h
  rcases h with rfl|rfl
  ·exact Nat.min_le_left _ _
  ·exact Nat.min_le_right _ _
 ·exact qx7 _
theorem q0q:∀(js:List (Nat×Nat)) (g:List Nat),(∀j∈js,j.1<g.length∧j.2<g.length)→∀k,(QW js g).getD k 0≤g.getD k 0
 | [],_,_,_=>qx7 _
 | j::js,g,h,k=>by
  have hj:=h j qx6
  exact qxs (q0q js (q1x g j) (fun x hx=>by rw[JB];exact h x (qwZ _ hx)) k) (q5k hj.1 hj.2 k)
theorem q1u:∀(js:List (Nat×Nat)) (g:List Nat),(∀j∈js,j.1<g.length∧j.2<g.length)→∀j∈js,(QW js g).getD j.1 0≤g.getD j.2 0∧(QW js g).getD j.2 0≤g.getD j.1 0
 | j::js,g,h,i,hi=>by
  have hj:=h j qx6
  have ht:∀x∈js,x.1<(q1x g j).length∧x.2<(q1x g j).length:=fun x hx=>by rw[JB];exact h x (qwZ _ hx)
  rcases qxd.1 hi with rfl|hi
  ·have a:=q0q js (q1x g i) ht i.1
   have b:=q0q js (q1x g i) ht i.2
   rw[q1F hj.1 hj.2,if_pos (.inl rfl)] at a
   rw[q1F hj.1 hj.2,if_pos (.inr rfl)] at b
   exact⟨qxs a (Nat.min_le_right _ _),qxs b (Nat.min_le_left _ _)⟩
  ·obtain⟨a,b⟩:=q1u js (q1x g j) ht i hi
   exact⟨qxs a (q5k hj.1 hj.2 _),qxs b (q5k hj.1 hj.2 _)⟩
theorem q6b (hs:∀i j,e i j→e j i):∀(js:List (Nat×Nat)) (g:List Nat),(∀j∈js,j.1<g.length∧j.2<g.length∧e j.1 j.2)→(∀k,k<g.length→Cn e k (g.getD k 0))→∀k,k<g.length→Cn e k ((QW js g).getD k 0)
 | [],_,_,h,k,hk=>h k hk
 | j::js,g,h,hc,k,hk=>by
  obtain⟨h1,h2,h3⟩:=h j qx6
  refine q6b hs js (q1x g j) (fun x hx=>by rw[JB];exact h x (qwZ _ hx)) (fun i hi=>?_) k (by rw[JB];exact hk)
  rw[JB] at hi
  rw[q1F h1 h2]
  have c1:=hc _ h1
  have c2:=hc _ h2
  have c3:∀i,Cn e i j.1→Cn e i (min (g.getD j.1 0) (g.getD j.2 0)):=fun i hi=>by
   by_cases hm:g.getD j.1 0≤g.getD j.2 0
   ·rw[Nat.min_eq_left hm];exact hi.trans c1
   ·rw[Nat.min_eq_right (by omega)];exact(hi.step h3).trans c2
  split
  ·rename_i h
   rcases h with rfl|rfl
   ·exact c3 _ (.refl _)
   ·exact c3 _ (Cn.one (hs _ _ h3))
  ·exact hc i hi
theorem qax {n:Nat} (hn:∀i j,e i j→i<n∧j<n) (hs:∀i j,e i j→e j i) {js:List (Nat×Nat)} (h1:∀j∈js,j.1<n∧j.2<n∧e j.1 j.2) (h2:∀i k,e i k→i=k∨(i,k)∈js∨(k,i)∈js) {k:Nat} (hk:k<n) :
  Lw e k ((QO js n (List.range n)).getD k 0):=by
 have hl:∀r,(QO js r (List.range n)).length=n:=fun r=>by rw[q1v,List.length_range]
 have hj:∀r,∀j∈js,j.1<(QO js r (List.range n)).length∧j.2<(QO js r (List.range n)).length:=fun r j hj=>by rw[hl];exact⟨(h1 j hj).1,(h1 j hj).2.1⟩
 have h0:∀k,k<n→(List.range n).getD k 0=k:=fun k hk=>by rw[List.getD_eq_getElem?_getD,List.getElem?_range hk];rfl
 refine q6T (G:=fun r k=>(QO js r (List.range n)).getD k 0) hn hs h0 (fun r k hk=>?_) (fun r i k he=>?_) (fun r k hk=>?_) hk
 ·show(QO js (r+1) _).getD k 0≤_
  rw[J1];exact q0q _ _ (hj r) k
 ·show(QO js (r+1) _).getD i 0≤(QO js r _).getD k 0
  rw[J1]
  rcases h2 i k he with rfl|h|h
  ·exact q0q _ _ (hj r) i
  ·exact(q1u _ _ (hj r) _ h).1
  ·exact(q1u _ _ (hj r) _ h).2
 ·show Cn e k ((QO js r _).getD k 0)
  clear hj
  induction r generalizing k with
  | zero=>show Cn e k ((List.range n).getD k 0);rw[h0 k hk];exact .refl k
  | succ r ih=>
   rw[J1]
   exact q6b hs js _ (fun j hj=>by rw[hl];exact h1 j hj) (fun k hk=>ih k (by rw[←hl r];exact hk)) k (by rw[hl];exact hk)
end
end
noncomputable section
def qev (e:Nat→Nat→Bool) (s:List Nat×Bool) (p:Nat×Nat):List Nat×Bool:=if e p.1 p.2=true∧s.1.getD p.2 0<s.1.getD p.1 0 then(s.1.set p.1 (s.1.getD p.2 0),true) else s
def Zn (e:Nat→Nat→Bool) (ps:List (Nat×Nat)) (s:List Nat×Bool):List Nat×Bool:=ps.foldl (qev e) s
theorem q5a:∀{g:List Nat} {k v:Nat},k<g.length→v<g.getD k 0→(g.set k v).sum<g.sum
 | a::g,0,v,_,h=>by
  have:v<a:=h
  rw[List.set_cons_zero,List.sum_cons,List.sum_cons];omega
 | a::g,k+1,v,hk,h=>by
  have:=q5a (g:=g) (k:=k) (v:=v) (by simpa using hk) h
  rw[List.set_cons_succ,List.sum_cons,List.sum_cons];omega
structure qhn (e:Nat→Nat→Bool) (ps:List (Nat×Nat)) (g:List Nat) (a:Bool) (g':List Nat) (a':Bool):Prop where
 len:g'.length=g.length
 sum:g'.sum≤g.sum
 up:a=true→a'=true
 lt:a'=true→a=true∨g'.sum<g.sum
 eq:a'=false→g'=g∧∀p∈ps,e p.1 p.2=true→g.getD p.1 0≤g.getD p.2 0
 cn:(∀k,k<g.length→Cn (fun i j=>e i j=true) k (g.getD k 0))→∀k,k<g.length→Cn (fun i j=>e i j=true) k (g'.getD k 0)
 le:(∀k,k<g.length→g.getD k 0≤k)→∀k,k<g.length→g'.getD k 0≤k
theorem q3y {e:Nat→Nat→Bool}:∀(ps:List (Nat×Nat)) (g:List Nat) (a:Bool),(∀p∈ps,p.1<g.length∧p.2<g.length)→qhn e ps g a (Zn e ps (g,a)).1 (Zn e ps (g,a)).2
 | [],g,a,_=>⟨rfl,qx7 _,fun h=>h,fun h => .inl h,fun h=>⟨rfl,fun p hp=>by cases hp⟩,fun h=>h,fun h=>h⟩
 | p::ps,g,a,h=>by
  obtain⟨h1,h2⟩:=h p qx6
  show qhn e (p::ps) g a (Zn e ps (qev e (g,a) p)).1 (Zn e ps (qev e (g,a) p)).2
  by_cases hc:e p.1 p.2=true∧g.getD p.2 0<g.getD p.1 0
  ·have es:qev e (g,a) p=(g.set p.1 (g.getD p.2 0),true):=if_pos hc
   rw[es]
   have hs:=q5a h1 hc.2
   obtain⟨q1,q2,q3,q4,q5,q6,q7⟩:=q3y (e:=e) ps (g.set p.1 (g.getD p.2 0)) true (fun x hx=>by rw[qxC];exact h x (qwZ _ hx))
   rw[qxC] at q1 q6 q7
   refine⟨q1,by omega,fun _=>q3 rfl,fun _ => .inr (by omega),fun hf=>?_,fun hcn=>q6 fun k hk=>?_,fun hle=>q7 fun k hk=>?_⟩
   ·rw[q3 rfl] at hf;cases hf
   ·rw[q3r _ _ h1]
    split
    ·rename_i he;subst he;exact(Cn.one hc.1).trans (hcn _ h2)
    ·exact hcn k hk
   ·rw[q3r _ _ h1]
    split
    ·rename_i he;subst he;have:=hle p.1 h1;omega
    ·exact hle k hk
  ·have es:qev e (g,a) p=(g,a):=if_neg hc
   rw[es]
   obtain⟨q1,q2,q3,q4,q5,q6,q7⟩:=q3y (e:=e) ps g a (fun x hx=>h x (qwZ _ hx))
   refine⟨q1,q2,q3,q4,fun hf=>?_,q6,q7⟩
   obtain⟨q8,q9⟩:=q5 hf
   refine⟨q8,fun x hx he=>?_⟩
   rcases qxd.1 hx with rfl|hx
   ·have:¬ g.getD x.2 0<g.getD x.1 0:=fun hl=>hc ⟨he,hl⟩
    omega
   ·exact q9 x hx he
theorem q9h {e:Nat→Nat→Bool} {n:Nat} (ps:List (Nat×Nat)) (hps:∀p∈ps,p.1<n∧p.2<n) {Q:List Nat→Prop} (step:∀g,g.length=n→(Zn e ps (g,false)).2=true→Q (Zn e ps (g,false)).1→Q g) (fin:∀g,g.length=n→(Zn e ps (g,false)).2=false→(∀p∈ps,e p.1 p.2=true→g.getD p.1 0≤g.getD p.2 0)→
  (∀k,k<n→Cn (fun i j=>e i j=true) k (g.getD k 0))→(∀k,k<n→g.getD k 0≤k)→Q g):∀(m:Nat) (g:List Nat),g.sum≤m→g.length=n→(∀k,k<n→Cn (fun i j=>e i j=true) k (g.getD k 0))→(∀k,k<n→g.getD k 0≤k)→Q g
 | m,g,hm,hl,hc,hle=>by
  have ok:=q3y (e:=e) ps g false (fun p hp=>by rw[hl];exact hps p hp)
  cases ha:(Zn e ps (g,false)).2 with
  | false=>exact fin g hl ha (ok.eq ha).2 hc hle
  | true=>
   have hlt:(Zn e ps (g,false)).1.sum<g.sum:=(ok.lt ha).resolve_left (by simp)
   refine step g hl ha ?_
   cases m with
   | zero=>omega
   | succ m=>exact q9h ps hps step fin m _ (by omega) (by rw[ok.len,hl]) (fun k hk=>ok.cn (by rw[hl];exact hc) k (by rw[hl];exact hk)) (fun k hk=>ok.le (by rw[hl];exact hle) k (by rw[hl];exact hk))
def prs (n:Nat):List (Nat×Nat):=(List.range n).flatMap fun k=>(List.range n).map fun i=>(k,i)
theorem qeb {n k i:Nat}:(k,i)∈prs n↔k<n∧i<n:=by
 unfold prs
 simp only[List.mem_flatMap,qxB,qxN,Prod.mk.injEq]
 exact⟨fun⟨a,h1,b,h2,h3,h4⟩=>by omega,fun⟨h1,h2⟩=>⟨k,h1,i,h2,rfl,rfl⟩⟩
end
noncomputable section
open Go.RowKit
theorem q3J {κ ν:Type} [DecidableEq κ] (z:ν) (k:κ) (v:ν) (b:κ):∀M:List (κ×ν),Z8 z (q2R M k v) b=if b=k then v else Z8 z M b
 | []=>by
  show(if b=k then v else z)=_
  rfl
 | p::M=>by
  unfold q2R
  by_cases h:k=p.1
  ·rw[if_pos h]
   show(if b=k then v else Z8 z M b)=if b=k then v else Z8 z (p::M) b
   by_cases hb:b=k
   ·rw[if_pos hb,if_pos hb]
   ·rw[if_neg hb,if_neg hb]
    show _=if b=p.1 then p.2 else Z8 z M b
    rw[if_neg (by rw[←h];exact hb)]
  ·rw[if_neg h]
   show(if b=p.1 then p.2 else Z8 z (q2R M k v) b)=if b=k then v else(if b=p.1 then p.2 else Z8 z M b)
   rw[q3J z k v b M]
   by_cases hb:b=p.1
   ·rw[if_pos hb,if_pos hb,if_neg (fun h'=>h (by rw[←h',hb]))]
   ·rw[if_neg hb,if_neg hb]
theorem q5I (x:Int):∀(l:List Int) (n:Int),n∈cpF x l↔n∈x::l
 | [],n=>Iff.rfl
 | y::l,n=>by
  unfold cpF
  by_cases h:x=y
  ·rw[if_pos h,q5I y l n];subst h;simp
  ·rw[if_neg h,qxd,q5I y l n,qxd (l:=y::l)]
theorem q48 (x:Int):∀(l:List Int),(x::l).Pairwise (·≤·)→(cpF x l).Nodup
 | [],_=>by simp[cpF]
 | y::l,h=>by
  unfold cpF
  obtain⟨h1,h2⟩:=List.pairwise_cons.1 h
  by_cases e:x=y
  ·rw[if_pos e];exact q48 y l h2
  ·rw[if_neg e,List.nodup_cons]
   refine⟨fun hx=>?_,q48 y l h2⟩
   have hy:=h1 y qx6
   rcases qxd.1 ((q5I y l x).1 hx) with h|h
   ·exact e h
   ·have:=(List.pairwise_cons.1 h2).1 x h
    omega
theorem qdl (s:List Int) (n:Int):n∈cpI (ZK s)↔n∈s:=by
 rw[←(q0T s).mem_iff]
 cases ZK s with
 | nil=>exact Iff.rfl
 | cons x l=>exact q5I x l n
theorem qbJ (s:List Int):(cpI (ZK s)).Nodup:=by
 have:=q0B s
 cases h:ZK s with
 | nil=>exact .nil
 | cons x l=>rw[h] at this;exact q48 x l this
def q4G (M:List (Int×Int)) (n:Int):List (Int×Int):=q2R M n (w64 (Z8 0 M n+1))
theorem q65:∀(ns:List Int) (M:List (Int×Int)) (k:Int),ns.Nodup→(∀n∈ns,0≤Z8 0 M n∧Z8 0 M n<1000000)→Z8 0 (ns.foldl q4G M) k=Z8 0 M k+if k∈ns then 1 else 0
 | [],M,k,_,_=>by simp
 | n::ns,M,k,hn,hb=>by
  obtain⟨h1,h2⟩:=List.nodup_cons.1 hn
  have hw:w64 (Z8 0 M n+1)=Z8 0 M n+1:=by have:=hb n qx6;exact Qo (by omega) (by omega)
  have hg:∀b,Z8 0 (q4G M n) b=if b=n then Z8 0 M n+1 else Z8 0 M b:=fun b=>by unfold q4G;rw[q3J,hw]
  rw[qxT,q65 ns (q4G M n) k h2 (fun m hm=>by
   rw[hg,if_neg (fun h:m=n=>h1 (by rw[←h];exact hm))];exact hb m (qwZ _ hm)),hg]
  by_cases e:k=n
  ·subst e;rw[if_pos rfl,if_neg h1,if_pos qx6];omega
  ·rw[if_neg e]
   by_cases hk:k∈ns
   ·rw[if_pos hk,if_pos (qwZ _ hk)]
   ·rw[if_neg hk,if_neg (fun h=>(qxd.1 h).elim e hk)]
def qbe (l:List (List Int)) (M:List (Int×Int)):List (Int×Int):=l.foldl (fun M s=>(cpI (ZK s)).foldl q4G M) M
theorem qcO:∀(l:List (List Int)) (M:List (Int×Int)) (b:Nat),(∀k,0≤Z8 0 M k∧Z8 0 M k≤(b:Int))→b+l.length<1000000→∀k,Z8 0 (qbe l M) k=Z8 0 M k+((l.filter fun s=>decide (k∈s)).length:Int)
 | [],M,b,_,_,k=>by simp[qbe]
 | s::l,M,b,hM,hl,k=>by
  simp only[qx2] at hl
  have hg:∀k,Z8 0 ((cpI (ZK s)).foldl q4G M) k=Z8 0 M k+if k∈cpI (ZK s) then 1 else 0:=fun k=>q65 _ M k (qbJ s) fun n _=>by have:=hM n;omega
  have hs:qbe (s::l) M=qbe l ((cpI (ZK s)).foldl q4G M):=rfl
  rw[hs,qcO l _ (b+1) (fun k=>by
   rw[hg];have:=hM k
   split<;>omega) (by omega),hg,List.filter_cons]
  by_cases h:k∈s
  ·rw[if_pos ((qdl s k).2 h),if_pos (by simpa using h),qx2];omega
  ·rw[if_neg (fun h'=>h ((qdl s k).1 h')),if_neg (by simpa using h)];omega
theorem qkz (l:List (List Int)) (hl:l.length<1000000) (k:Int):Z8 0 (qbe l []) k=((l.filter fun s=>decide (k∈s)).length:Int):=by
 rw[qcO l [] 0 (fun k=>by show(0:Int)≤0∧(0:Int)≤0;omega) (by omega)]
 show(0:Int)+_=_
 omega
theorem qeI {l:List (List Int)} {i:Nat} {s:List Int} {k:Int} (hi:l[i]?=some s) (hk:k∈s):(1:Int)<((l.filter fun s=>decide (k∈s)).length:Int)↔∃j t,j≠i∧l[j]?=some t∧k∈t:=by
 have hlt:=Q5 hi
 have e:l=l.take i++s::l.drop (i+1):=by
  rw[qwT hlt] at hi
  injection hi with hi
  rw[←hi,List.getElem_cons_drop,qxF]
 have hf:(l.filter fun s=>decide (k∈s)).length=((l.take i).filter fun s=>decide (k∈s)).length+(((l.drop (i+1)).filter fun s=>decide (k∈s)).length+1):=by
  conv=>lhs;rw[e]
  rw[List.filter_append,qwY,List.filter_cons,if_pos (by simpa using hk),qx2]
 rw[hf]
 constructor
 ·intro h
  have:0<((l.take i).filter fun s=>decide (k∈s)).length∨0<((l.drop (i+1)).filter fun s=>decide (k∈s)).length:=by omega
  rcases this with h|h
  ·obtain⟨t,ht⟩:=List.exists_mem_of_length_pos h
   obtain⟨h1,h2⟩:=qxM.1 ht
   obtain⟨j,hj⟩:=List.getElem?_of_mem h1
   have hji:j<i:=by have:=Q5 hj;rw[qxk] at this;omega
   rw[qxq hji] at hj
   exact⟨j,t,by omega,hj,by simpa using h2⟩
  ·obtain⟨t,ht⟩:=List.exists_mem_of_length_pos h
   obtain⟨h1,h2⟩:=qxM.1 ht
   obtain⟨j,hj⟩:=List.getElem?_of_mem h1
   rw[List.getElem?_drop] at hj
   exact⟨i+1+j,t,by omega,hj,by simpa using h2⟩
 ·rintro⟨j,t,h1,h2,h3⟩
  by_cases hji:j<i
  ·have:0<((l.take i).filter fun s=>decide (k∈s)).length:=List.length_pos_of_mem (a:=t) (qxM.2 ⟨qwS (i:=j) (by rw[qxq hji];exact h2),by simpa using h3⟩)
   omega
  ·have:0<((l.drop (i+1)).filter fun s=>decide (k∈s)).length:=List.length_pos_of_mem (a:=t) (qxM.2 ⟨qwS (i:=j-(i+1)) (by rw[List.getElem?_drop,show i+1+(j-(i+1))=j by omega];exact h2),by simpa using h3⟩)
   omega
end
noncomputable section
theorem qhq {p:Nat→Bool}:∀{n c r:Nat},((List.range n).filter p)[c]?=some r→r<n∧p r=true∧((List.range r).filter p).length=c
 | 0,c,r,h=>by simp at h
 | n+1,c,r,h=>by
  rw[List.range_succ,List.filter_append] at h
  by_cases hc:c<((List.range n).filter p).length
  ·rw[qxu hc] at h
   obtain⟨h1,h2⟩:=qhq h
   exact⟨by omega,h2⟩
  ·rw[qxt (by omega),List.filter_cons] at h
   by_cases hp:p n=true
   ·rw[if_pos hp] at h
    cases hd:c-((List.range n).filter p).length with
    | zero=>
     rw[hd] at h
     have h:n=r:=by simpa using h
     subst h
     exact⟨by omega,hp,by omega⟩
    | succ d=>rw[hd] at h;simp at h
   ·rw[if_neg hp] at h;simp at h
theorem qh8 {p:Nat→Bool}:∀{n r:Nat},r<n→p r=true→((List.range n).filter p)[((List.range r).filter p).length]?=some r
 | n+1,r,h,hp=>by
  rw[List.range_succ,List.filter_append]
  by_cases hr:r=n
  ·subst hr
   rw[qxt (qx7 _),Nat.sub_self,List.filter_cons,if_pos hp];rfl
  ·have:=qh8 (n:=n) (by omega) hp
   rw[qxu (Q5 this)];exact this
def rts (n:Nat) (f:Nat→Nat):List Nat:=(List.range n).filter fun k=>decide (f k=k)
def rows (n k:Nat) (f:Nat→Nat):List (List Int):=(rts n f).map fun r=>((List.range k).filter fun i=>decide (f i=r)).map fun(i:Nat)=>(i:Int)
def ixs (k:Nat) (f:Nat→Nat):List (Int×Int):=(rts k f).map fun(r:Nat)=>((r:Int),((rts r f).length:Int))
variable {f:Nat→Nat}
theorem q9s {g:Nat→Int}:∀{L:List Nat} {r:Nat},r∈L→Z8 0 (L.map fun(r:Nat)=>((r:Int),g r)) (r:Int)=g r
 | a::L,r,h=>by
  show(if(r:Int)=(a:Int) then g a else Z8 0 (L.map fun(r:Nat)=>((r:Int),g r)) (r:Int))=g r
  by_cases e:r=a
  ·subst e;rw[if_pos rfl]
  ·rw[if_neg (by omega)];exact q9s ((qxd.1 h).resolve_left e)
theorem q9c {g:Nat→Int} {k:Nat} {v:Int}:∀{L:List Nat},k ∉ L→q2R (L.map fun(r:Nat)=>((r:Int),g r)) (k:Int) v=(L.map fun(r:Nat)=>((r:Int),g r))++[((k:Int),v)]
 | [],_=>rfl
 | a::L,h=>by
  obtain⟨h1,h2⟩:=not_or.1 (fun h'=>h (qxd.2 h'):¬ (k=a∨k∈L))
  show(if(k:Int)=(a:Int) then _ else _)=_
  rw[if_neg (by omega),q9c h2];rfl
theorem qjT {k r:Nat} (h:f r=r) (hr:r<k):Z8 0 (ixs k f) (r:Int)=((rts r f).length:Int):=
 q9s (qxM.2 ⟨qxN.2 hr,qxR h⟩)
theorem qhQ (k:Nat):(ixs k f).length=(rts k f).length:=qxz ..
theorem qeT (k:Nat):ixs (k+1) f=if f k=k then q2R (ixs k f) (k:Int) ((ixs k f).length:Int) else ixs k f:=by
 have e:rts (k+1) f=rts k f++if f k=k then[k] else[]:=by
  unfold rts
  rw[List.range_succ,List.filter_append,List.filter_cons]
  by_cases h:f k=k
  ·rw[if_pos (qxR h),if_pos h];rfl
  ·rw[if_neg (by simpa using h),if_neg h];rfl
 by_cases h:f k=k
 ·rw[if_pos h]
  rw[if_pos h] at e
  have hn:k ∉ rts k f:=fun hm=>by have:=qxN.1 (qxM.1 hm).1;omega
  rw[qhQ]
  unfold ixs
  rw[q9c hn,e,List.map_append];rfl
 ·rw[if_neg h]
  rw[if_neg h,qxc] at e
  unfold ixs;rw[e]
theorem q77 {n k r:Nat} (h:f r=r) (hr:r<n):(rows n k f)[(rts r f).length]?=some (((List.range k).filter fun i=>decide (f i=r)).map fun(i:Nat)=>(i:Int)):=by
 unfold rows
 rw[qx5,show(rts n f)[(rts r f).length]?=some r from qh8 hr (qxR h)];rfl
theorem qec {n k r:Nat} (hk:f k=r) (h:f r=r) (hr:r<n):(rows n k f).set (rts r f).length ((((List.range k).filter fun i=>decide (f i=r)).map fun(i:Nat)=>(i:Int))++[(k:Int)])=rows n (k+1) f:=by
 have hc:=Q5 (q77 (k:=k) h hr)
 apply List.ext_getElem?
 intro c
 have hrow:∀r',((List.range (k+1)).filter fun i=>decide (f i=r')).map (fun(i:Nat)=>(i:Int))=(((List.range k).filter fun i=>decide (f i=r')).map fun(i:Nat)=>(i:Int))++if r'=r then[(k:Int)] else[]:=fun r'=>by
  rw[List.range_succ,List.filter_append,List.map_append,List.filter_cons]
  by_cases e:r'=r
  ·subst e;rw[if_pos (qxR hk),if_pos rfl];rfl
  ·rw[if_neg (by simpa using fun h'=>e (by rw[←hk,h'])),if_neg e];rfl
 by_cases e:c=(rts r f).length
 ·subst e
  rw[qxO hc,q77 h hr,hrow r,if_pos rfl]
 ·rw[qxP (by omega)]
  unfold rows
  rw[qx5,qx5]
  cases hx:(rts n f)[c]? with
  | none=>rfl
  | some r'=>
   have hne:r'≠r:=fun h'=>by
    obtain⟨-,-,h3⟩:=qhq hx
    exact e (by rw[←h3,h'];rfl)
   rw[Option.map_some,Option.map_some]
   rw[hrow r',if_neg hne,qxc]
theorem qbW (n:Nat):rows n 0 f=List.replicate (rts n f).length []:=by
 unfold rows
 rw[List.range_zero]
 exact List.map_const' ..
theorem qgG (n:Nat):rows n n f=(q5G n f).map fun g=>g.map fun(i:Nat)=>(i:Int):=by
 unfold rows q5G
 rw[List.map_map];rfl
end
noncomputable section
open Go.RowKit
def zq (g:List Nat):List Int:=g.map fun(x:Nat)=>(x:Int)
theorem Qs (g:List Nat):(zq g).length=g.length:=qxz ..
theorem ZB {g:List Nat} {k:Nat} (h:k<g.length):(zq g)[k]?=some ((g.getD k 0:Nat):Int):=by
 unfold zq
 rw[qx5,qwT h,List.getD_eq_getElem?_getD,qwT h];rfl
theorem q4v (g:List Nat) (k v:Nat):(zq g).set k (v:Int)=zq (g.set k v):=by
 unfold zq;rw[List.map_set]
def eF (l:List qa) (i k:Nat):Bool:=match l[i]?,l[k]? with
 | some a,some b => !Qh a b
 | _,_=>false
theorem qfT {l:List qa} {i k:Nat} {a b:qa} (ha:l[i]?=some a) (hb:l[k]?=some b):eF l i k = !Qh a b:=by unfold eF;rw[ha,hb]
theorem q7J {l:List qa} {i k:Nat} (h:eF l i k=true):i<l.length∧k<l.length:=by
 unfold eF at h
 split at h
 ·rename_i h1 h2;exact⟨Q5 h1,Q5 h2⟩
 ·cases h
theorem q3U {l:List qa} {i k:Nat} (h:eF l i k=true):eF l k i=true:=by
 obtain⟨h1,h2⟩:=q7J h
 have ha:l[i]?=some l[i]:=qwT h1
 have hb:l[k]?=some l[k]:=qwT h2
 rw[qfT ha hb] at h
 rw[qfT hb ha,q8b];exact h
def jl (l:List qa) (k m:Nat):List (Nat×Nat):=((List.range m).filter fun i=>eF l i k).map fun i=>(i,k)
def js (l:List qa) (m:Nat):List (Nat×Nat):=(List.range m).flatMap fun k=>jl l k k
theorem qhK (l:List qa) (k m:Nat):jl l k (m+1)=jl l k m++if eF l m k=true then[(m,k)] else[]:=by
 unfold jl
 rw[List.range_succ,List.filter_append,List.map_append,List.filter_cons]
 cases eF l m k<;>rfl
theorem qdG (l:List qa) (m:Nat):js l (m+1)=js l m++jl l m m:=by
 unfold js
 rw[List.range_succ,List.flatMap_append];simp
theorem qh7 (l:List qa) (k m:Nat):(jl l k m).length≤m:=by
 unfold jl
 rw[qxz]
 exact qxs (List.length_filter_le _ _) (by rw[List.length_range];exact qx7 _)
theorem qb9 (l:List qa):∀m,(js l m).length≤m*m
 | 0=>qx7 _
 | m+1=>by
  rw[qdG,qwY]
  have:=qb9 l m
  have:=qh7 l m m
  have:(m+1)*(m+1)=m*m+2*m+1:=by rw[Nat.add_mul,Nat.mul_add];omega
  omega
theorem q9v {l:List qa} {m:Nat} {j:Nat×Nat}:j∈js l m↔j.2<m∧j.1<j.2∧eF l j.1 j.2=true:=by
 unfold js jl
 simp only[List.mem_flatMap,qxB,qxM,qxN]
 constructor
 ·rintro⟨k,h1,i,⟨h2,h3⟩,rfl⟩;exact⟨h1,h2,h3⟩
 ·rintro⟨h1,h2,h3⟩;exact⟨j.2,h1,j.1,⟨h2,h3⟩,rfl⟩
def arr (j:Nat×Nat):QT Int:=QT.mk (j.1:Int) (j.2:Int)
theorem qai (w1:List Int) (l:List qa) (hl:l.length≤1000) (hf:∀a∈l,zd a) (t19 t20:Int) (k:Nat) (hk:k<l.length) (J:List (Nat×Nat)) (hJ:J.length≤1000000):qx (zF w1 l (k:Int) t19 t20 (k:Int)) (J.map arr,(0:Int))=some ((J++jl l k k).map arr):=by
 have hML:10000000≤maxLen:=by unfold maxLen;omega
 have hb:l[k]?=some l[k]:=qwT hk
 have:=Zp (step:=zF w1 l (k:Int) t19 t20 (k:Int)) (fun i=>((J++jl l k i).map arr,(i:Int))) 0 k (qxh _) (fun i _ hi=>by
  have ha:l[i]?=some l[i]:=qwT (by omega)
  have hj:=qh7 l k i
  unfold zF
  dsimp only
  rw[if_pos (by omega),if_pos ⟨by omega,by omega⟩,qwU,ha,qwR,if_pos ⟨by omega,by omega⟩,qwU,hb,qwR,q8g (hf _ (qxI _)) (hf _ (qxI _)),qwR,Q8 hi (by omega),qhK,qfT ha hb]
  cases Qh l[i] l[k]
  ·rw[if_pos (show(!false)=true by decide),if_pos ⟨by rw[qxz,qwY];omega,by rw[qxz,qwY];omega⟩,if_pos (show(!false)=true by decide),←qxw,List.map_append (l₁:=J++jl l k i)];rfl
  ·rw[if_neg (show ¬ (!true)=true by decide),if_neg (show ¬ (!true)=true by decide),qxc]) (e:=(J++jl l k k).map arr) (by
  unfold zF
  dsimp only
  rw[if_neg (by omega)])
 have e0:jl l k 0=[]:=rfl
 rw[e0,qxc] at this
 exact this
theorem qa5 (l:List qa) (hl:l.length≤1000) (hf:∀a∈l,zd a):qx (zo l ((l.length:Nat):Int)) ([],List.replicate l.length (0:Int),(0:Int))=some ((js l l.length).map arr,zq (List.range l.length)):=by
 have hsq:l.length*l.length≤1000*1000:=Nat.mul_le_mul hl hl
 have st0:∀k,k≤l.length→(zq (List.range k)++List.replicate (l.length-k) (0:Int)).length=l.length:=fun k hk=>by rw[qwY,Qs,List.length_range,qxy];omega
 have:=Zp (step:=zo l ((l.length:Nat):Int)) (fun k=>((js l k).map arr,zq (List.range k)++List.replicate (l.length-k) (0:Int),(k:Int))) 0 l.length (qxh _) (fun k _ hk=>by
  have hlen:=st0 k (by omega)
  have hset:(zq (List.range k)++List.replicate (l.length-k) (0:Int)).set k (k:Int)=zq (List.range (k+1))++List.replicate (l.length-(k+1)) (0:Int):=by
   obtain⟨q,hq⟩:∃q,l.length-k=q+1:=⟨l.length-k-1,by omega⟩
   rw[show l.length-(k+1)=q by omega,hq,List.replicate_succ,List.set_append_right _ _ (by rw[Qs,List.length_range];exact qx7 _),Qs,List.length_range,Nat.sub_self,List.set_cons_zero,List.range_succ]
   unfold zq
   rw[List.map_append,qxw];rfl
  have hjl:=qb9 l k
  have hkk:k*k≤1000*1000:=Nat.mul_le_mul (by omega) (by omega)
  unfold zo
  dsimp only
  rw[if_pos (by omega),if_pos ⟨by omega,by omega⟩,qwU,if_pos (by omega),hset,qai _ l hl hf _ _ k hk _ (by omega),qwR,Q8 hk (by omega),qdG]) (e:=((js l l.length).map arr,zq (List.range l.length))) (by
  unfold zo
  dsimp only
  rw[if_neg (by omega),Nat.sub_self,List.replicate_zero,qxc])
 rw[qxJ,List.range_zero] at this
 exact this
theorem qaA (J:List (Nat×Nat)) (hJ:J.length≤1000000) (l:List qa) (t50 t51:Int) (g:List Nat) (hg:∀j∈J,j.1<g.length∧j.2<g.length):qx (zw (J.map arr) l t50 t51 (((J.map arr).length:Nat):Int)) (zq g,(0:Int))=some (zq (QW J g)):=by
 have hlen:∀i,(QW (J.take i) g).length=g.length:=fun i=>q0W _ _
 have:=Zp (step:=zw (J.map arr) l t50 t51 (((J.map arr).length:Nat):Int)) (fun i=>(zq (QW (J.take i) g),(i:Int))) 0 J.length (qxh _) (fun i _ hi=>by
  have hj:J[i]?=some J[i]:=qwT hi
  have hjm:=hg _ (qxI hi)
  have ha:(J.map arr)[i]?=some (arr J[i]):=by rw[qx5,hj];rfl
  have hl2:=hlen i
  have e1:QW (J.take (i+1)) g=q1x (QW (J.take i) g) J[i]:=by
   unfold QW
   rw[List.take_add_one,hj,List.foldl_append];rfl
  unfold zw
  dsimp only
  rw[if_pos (by rw[qxz];omega),if_pos ⟨by omega,by rw[qxz];omega⟩,qwU,ha,qwR]
  have a0:(arr J[i]).a0=((J[i].1:Nat):Int):=rfl
  have a1:(arr J[i]).a1=((J[i].2:Nat):Int):=rfl
  rw[a0,a1,Qs,if_pos ⟨by omega,by omega⟩,qwU,ZB (by omega),qwR,if_pos ⟨by omega,by omega⟩,qwU,ZB (by omega),qwR,if_pos ⟨by omega,by omega⟩,if_pos (by omega),if_pos ⟨by omega,by omega⟩,if_pos (by omega),Q8 hi hJ,e1]
  have hm:min (((QW (J.take i) g).getD J[i].1 0:Nat):Int) (((QW (J.take i) g).getD J[i].2 0:Nat):Int)=((min ((QW (J.take i) g).getD J[i].1 0) ((QW (J.take i) g).getD J[i].2 0):Nat):Int):=by omega
  rw[hm,q4v,q4v];rfl) (e:=zq (QW J g)) (by
  unfold zw
  dsimp only
  rw[if_neg (by rw[qxz];omega),List.take_length])
 exact this
theorem q3H (J:List (Nat×Nat)) (hJ:J.length≤1000000) (l:List qa):∀(m k:Nat) (g:List Nat),m+k=l.length→l.length≤1000→(∀j∈J,j.1<g.length∧j.2<g.length)→qx (zx (J.map arr) l ((l.length:Nat):Int)) (zq g,(k:Int))=some (zq (QO J m g))
 | 0,k,g,hk,hl,hg=>by
  refine qW ?_
  unfold zx
  dsimp only
  rw[if_neg (by omega)];rfl
 | m+1,k,g,hk,hl,hg=>by
  have e:zx (J.map arr) l ((l.length:Nat):Int) (zq g,(k:Int))=some (.inl (zq (QW J g),((k+1:Nat):Int))):=by
   unfold zx
   dsimp only
   rw[if_pos (by omega),qaA J hJ l _ _ g hg,qwR,Q8 (n:=l.length) (by omega) (by omega)]
  rw[zS e]
  exact q3H J hJ l m (k+1) (QW J g) (by omega) hl fun j hj=>by rw[q0W];exact hg j hj
def lwF (l:List qa) (k:Nat):Nat:=(QO (js l l.length) l.length (List.range l.length)).getD k 0
theorem q6G (l:List qa) {k:Nat} (hk:k<l.length):Lw (fun i j=>eF l i j=true) k (lwF l k):=
 qax (fun i j h=>q7J h) (fun i j h=>q3U h) (fun j hj=>by
  obtain⟨h1,h2,h3⟩:=q9v.1 hj
  exact⟨by omega,h1,h3⟩) (fun i k h=>by
  obtain⟨h1,h2⟩:=q7J h
  by_cases e:i=k
  ·exact .inl e
  ·by_cases hik:i<k
   ·exact .inr (.inl (q9v.2 ⟨h2,hik,h⟩))
   ·exact .inr (.inr (q9v.2 ⟨h1,by show k<i;omega,q3U h⟩))) hk
theorem qlP (l:List qa) {k:Nat} (hk:k<l.length):lwF l k<l.length:=(q6G l hk).1.lt (fun i j h=>q7J h) hk
theorem qnD (l:List qa) {k:Nat} (hk:k<l.length):lwF l k≤k:=(q6G l hk).2 k (.refl k)
theorem qfG (l:List qa) {k:Nat} (hk:k<l.length):lwF l (lwF l k)=lwF l k:=(q6G l (qlP l hk)).uniq ((q6G l hk).self fun i j h=>q3U h)
theorem qap (g:List Nat) (hg:g.length≤1000):qx (z6 (zq g) ((g.length:Nat):Int)) ([],(0:Int))=some (List.replicate (rts g.length fun k=>g.getD k 0).length []):=by
 have hML:10000000≤maxLen:=by unfold maxLen;omega
 have hr:∀k,(rts k fun k=>g.getD k 0).length≤k:=fun k=>by unfold rts;exact qxs (List.length_filter_le _ _) (by rw[List.length_range];exact qx7 _)
 exact Zp (step:=z6 (zq g) ((g.length:Nat):Int)) (fun k=>(List.replicate (rts k fun k=>g.getD k 0).length ([]:List Int),(k:Int))) 0 g.length (qxh _) (fun k _ hk=>by
  have h1:=hr k
  unfold z6
  dsimp only
  rw[if_pos (by omega),Qs,if_pos ⟨by omega,by omega⟩,qwU,ZB hk,qwR,Q8 hk (by omega),qxy]
  have e:rts (k+1) (fun k=>g.getD k 0)=rts k (fun k=>g.getD k 0)++if g.getD k 0=k then[k] else[]:=by
   unfold rts
   rw[List.range_succ,List.filter_append,List.filter_cons]
   by_cases h:g.getD k 0=k
   ·rw[if_pos (qxR h),if_pos h];rfl
   ·rw[if_neg (by simpa using h),if_neg h];rfl
  rw[e]
  by_cases h:g.getD k 0=k
  ·rw[if_pos (beq_iff_eq.2 (by omega:((g.getD k 0:Nat):Int)=(k:Int))),if_pos ⟨by omega,by omega⟩,if_pos h,qwY,qx9,List.replicate_succ']
  ·rw[if_neg (fun hh=>h (by have:=beq_iff_eq.1 hh;omega)),if_neg h,qxc]) (by
  unfold z6
  dsimp only
  rw[if_neg (by omega)])
theorem qdw (g:List Nat) (hg:g.length≤1000) (h1:∀k,k<g.length→g.getD k 0≤k) (h2:∀k,k<g.length→g.getD (g.getD k 0) 0=g.getD k 0):qx (zz (zq g) ((g.length:Nat):Int)) (List.replicate (rts g.length fun k=>g.getD k 0).length [],[],(0:Int))=some ((q5G g.length fun k=>g.getD k 0).map zq):=by
 have hML:10000000≤maxLen:=by unfold maxLen;omega
 obtain⟨f,hf⟩:∃f:Nat→Nat,f=fun k=>g.getD k 0:=⟨_,rfl⟩
 have hfk:∀k,g.getD k 0=f k:=fun k=>by rw[hf]
 rw[←hf]
 have e0:rows g.length 0 f=List.replicate (rts g.length f).length []:=qbW _
 have hall:rows g.length g.length f=(q5G g.length f).map zq:=qgG _
 rw[←hall,←e0]
 have hrl:∀k,(rts k f).length≤k:=fun k=>by unfold rts;exact qxs (List.length_filter_le _ _) (by rw[List.length_range];exact qx7 _)
 exact Zp (step:=zz (zq g) ((g.length:Nat):Int)) (fun k=>(rows g.length k f,ixs k f,(k:Int))) 0 g.length (qxh _) (fun k _ hk=>by
  have hle:f k≤k:=by rw[←hfk];exact h1 k hk
  have hid:f (f k)=f k:=by have:=h2 k hk;rw[hfk,hfk] at this;exact this
  have hM:Z8 0 (ixs (k+1) f) ((f k:Nat):Int)=(((rts (f k) f).length:Nat):Int):=qjT hid (by omega)
  have hrow:=q77 (n:=g.length) (k:=k) hid (by omega)
  have hlt:=Q5 hrow
  have hfl:(((List.range k).filter fun i=>decide (f i=f k)).map fun(i:Nat)=>(i:Int)).length≤k:=by
   rw[qxz]
   exact qxs (List.length_filter_le _ _) (by rw[List.length_range];exact qx7 _)
  have hsucc:=qec (n:=g.length) (k:=k) rfl hid (by omega:f k<g.length)
  have hx:=qeT (f:=f) k
  unfold zz
  dsimp only
  rw[if_pos (by omega),Qs,if_pos ⟨by omega,by omega⟩,qwU,ZB hk,qwR,hfk,Q8 hk (by omega)]
  by_cases h:f k=k
  ·rw[if_pos h] at hx
   rw[if_pos (by rw[h];simp),←hx,hM,qwU,hrow,qwR,if_pos ⟨by omega,by omega⟩,qwR,if_pos ⟨by omega,by omega⟩,if_pos ⟨by omega,by omega⟩,if_pos hlt,hsucc]
  ·rw[if_neg h] at hx
   rw[hx] at hM
   rw[if_neg (fun hh=>h (by have:=beq_iff_eq.1 hh;omega)),hM,qwU,hrow,qwR,if_pos ⟨by omega,by omega⟩,qwR,if_pos ⟨by omega,by omega⟩,if_pos ⟨by omega,by omega⟩,if_pos hlt,hsucc,hx]) (by
  unfold zz
  dsimp only
  rw[if_neg (by omega)])
theorem q70 (l:List qa) (hl:l.length≤1000) (hf:∀a∈l,zd a):Q0 l=some ((q5G l.length (lwF l)).map zq):=by
 obtain⟨g,hg⟩:∃g,g=QO (js l l.length) l.length (List.range l.length):=⟨_,rfl⟩
 have hgl:g.length=l.length:=by rw[hg,q1v,List.length_range]
 have hgf:∀k,g.getD k 0=lwF l k:=fun k=>by rw[hg];rfl
 have hsq:l.length*l.length≤1000*1000:=Nat.mul_le_mul hl hl
 have hjl:=qb9 l l.length
 have hr:=q3H (js l l.length) (by omega) l l.length 0 (List.range l.length) (by omega) hl (fun j hj=>by
  obtain⟨h1,h2,-⟩:=q9v.1 hj
  rw[List.length_range];omega)
 have hroots:=qap g (by omega)
 have hfill:=qdw g (by omega) (fun k hk=>by rw[hgf];exact qnD l (by omega)) (fun k hk=>by rw[hgf,hgf];exact qfG l (by omega))
 unfold Q0
 rw[if_pos ⟨by omega,by omega,by omega⟩,qa5 l hl hf,qwR]
 dsimp only
 change Option.bind (qx _ (zq (List.range l.length),((0:Nat):Int))) _=_
 rw[hr,←hg,qwR,←hgl,hroots,qwR,Qs,hfill,qwR]
 congr 2
 exact q4Z fun k _=>hgf k
end
noncomputable section
open Go.RowKit
set_option maxRecDepth 20000
set_option maxHeartbeats 8000000
theorem qjq:okL 20 q1I:=qF (qf qeJ) (by kernel_rfl) (by kernel_rfl)
def qjp:=JA_ @q1I.eq_1 (JA_ @Try.f20.eq_1 @qeJ)
theorem qnx:lbO 20 3=qcc:=zt (qf qeJ) rfl
theorem qlL:okL 20 qcc:=qN qjq (qwS (i:=0) (by kernel_rfl))
theorem qme:lbO 20 7=qaQ:=zt (qf qeJ) rfl
theorem qoK:okL 20 qaQ:=qN qjq (qwS (i:=1) (by kernel_rfl))
theorem qi1:lbO 20 10=q7O:=zt (qf qeJ) rfl
theorem qjG:okL 20 q7O:=qN qjq (qwS (i:=2) (by kernel_rfl))
theorem qjS:lbO 20 13=q7Q:=zt (qf qeJ) rfl
theorem qkb:okL 20 q7Q:=qN qjq (qwS (i:=3) (by kernel_rfl))
theorem qj1:lbO 20 21=q7f:=zt (qf qeJ) rfl
theorem qj4:okL 20 q7f:=qN qjq (qwS (i:=4) (by kernel_rfl))
theorem qjh:lbO 20 26=q7P:=zt (qf qeJ) rfl
theorem qjz:okL 20 q7P:=qN qjq (qwS (i:=5) (by kernel_rfl))
def zn (t0:List qa):(List Int×Int)→Option ((List Int×Int)⊕(List Int))|(w0,t4)=>if t4<((t0.length:Nat):Int) then if w0.length+1≤maxLen∧(w0.length+1)*8≤140737488355328 then some (Sum.inl (w0++[t4],w64 (t4+1))) else none else some (Sum.inr w0)
theorem q17:∀(w0:List Int) (t0:List qa) (t4:Int) (w0_len:Nat),w0_len=w0.length→XL2 evo 20 0 3 ⟨[(0,rL 8 qc t0),(3,rO 0 1 w0_len),(4,rI t4)],[(0,bR 3 1 eI w0)],1,98⟩=(qx (zn t0) (w0,t4)).bind (fun(e:List Int)=>some (Exit.exit 0,⟨[(0,rL 8 qc t0),(3,rO 0 1 e.length)],[(0,bR 3 1 eI e)],1,98⟩)):=
 by
 intro w0 t0 t4 w0_len h0
 subst h0
 revert t4;revert w0;exact q6H qnx qlL (fun e=>by exact⟨_,rfl,fun h=>by cases h⟩) fun w0 t4=>by
  have:=qjp;have:=@qcc.eq_1;have:=@zn.eq_1;exact gA
theorem JT:∀  (t0:List qa) (t4:Int),XL2 evo 20 0 3 ⟨[(0,rL 8 qc t0),(3,rO 0 1 0),(4,rI t4)],[(0,B.row 3 1 [])],1,98⟩=(qx (zn t0) ([],t4)).bind (fun(e:List Int)=>some (Exit.exit 0,⟨[(0,rL 8 qc t0),(3,rO 0 1 e.length)],[(0,bR 3 1 eI e)],1,98⟩)):=by
 intro t0 t4;have h:=q17 [] t0 t4 _ rfl
 first
  | exact h
  | (simp only[rL,dL,bR,bZ,Nat.reduceAdd] at h;exact h)
theorem qvN:okL 45 qd7:=qF (qf qsZ) (by kernel_rfl) (by kernel_rfl)
def qvb:=JA_ @qd7.eq_1 (JA_ @Try.f45.eq_1 @qsZ)
theorem qqH:okL 69 q6e:=qF (qf qmv) (by kernel_rfl) (by kernel_rfl)
def qsu:=JA_ @q6e.eq_1 (JA_ @Try.f69.eq_1 @qmv)
theorem qp2:lbO 69 2=qbC:=zt (qf qmv) rfl
theorem qo4:okL 69 qbC:=qN qqH (qwS (i:=0) (by kernel_rfl))
theorem ql5:lbO 69 5=qbA:=zt (qf qmv) rfl
theorem qnb:okL 69 qbA:=qN qqH (qwS (i:=1) (by kernel_rfl))
def zE (a:List Int) (b:List Int) (k:Int):Int→Option (Int⊕(Unit⊕Unit))|i=>if i<((b.length:Nat):Int) then if 0≤k∧k<((a.length:Nat):Int) then Option.bind a[Int.toNat k]? fun(a2:Int)=>if 0≤i∧i<((b.length:Nat):Int) then Option.bind b[Int.toNat i]? fun(a3:Int)=>if(a2==a3)=Bool.true then some (Sum.inr (Sum.inl ())) else some (Sum.inl (w64 (i+1))) else none else none else some (Sum.inr (Sum.inr ()))
theorem q1a:∀(a b:List Int) (k i:Int),XL2 evo 69 0 5 ⟨[(0,rL 1 eI a),(1,rL 1 eI b),(5,rI k),(6,rI i)],[],0,28⟩=(qx (zE a b k) i).bind (Sum.elim (fun(e:Unit)=>some (Exit.ret,⟨[(0,rL 1 eI a),(1,rL 1 eI b),(4,rB Bool.true),(5,rI k)],[],0,28⟩)) (fun(e:Unit)=>some (Exit.exit 2,⟨[(0,rL 1 eI a),(1,rL 1 eI b),(4,R.any),(5,rI k)],[],0,28⟩))):=
 fun a b k i=>by
  revert i;exact q75 ql5 qnb (fun e=>by rcases e with _|_<;>exact⟨_,rfl,fun h=>by cases h⟩) fun x=>by
   have:=qsu;have:=@qbA.eq_1;have:=@zE.eq_1;exact gA
def Q3 (a:List Int) (b:List Int):Int→Option (Int⊕(Unit⊕Unit))|k=>if k<((a.length:Nat):Int) then Option.bind (qx (zE a b k) 0) fun(a2:Sum Unit Unit)=>Sum.elim (fun(a3:Unit)=>some (Sum.inr (Sum.inl ()))) (fun(a4:Unit)=>some (Sum.inl (w64 (k+1)))) a2 else some (Sum.inr (Sum.inr ()))
theorem q1b:∀(a b:List Int) (k:Int),XL2 evo 69 0 2 ⟨[(0,rL 1 eI a),(1,rL 1 eI b),(5,rI k)],[],0,28⟩=(qx (Q3 a b) k).bind (Sum.elim (fun(e:Unit)=>some (Exit.ret,⟨[(4,rB Bool.true)],[],0,28⟩)) (fun(e:Unit)=>some (Exit.exit 0,⟨[(4,R.any)],[],0,28⟩))):=
 fun a b k=>by
  revert k;exact q75 qp2 qo4 (fun e=>by rcases e with _|_<;>exact⟨_,rfl,fun h=>by cases h⟩) fun x=>by
   have:=qsu;have:=@qbC.eq_1;have:=@q1a;have:=@Q3.eq_1;exact gA
def QU (a:List Int) (b:List Int):Option Bool:=Option.bind (qx (Q3 a b) 0) fun(a2:Sum Unit Unit)=>Sum.elim (fun(a3:Unit)=>some Bool.true) (fun(a4:Unit)=>some Bool.false) a2
theorem q2C:∀(a b:List Int),ev 69 0 [rL 1 eI a,rL 1 eI b] []=(QU a b).bind (fun(e:Bool)=>some (rB e,[])):=
 fun a b=>by
  rw[qD qmv qtZ.2.2.2 qqH]
  have:=qsu;have:=@q1b;have:=@QU.eq_1;exact gA
def QK (a:qa) (b:qa):Option Bool:=if(a.Course.School==b.Course.School)=Bool.true∧(ByteArray.toList a.Course.Code==ByteArray.toList b.Course.Code)=Bool.true then some Bool.false else Option.bind (QU a.Sources b.Sources) fun(a2:Bool)=>if(!a2)=Bool.true then some Bool.true else Option.bind (Qe a.Path b.Path) fun(a3:Bool)=>if a3=Bool.true then if(a.Bundle==b.Bundle)=Bool.true then some (decide (0<a.Bundle)) else some Bool.false else some Bool.false
theorem JY:∀(a_Course_School:Int) (a_Course_Code:ByteArray) (a_Credits a_Grade a_Day:Int) (a_Sources:List Int) (a_Bundle:Int) (a_Path:List Int) (b_Course_School:Int) (b_Course_Code:ByteArray) (b_Credits b_Grade b_Day:Int) (b_Sources:List Int) (b_Bundle:Int) (b_Path:List Int),ev 45 0 [R.agg [dI a_Course_School,dS a_Course_Code,dI a_Credits,dI a_Grade,dI a_Day,dL 1 eI a_Sources,dI a_Bundle,dL 1 eI a_Path],R.agg [dI b_Course_School,dS b_Course_Code,dI b_Credits,dI b_Grade,dI b_Day,dL 1 eI b_Sources,dI b_Bundle,dL 1 eI b_Path]] []=(QK (qa.mk (qb.mk a_Course_School a_Course_Code) a_Credits a_Grade a_Day a_Sources a_Bundle a_Path) (qa.mk (qb.mk b_Course_School b_Course_Code) b_Credits b_Grade b_Day b_Sources b_Bundle b_Path)).bind (fun(e:Bool)=>some (rB e,[])):=
 fun a_Course_School a_Course_Code a_Credits a_Grade a_Day a_Sources a_Bundle a_Path b_Course_School b_Course_Code b_Credits b_Grade b_Day b_Sources b_Bundle b_Path=>by
  rw[qD qsZ qtR.2.2.2 qvN]
  have:=qvb;have:=@q2C;have:=@ZV;have:=@QK.eq_1;exact gA
def zB (t0:List qa) (t6:Int):(List Int×Bool×Int)→Option ((List Int×Bool×Int)⊕(List Int×Bool))|(w0,t5,t7)=>if t7<((t0.length:Nat):Int) then if 0≤t6∧t6<((t0.length:Nat):Int) then Option.bind t0[Int.toNat t6]? fun(a:qa)=>if 0≤t7∧t7<((t0.length:Nat):Int) then Option.bind t0[Int.toNat t7]? fun(a2:qa)=>Option.bind (QK a a2) fun(a3:Bool)=>if(!a3)=Bool.true then if 0≤t7∧t7<((w0.length:Nat):Int) then Option.bind w0[Int.toNat t7]? fun(a4:Int)=>if 0≤t6∧t6<((w0.length:Nat):Int) then Option.bind w0[Int.toNat t6]? fun(a5:Int)=>if a4<a5 then if 0≤t7∧t7<((w0.length:Nat):Int) then Option.bind w0[Int.toNat t7]? fun(a6:Int)=>if 0≤t6∧t6<((w0.length:Nat):Int) then if Int.toNat t6+1≤w0.length then some (Sum.inl (List.set w0 (Int.toNat t6) a6,Bool.true,w64 (t7+1))) else none else none else none else some (Sum.inl (w0,t5,w64 (t7+1))) else none else none else some (Sum.inl (w0,t5,w64 (t7+1))) else none else none else some (Sum.inr (w0,t5))
theorem q0N:∀(w0:List Int) (t0:List qa) (t5:Bool) (t6 t7:Int) (w0_len:Nat),w0_len=w0.length→XL2 evo 20 0 13 ⟨[(0,rL 8 qc t0),(3,rO 0 1 w0_len),(5,rB t5),(6,rI t6),(7,rI t7)],[(0,bR 3 1 eI w0)],1,98⟩=(qx (zB t0 t6) (w0,t5,t7)).bind (fun(e:List Int×Bool)=>some (Exit.exit 6,⟨[(0,rL 8 qc t0),(3,rO 0 1 e.1.length),(5,rB e.2),(6,rI t6)],[(0,bR 3 1 eI e.1)],1,98⟩)):=
 by
 intro w0 t0 t5 t6 t7 w0_len h0
 subst h0
 revert t7;revert t5;revert w0;exact qnl qjS qkb (fun e=>by exact⟨_,rfl,fun h=>by cases h⟩) fun w0 t5 t7=>by
  have:=qjp;have:=@q7Q.eq_1;have:=@JY;have:=@zB.eq_1;exact gA
def zy (t0:List qa):(List Int×Bool×Int)→Option ((List Int×Bool×Int)⊕(List Int×Bool))|(w0,t5,t6)=>if t6<((t0.length:Nat):Int) then Option.bind (qx (zB t0 t6) (w0,(t5,0))) fun(a:Prod (List Int) Bool)=>some (Sum.inl (a.1,a.2,w64 (t6+1))) else some (Sum.inr (w0,t5))
theorem q0t:∀(w0:List Int) (t0:List qa) (t5:Bool) (t6:Int) (w0_len:Nat),w0_len=w0.length→XL2 evo 20 0 10 ⟨[(0,rL 8 qc t0),(3,rO 0 1 w0_len),(5,rB t5),(6,rI t6)],[(0,bR 3 1 eI w0)],1,98⟩=(qx (zy t0) (w0,t5,t6)).bind (fun(e:List Int×Bool)=>some (Exit.exit 4,⟨[(0,rL 8 qc t0),(3,rO 0 1 e.1.length),(5,rB e.2)],[(0,bR 3 1 eI e.1)],1,98⟩)):=
 by
 intro w0 t0 t5 t6 w0_len h0
 subst h0
 revert t6;revert t5;revert w0;exact qnl qi1 qjG (fun e=>by exact⟨_,rfl,fun h=>by cases h⟩) fun w0 t5 t6=>by
  have:=qjp;have:=@q7O.eq_1;have:=@q0N;have:=@zy.eq_1;exact gA
def zl (t0:List qa):(List Int×Bool)→Option ((List Int×Bool)⊕(List Int))|(w0,t5)=>if t5=Bool.true then Option.bind (qx (zy t0) (w0,(Bool.false,0))) fun(a:Prod (List Int) Bool)=>some (Sum.inl (a.1,a.2)) else some (Sum.inr w0)
theorem q1d:∀(w0:List Int) (t0:List qa) (t5:Bool) (w0_len:Nat),w0_len=w0.length→XL2 evo 20 0 7 ⟨[(0,rL 8 qc t0),(3,rO 0 1 w0_len),(5,rB t5)],[(0,bR 3 1 eI w0)],1,98⟩=(qx (zl t0) (w0,t5)).bind (fun(e:List Int)=>some (Exit.exit 2,⟨[(0,rL 8 qc t0),(3,rO 0 1 e.length)],[(0,bR 3 1 eI e)],1,98⟩)):=
 by
 intro w0 t0 t5 w0_len h0
 subst h0
 revert t5;revert w0;exact q6H qme qoK (fun e=>by exact⟨_,rfl,fun h=>by cases h⟩) fun w0 t5=>by
  have:=qjp;have:=@qaQ.eq_1;have:=@q0t;have:=@zl.eq_1;exact gA
def z7 (w0:List Int) (w1:List (List Int)) (t0:List qa) (t10:Int):(List Int×Int)→Option ((List Int×Int)⊕(List Int))|(w2,t12)=>if t12<((t0.length:Nat):Int) then if 0≤t12∧t12<((w0.length:Nat):Int) then Option.bind w0[Int.toNat t12]? fun(a:Int)=>if(a==t10)=Bool.true then if w2.length+1≤maxLen∧(w2.length+1)*8≤140737488355328 then some (Sum.inl (w2++[t12],w64 (t12+1))) else none else some (Sum.inl (w2,w64 (t12+1))) else none else some (Sum.inr w2)
theorem q0n:∀(w0:List Int) (w1:List (List Int)) (w2:List Int) (t0:List qa) (t10 t12:Int) (w0_len w1_len w2_len:Nat),w0_len=w0.length→w1_len=w1.length→w2_len=w2.length→XL2 evo 20 0 26 ⟨[(0,rL 8 qc t0),(3,rO 0 1 w0_len),(9,rO 1 1 w1_len),(10,rI t10),(11,rO 2 1 w2_len),(12,rI t12)],[(0,bR 3 1 eI w0),(1,bR 25 1 (eL 1 eI) w1),(2,bR 3 1 eI w2)],3,98⟩=(qx (z7 w0 w1 t0 t10) (w2,t12)).bind (fun(e:List Int)=>some (Exit.exit 10,⟨[(0,rL 8 qc t0),(3,rO 0 1 w0.length),(9,rO 1 1 w1.length),(10,rI t10),(11,rO 2 1 e.length)],[(0,bR 3 1 eI w0),(1,bR 25 1 (eL 1 eI) w1),(2,bR 3 1 eI e)],3,98⟩)):=
 by
 intro w0 w1 w2 t0 t10 t12 w0_len w1_len w2_len h0 h1 h2
 subst h0 h1 h2
 revert t12;revert w2;exact q6H qjh qjz (fun e=>by exact⟨_,rfl,fun h=>by cases h⟩) fun w2 t12=>by
  have:=qjp;have:=@q7P.eq_1;have:=@z7.eq_1;exact gA
theorem Js:∀  (w0:List Int) (w1:List (List Int)) (t0:List qa) (t10 t12:Int) (w0_len w1_len:Nat),w0_len=w0.length→w1_len=w1.length→XL2 evo 20 0 26 ⟨[(0,rL 8 qc t0),(3,rO 0 1 w0_len),(9,rO 1 1 w1_len),(10,rI t10),(11,rO 2 1 0),(12,rI t12)],[(0,bR 3 1 eI w0),(1,bR 25 1 (eL 1 eI) w1),(2,B.row 3 1 [])],3,98⟩=(qx (z7 w0 w1 t0 t10) ([],t12)).bind (fun(e:List Int)=>some (Exit.exit 10,⟨[(0,rL 8 qc t0),(3,rO 0 1 w0.length),(9,rO 1 1 w1.length),(10,rI t10),(11,rO 2 1 e.length)],[(0,bR 3 1 eI w0),(1,bR 25 1 (eL 1 eI) w1),(2,bR 3 1 eI e)],3,98⟩)):=by
 intro w0 w1 t0 t10 t12 w0_len w1_len h0 h1;subst h0 h1;have h:=q0n w0 w1 [] t0 t10 t12 _ _ _ rfl rfl rfl
 first
  | exact h
  | (simp only[rL,dL,bR,bZ,Nat.reduceAdd] at h;exact h)
def z8 (w0:List Int) (t0:List qa):(List (List Int)×Int)→Option ((List (List Int)×Int)⊕(List (List Int)))|(w1,t10)=>if t10<((t0.length:Nat):Int) then if 0≤t10∧t10<((w0.length:Nat):Int) then Option.bind w0[Int.toNat t10]? fun(a:Int)=>if(a != t10)=Bool.true then some (Sum.inl (w1,w64 (t10+1))) else Option.bind (qx (z7 w0 w1 t0 t10) ([],0)) fun(a2:List Int)=>if w1.length+1≤maxLen∧(w1.length+1)*24≤140737488355328 then some (Sum.inl (w1++[a2],w64 (t10+1))) else none else none else some (Sum.inr w1)
theorem q0A:∀(w0:List Int) (w1:List (List Int)) (t0:List qa) (t10:Int) (w0_len w1_len:Nat),w0_len=w0.length→w1_len=w1.length→XL2 evo 20 0 21 ⟨[(0,rL 8 qc t0),(3,rO 0 1 w0_len),(9,rO 1 1 w1_len),(10,rI t10)],[(0,bR 3 1 eI w0),(1,bR 25 1 (eL 1 eI) w1)],2,98⟩=(qx (z8 w0 t0) (w1,t10)).bind (fun(e:List (List Int))=>some (Exit.exit 8,⟨[(9,rO 0 1 e.length)],[(0,bR 25 1 (eL 1 eI) e)],1,98⟩)):=
 by
 intro w0 w1 t0 t10 w0_len w1_len h0 h1
 subst h0 h1
 revert t10;revert w1;exact q6H qj1 qj4 (fun e=>by exact⟨_,rfl,fun h=>by cases h⟩) fun w1 t10=>by
  have:=qjp;have:=@q7f.eq_1;have:=@Js;have:=@z8.eq_1;exact gA
theorem Jv:∀  (w0:List Int) (t0:List qa) (t10:Int) (w0_len:Nat),w0_len=w0.length→XL2 evo 20 0 21 ⟨[(0,rL 8 qc t0),(3,rO 0 1 w0_len),(9,rO 1 1 0),(10,rI t10)],[(0,bR 3 1 eI w0),(1,B.row 25 1 [])],2,98⟩=(qx (z8 w0 t0) ([],t10)).bind (fun(e:List (List Int))=>some (Exit.exit 8,⟨[(9,rO 0 1 e.length)],[(0,bR 25 1 (eL 1 eI) e)],1,98⟩)):=by
 intro w0 t0 t10 w0_len h0;subst h0;have h:=q0A w0 [] t0 t10 _ _ rfl rfl
 first
  | exact h
  | (simp only[rL,dL,bR,bZ,Nat.reduceAdd] at h;exact h)
def QS (x0:List qa):Option (List (List Int)):=Option.bind (qx (zn x0) ([],0)) fun(a:List Int)=>Option.bind (qx (zl x0) (a,Bool.true)) fun(a2:List Int)=>Option.bind (qx (z8 a2 x0) ([],0)) fun(a3:List (List Int))=>some a3
theorem q2q:∀(x0:List qa),ev 20 0 [rL 8 qc x0] []=(QS x0).bind (fun(e:List (List Int))=>some (rL 1 (eL 1 eI) e,[])):=
 fun x0=>by
  rw[qD qeJ qth.2.2.2 qjq]
  have:=qjp;have:=@JT;have:=@q1d;have:=@Jv;have:=@QS.eq_1;exact gA
theorem qsq:okL 17 q62:=qF (qf qp0) (by kernel_rfl) (by kernel_rfl)
def qsL:=JA_ @q62.eq_1 (JA_ @Try.f17.eq_1 @qp0)
theorem qlY:lbO 17 5=qdP:=zt (qf qp0) rfl
theorem qmy:okL 17 qdP:=qN qsq (qwS (i:=0) (by kernel_rfl))
theorem qp4:lbO 17 9=qdb:=zt (qf qp0) rfl
theorem qlK:okL 17 qdb:=qN qsq (qwS (i:=1) (by kernel_rfl))
def zA (l:List qa) (best:Int) (set0:Int):(List qa×Int)→Option ((List qa×Int)⊕(List qa))|(part,k)=>if k<((l.length:Nat):Int) then if 0≤k then if(q01 Go.BinOp.and IntKind.i64 (Int.fdiv set0 (2 ^ min (Int.toNat k) (IntKind.bits IntKind.i64))) 1==1)=Bool.true then if 0≤k∧k<((l.length:Nat):Int) then Option.bind l[Int.toNat k]? fun(a:qa)=>if part.length+1≤maxLen∧(part.length+1)*104≤140737488355328 then some (Sum.inl (part++[a],w64 (k+1))) else none else none else some (Sum.inl (part,w64 (k+1))) else none else some (Sum.inr part)
theorem q1Q:∀(part l:List qa) (best set0 k:Int) (part_len:Nat),part_len=part.length→XL2 evo 17 0 9 ⟨[(0,rL 8 qc l),(4,rI best),(5,rI set0),(6,rO 0 8 part_len),(7,rI k)],[(0,bR 52 8 qc part)],1,45⟩=(qx (zA l best set0) (part,k)).bind (fun(e:List qa)=>some (Exit.exit 2,⟨[(0,rL 8 qc l),(4,rI best),(5,rI set0),(6,rO 0 8 e.length)],[(0,bR 52 8 qc e)],1,45⟩)):=
 by
 intro part l best set0 k part_len h0
 subst h0
 revert k;revert part;exact q6H qp4 qlK (fun e=>by exact⟨_,rfl,fun h=>by cases h⟩) fun part k=>by
  have:=qsL;have:=@qdb.eq_1;have:=@zA.eq_1;exact gA
theorem q0O:∀  (l:List qa) (best set0 k:Int),XL2 evo 17 0 9 ⟨[(0,rL 8 qc l),(4,rI best),(5,rI set0),(6,rO 0 8 0),(7,rI k)],[(0,B.row 52 8 [])],1,45⟩=(qx (zA l best set0) ([],k)).bind (fun(e:List qa)=>some (Exit.exit 2,⟨[(0,rL 8 qc l),(4,rI best),(5,rI set0),(6,rO 0 8 e.length)],[(0,bR 52 8 qc e)],1,45⟩)):=by
 intro l best set0 k;have h:=q1Q [] l best set0 k _ rfl
 first
  | exact h
  | (simp only[rL,dL,bR,bZ,Nat.reduceAdd] at h;exact h)
theorem qr6:okL 43 q6R:=qF (qf qoq) (by kernel_rfl) (by kernel_rfl)
def qsd:=JA_ @q6R.eq_1 (JA_ @Try.f43.eq_1 @qoq)
theorem qoz:lbO 43 2=qcX:=zt (qf qoq) rfl
theorem qnZ:okL 43 qcX:=qN qr6 (qwS (i:=0) (by kernel_rfl))
theorem qpq:lbO 43 5=qbo:=zt (qf qoq) rfl
theorem qnQ:okL 43 qbo:=qN qr6 (qwS (i:=1) (by kernel_rfl))
def Q6 (l:List qa) (k:Int):Int→Option (Int⊕(Unit⊕Unit))|i=>if i<k then if 0≤i∧i<((l.length:Nat):Int) then Option.bind l[Int.toNat i]? fun(a:qa)=>if 0≤k∧k<((l.length:Nat):Int) then Option.bind l[Int.toNat k]? fun(a2:qa)=>Option.bind (QK a a2) fun(a3:Bool)=>if(!a3)=Bool.true then some (Sum.inr (Sum.inl ())) else some (Sum.inl (w64 (i+1))) else none else none else some (Sum.inr (Sum.inr ()))
theorem q1Z:∀(l:List qa) (k i:Int),XL2 evo 43 0 5 ⟨[(0,rL 8 qc l),(3,rI k),(4,rI i)],[],0,26⟩=(qx (Q6 l k) i).bind (Sum.elim (fun(e:Unit)=>some (Exit.ret,⟨[(0,rL 8 qc l),(2,rB Bool.false),(3,rI k)],[],0,26⟩)) (fun(e:Unit)=>some (Exit.exit 2,⟨[(0,rL 8 qc l),(2,R.any),(3,rI k)],[],0,26⟩))):=
 fun l k i=>by
  revert i;exact q75 qpq qnQ (fun e=>by rcases e with _|_<;>exact⟨_,rfl,fun h=>by cases h⟩) fun x=>by
   have:=qsd;have:=@qbo.eq_1;have:=@JY;have:=@Q6.eq_1;exact gA
def Qa (l:List qa):Int→Option (Int⊕(Unit⊕Unit))|k=>if k<((l.length:Nat):Int) then Option.bind (qx (Q6 l k) 0) fun(a:Sum Unit Unit)=>Sum.elim (fun(a2:Unit)=>some (Sum.inr (Sum.inl ()))) (fun(a3:Unit)=>some (Sum.inl (w64 (k+1)))) a else some (Sum.inr (Sum.inr ()))
theorem q21:∀(l:List qa) (k:Int),XL2 evo 43 0 2 ⟨[(0,rL 8 qc l),(3,rI k)],[],0,26⟩=(qx (Qa l) k).bind (Sum.elim (fun(e:Unit)=>some (Exit.ret,⟨[(2,rB Bool.false)],[],0,26⟩)) (fun(e:Unit)=>some (Exit.exit 0,⟨[(2,R.any)],[],0,26⟩))):=
 fun l k=>by
  revert k;exact q75 qoz qnZ (fun e=>by rcases e with _|_<;>exact⟨_,rfl,fun h=>by cases h⟩) fun x=>by
   have:=qsd;have:=@qcX.eq_1;have:=@q1Z;have:=@Qa.eq_1;exact gA
def Zz (l:List qa):Option Bool:=Option.bind (qx (Qa l) 0) fun(a:Sum Unit Unit)=>Sum.elim (fun(a2:Unit)=>some Bool.false) (fun(a3:Unit)=>some Bool.true) a
theorem q3M:∀(l:List qa),ev 43 0 [rL 8 qc l] []=(Zz l).bind (fun(e:Bool)=>some (rB e,[])):=
 fun l=>by
  rw[qD qoq qtE.2.2.2 qr6]
  have:=qsd;have:=@q21;have:=@Zz.eq_1;exact gA
theorem qum:okL 44 q8z:=qF (qf qpQ) (by kernel_rfl) (by kernel_rfl)
def qtL:=JA_ @q8z.eq_1 (JA_ @Try.f44.eq_1 @qpQ)
theorem qmh:lbO 44 3=qe1:=zt (qf qpQ) rfl
theorem qnH:okL 44 qe1:=qN qum (qwS (i:=0) (by kernel_rfl))
def zQ (l:List qa):(Int×Int)→Option ((Int×Int)⊕Int)|(n,k)=>if k<((l.length:Nat):Int) then if 0≤k∧k<((l.length:Nat):Int) then Option.bind l[Int.toNat k]? fun(a:qa)=>some (Sum.inl (w64 (n+a.Credits),w64 (k+1))) else none else some (Sum.inr n)
theorem q0C:∀(l:List qa) (n k:Int),XL2 evo 44 0 3 ⟨[(0,rL 8 qc l),(3,rI n),(4,rI k)],[],0,19⟩=(qx (zQ l) (n,k)).bind (fun(e:Int)=>some (Exit.exit 0,⟨[(3,rI e)],[],0,19⟩)):=
 fun l n k=>by
  revert k;revert n;exact q6H qmh qnH (fun e=>by exact⟨_,rfl,fun h=>by cases h⟩) fun n k=>by
   have:=qtL;have:=@qe1.eq_1;have:=@zQ.eq_1;exact gA
def QI (l:List qa):Option Int:=Option.bind (qx (zQ l) (0,0)) fun(a:Int)=>some a
theorem q1R:∀(l:List qa),ev 44 0 [rL 8 qc l] []=(QI l).bind (fun(e:Int)=>some (rI e,[])):=
 fun l=>by
  rw[qD qpQ qua.2.2.2 qum]
  have:=qtL;have:=@q0C;have:=@QI.eq_1;exact gA
def Q9 (l:List qa):(Int×Int)→Option ((Int×Int)⊕Int)|(best,set0)=>if 0≤((l.length:Nat):Int) then if set0<w64 (1*2 ^ min l.length (IntKind.bits IntKind.i64)) then Option.bind (qx (zA l best set0) ([],0)) fun(a:List qa)=>Option.bind (Zz a) fun(a2:Bool)=>if a2=Bool.true then Option.bind (QI a) fun(a3:Int)=>some (Sum.inl (max best a3,w64 (set0+1))) else some (Sum.inl (best,w64 (set0+1))) else some (Sum.inr best) else none
theorem q1S:∀(l:List qa) (best set0:Int),XL2 evo 17 0 5 ⟨[(0,rL 8 qc l),(4,rI best),(5,rI set0)],[],0,45⟩=(qx (Q9 l) (best,set0)).bind (fun(e:Int)=>some (Exit.exit 0,⟨[(4,rI e)],[],0,45⟩)):=
 fun l best set0=>by
  revert set0;revert best;exact q6H qlY qmy (fun e=>by exact⟨_,rfl,fun h=>by cases h⟩) fun best set0=>by
   have:=qsL;have:=@qdP.eq_1;have:=@q0O;have:=@q3M;have:=@q1R;have:=@Q9.eq_1;exact gA
def Qv (l:List qa):Option (Int×Int):=if 10<((l.length:Nat):Int) then some (0,2) else Option.bind (qx (Q9 l) (0,0)) fun(a:Int)=>some (a,0)
theorem q3V:∀(l:List qa),ev 17 0 [rL 8 qc l] []=(Qv l).bind (fun(e:Int×Int)=>some (R.tup [rI e.1,rI e.2],[])):=
 fun l=>by
  rw[qD qp0 qti.2.2.2 qsq]
  have:=qsL;have:=@q1S;have:=@Qv.eq_1;exact gA
theorem lo4:okL 4 qgJ:=qF (qf bd4) (by kernel_rfl) (by kernel_rfl)
def cx4:=JA_ @qgJ.eq_1 (JA_ @Try.f4.eq_1 @bd4)
theorem qr7:lbO 4 5=qiq:=zt (qf bd4) rfl
theorem qsA:okL 4 qiq:=qN lo4 (qwS (i:=0) (by kernel_rfl))
def qH (w0:List (List qa)) (t3:Bool) (t34:Int):Int→Option (Int⊕(Unit⊕Unit))|t35=>if t35<t34 then if 0≤t35∧t35<((w0.length:Nat):Int) then Option.bind w0[Int.toNat t35]? fun(a:List qa)=>Option.bind (zL a) fun(a2:Prod Int Int)=>Option.bind (Qv a) fun(a3:Prod Int Int)=>if(a2.1 != a3.1)=Bool.true then some (Sum.inr (Sum.inl ())) else if(a2.2 != a3.2)=Bool.true then some (Sum.inr (Sum.inl ())) else Option.bind (Q0 a) fun(a4:List (List Int))=>Option.bind (QS a) fun(a5:List (List Int))=>Option.bind (qU a4 a5) fun(a6:Bool)=>if(!a6)=Bool.true then some (Sum.inr (Sum.inl ())) else some (Sum.inl (w64 (t35+1))) else none else some (Sum.inr (Sum.inr ()))
theorem JP:∀(w0:List (List qa)) (t3:Bool) (t34 t35:Int) (w0_len:Nat),w0_len=w0.length→XL2 evo 4 0 5 ⟨[(3,rB t3),(33,rO 0 1 w0_len),(34,rI t34),(35,rI t35)],[(0,bR 32 1 (eL 8 qc) w0)],1,67⟩=(qx (qH w0 t3 t34) t35).bind (Sum.elim (fun(e:Unit)=>some (Exit.ret,⟨[(2,rB Bool.false),(3,rB t3)],[],0,67⟩)) (fun(e:Unit)=>some (Exit.exit 0,⟨[(2,R.any),(3,rB t3)],[],0,67⟩))):=
 by
 intro w0 t3 t34 t35 w0_len h0
 subst h0
 revert t35;exact q75 qr7 qsA (fun e=>by rcases e with _|_<;>exact⟨_,rfl,fun h=>by cases h⟩) fun x=>by
  have:=cx4;have:=@qiq.eq_1;have:=@q0k;have:=@q3V;have:=@Jr;have:=@q2q;have:=@Zw;have:=@qH.eq_1;exact gA
theorem ZZ:∀(w00 w01 w02:List qa) (t3:Bool) (t34 t35:Int) (w00_len w01_len w02_len:Nat),w00_len=w00.length→w01_len=w01.length→w02_len=w02.length→XL2 evo 4 0 5 ⟨[(3,rB t3),(33,rO 0 1 3),(34,rI t34),(35,rI t35)],[(0,B.row 32 1 [C.d (D.sl 8 w00_len (w00.flatMap qc)),C.d (D.sl 8 w01_len (w01.flatMap qc)),C.d (D.sl 8 w02_len (w02.flatMap qc))])],1,67⟩=(qx (qH [w00,w01,w02] t3 t34) t35).bind (Sum.elim (fun(e:Unit)=>some (Exit.ret,⟨[(2,rB Bool.false),(3,rB t3)],[],0,67⟩)) (fun(e:Unit)=>some (Exit.exit 0,⟨[(2,R.any),(3,rB t3)],[],0,67⟩))):=by
 intro w00 w01 w02 t3 t34 t35 w00_len w01_len w02_len h0 h1 h2;subst h0 h1 h2;have h:=JP [w00,w01,w02] t3 t34 t35 _ rfl
 first
  | exact h
  | (simp only[rL,dL,bR,bZ,Nat.reduceAdd] at h;exact h)
def Qr (x0:Qq):Option Bool:=Option.bind QY fun(a:Bool)=>Option.bind (Q1 x0) fun(a2:Prod (List qa) (Prod qg Int))=>if a2.1.length≤maxLen∧a2.1.length*104≤140737488355328 then if a2.1.length+a2.1.length≤maxLen∧(a2.1.length+a2.1.length)*104≤140737488355328 then if 0≤min ((a2.1.length+a2.1.length:Nat):Int) 10∧min ((a2.1.length+a2.1.length:Nat):Int) 10≤((a2.1.length+a2.1.length:Nat):Int) then Option.bind (qx (qH [a2.1,a2.1++a2.1,List.take (Int.toNat (min ((a2.1.length+a2.1.length:Nat):Int) 10)) (a2.1++a2.1)] a 3) 0) fun(a3:Sum Unit Unit)=>Sum.elim (fun(a4:Unit)=>some Bool.false) (fun(a5:Unit)=>some a) a3 else none else none else none
theorem q1e:∀(x0_Has:List (List Int)) (x0_Odd_0_0 x0_Odd_0_1 x0_Odd_0_2 x0_Odd_1_0 x0_Odd_1_1 x0_Odd_1_2:Int) (x0_Programme:List Int) (x0_Day:Int),ev 4 0 [R.agg [dL 1 (eL 1 eI) x0_Has,dI x0_Odd_0_0,dI x0_Odd_0_1,dI x0_Odd_0_2,dI x0_Odd_1_0,dI x0_Odd_1_1,dI x0_Odd_1_2,dL 1 eI x0_Programme,C.d (D.int .u16 x0_Day)]] []=(Qr (Qq.mk x0_Has (QT.mk (qhA.mk x0_Odd_0_0 x0_Odd_0_1 x0_Odd_0_2) (qhA.mk x0_Odd_1_0 x0_Odd_1_1 x0_Odd_1_2)) x0_Programme x0_Day)).bind (fun(e:Bool)=>some (rB e,[])):=
 fun x0_Has x0_Odd_0_0 x0_Odd_0_1 x0_Odd_0_2 x0_Odd_1_0 x0_Odd_1_1 x0_Odd_1_2 x0_Programme x0_Day=>by
  rw[qD bd4 pw4.2.2.2 lo4]
  have:=cx4;have:=@q2A;have:=@q1h;have:=@ZZ;have:=@Qr.eq_1;exact gA
end

noncomputable section
open Go.RowKit
theorem qc1 (a b:List Int) (ha:a.length≤1000000) (hb:b.length≤1000000):QU a b=some (q47 a b):=by
 have inner:∀(k:Nat) (x:Int),a[k]?=some x→qx (zE a b (k:Int)) (0:Int)=some (if b.any (fun y=>x==y)=true then .inl () else .inr ()):=fun k x hx=>
  q2c (step:=zE a b (k:Int)) b (fun y=>x==y) (Sum.inl ()) (Sum.inr ()) (fun i y hy=>by
   have hk:=Q5 hx;have hi:=Q5 hy
   unfold zE
   rw[if_pos (by omega),if_pos ⟨by omega,by omega⟩,qwU,hx,qwR,if_pos ⟨by omega,by omega⟩,qwU,hy,qwR,Q8 hi hb]
   split<;>rfl) (by
   unfold zE
   rw[if_neg (by omega)])
 have h:=q2c (step:=Q3 a b) a (fun x=>b.any fun y=>x==y) (Sum.inl ()) (Sum.inr ()) (fun k x hx=>by
  have hk:=Q5 hx
  unfold Q3
  rw[if_pos (by omega),inner k x hx,qwR,Q8 hk ha]
  split<;>rfl) (by
  unfold Q3
  rw[if_neg (by omega)])
 unfold QU q47
 rw[h,qwR]
 cases a.any fun x=>b.any fun y=>x==y<;>rfl
theorem q4Y {a b:qa} (ha:zd a) (hb:zd b):QK a b=some (Qh a b):=by
 have h1:=ha.1;have h2:=ha.2;have h3:=hb.1
 unfold QK Qh
 rw[q8T _ _ (by omega),qc1 _ _ (by omega) (by omega)]
 simp only[qwR]
 by_cases hc:ceq a.Course b.Course=true
 ·rw[if_pos (by unfold ceq at hc;rw[qxn] at hc;exact hc),hc];rfl
 ·rw[if_neg (by unfold ceq at hc;rw[qxn] at hc;exact hc),qxj.2 hc]
  cases hm:q47 a.Sources b.Sources
  ·rw[if_pos (by decide)];simp
  ·rw[if_neg (by decide)]
   cases hp:decide (a.Path=b.Path)
   ·rw[if_neg (by decide)];simp
   ·rw[if_pos rfl]
    cases hbd:a.Bundle==b.Bundle
    ·rw[if_neg (by decide)];simp
    ·rw[if_pos rfl];simp
theorem qeZ (l:List qa) (hl:l.length≤1000) (hf:∀a∈l,zd a):Zz l=some (Z3 l):=by
 have inner:∀(k:Nat) (a:qa),l[k]?=some a→qx (Q6 l (k:Int)) (0:Int)=some (if(l.take k).all (fun b=>Qh b a)=true then .inr () else .inl ()):=fun k a ha=>by
  have hk:=Q5 ha
  have hlen:(l.take k).length=k:=by rw[qxk];omega
  have h:=q2c (step:=Q6 l (k:Int)) (l.take k) (fun b => !Qh b a) (.inl ()) (.inr ()) (fun i b hb=>by
   have hi:=Q5 hb
   rw[hlen] at hi
   rw[qxq hi] at hb
   unfold Q6
   rw[if_pos (by omega),if_pos ⟨by omega,by omega⟩,qwU,hb,qwR,if_pos ⟨by omega,by omega⟩,qwU,ha,qwR,q4Y (hf b (qwS hb)) (hf a (qwS ha)),qwR,Q8 hi (by omega)]
   split<;>rfl) (by
   rw[hlen]
   unfold Q6
   rw[if_neg (by omega)])
  rw[h]
  have e:(l.take k).any (fun b => !Qh b a) = !(l.take k).all (fun b=>Qh b a):=by
   rw[List.not_all_eq_any_not]
  rw[e]
  cases(l.take k).all (fun b=>Qh b a)<;>rfl
 have key:∀(j k:Nat),j+k=l.length→Z3 (l.take k)=true→qx (Qa l) (k:Int)=some (if Z3 l=true then .inr () else .inl ()):=by
  intro j
  induction j with
  | zero=>
   intro k hk hfr
   have hk:k=l.length:=by omega
   subst hk
   rw[List.take_length] at hfr
   rw[hfr,if_pos rfl]
   refine qW ?_
   unfold Qa
   rw[if_neg (by omega)]
  | succ j ih=>
   intro k hk hfr
   have hlt:k<l.length:=by omega
   have ha:l[k]?=some l[k]:=qwT hlt
   have et:l.take (k+1)=l.take k++[l[k]]:=by rw[List.take_add_one,ha];rfl
   have e:Qa l (k:Int)=some (if(l.take k).all (fun b=>Qh b l[k])=true then .inl ((k+1:Nat):Int) else .inr (.inl ())):=by
    unfold Qa
    rw[if_pos (by omega),inner k _ ha,qwR,Q8 hlt (by omega)]
    split<;>rfl
   cases hq:(l.take k).all (fun b=>Qh b l[k])
   ·rw[hq,if_neg (by decide)] at e
    have:Z3 l=false:=by
     rw[qxj]
     intro hft
     have h2:Z3 (l.take (k+1))=true:=(q0u _).2 (((q0u _).1 hft).sublist (List.take_sublist _ _))
     rw[et,q2j,hq] at h2
     simp at h2
    rw[qW e,this];rfl
   ·rw[hq,if_pos rfl] at e
    rw[zS e]
    exact ih (k+1) (by omega) (by rw[et,q2j,hfr,hq];rfl)
 unfold Zz
 change Option.bind (qx _ ((0:Nat):Int)) _=_
 rw[key l.length 0 (by omega) rfl,qwR]
 cases Z3 l<;>rfl
theorem q7u (l:List qa) (hl:l.length≤1000):QI l=some (q8P l):=by
 have h:=q0Y (step:=zQ l) l (fun(b:Int) k=>(b,(k:Int))) (fun b a=>w64 (b+a.Credits)) (fun b=>b) (fun b k a ha=>by
  have hi:=Q5 ha
  unfold zQ
  dsimp only
  rw[if_pos (by omega),if_pos ⟨by omega,by omega⟩,qwU,ha,qwR,Q8 hi (by omega)]) (fun b=>by
  unfold zQ
  dsimp only
  rw[if_neg (by omega)]) 0
 unfold QI
 change Option.bind (qx _ ((0:Int),((0:Nat):Int))) _=_
 rw[h];rfl
end
noncomputable section
open Go.RowKit
theorem q9Q (l:List qa) (hl:l.length≤1000):qx (zn l) ([],(0:Int))=some (zq (List.range l.length)):=by
 have hML:10000000≤maxLen:=by unfold maxLen;omega
 exact Zp (step:=zn l) (fun k=>(zq (List.range k),(k:Int))) 0 l.length (qxh _) (fun k _ hk=>by
  unfold zn
  dsimp only
  rw[if_pos (by omega),Qs,List.length_range,if_pos ⟨by omega,by omega⟩,Q8 hk (by omega),List.range_succ]
  unfold zq
  rw[List.map_append];rfl) (by
  unfold zn
  dsimp only
  rw[if_neg (by omega)])
theorem qgq {e:Nat→Nat→Bool} (s:List Nat×Bool) (p:Nat×Nat):(qev e s p).1.length=s.1.length:=by
 unfold qev;split
 ·rw[qxC]
 ·rfl
theorem q4w {e:Nat→Nat→Bool}:∀(ps:List (Nat×Nat)) (s:List Nat×Bool),(Zn e ps s).1.length=s.1.length
 | [],_=>rfl
 | p::ps,s=>(q4w ps (qev e s p)).trans (qgq s p)
theorem qkp (l:List qa) (hl:l.length≤1000) (hf:∀a∈l,zd a) (k:Nat) (hk:k<l.length) (s:List Nat×Bool) (hs:s.1.length=l.length) :
  qx (zB l (k:Int)) (zq s.1,s.2,(0:Int))=some (zq (Zn (eF l) ((List.range l.length).map fun i=>(k,i)) s).1,(Zn (eF l) ((List.range l.length).map fun i=>(k,i)) s).2):=by
 have ha:l[k]?=some l[k]:=qwT hk
 exact Zp (step:=zB l (k:Int)) (fun i=>(zq (Zn (eF l) ((List.range i).map fun i=>(k,i)) s).1,(Zn (eF l) ((List.range i).map fun i=>(k,i)) s).2,(i:Int))) 0 l.length (qxh _) (fun i _ hi=>by
  have hb:l[i]?=some l[i]:=qwT hi
  obtain⟨t,ht⟩:∃t,t=Zn (eF l) ((List.range i).map fun i=>(k,i)) s:=⟨_,rfl⟩
  have htl:t.1.length=l.length:=by rw[ht,q4w,hs]
  have e1:Zn (eF l) ((List.range (i+1)).map fun i=>(k,i)) s=qev (eF l) t (k,i):=by
   unfold Zn
   rw[List.range_succ,List.map_append,List.foldl_append,ht];rfl
  rw[e1,←ht]
  unfold zB qev
  dsimp only
  rw[if_pos (by omega),if_pos ⟨by omega,by omega⟩,qwU,ha,qwR,if_pos ⟨by omega,by omega⟩,qwU,hb,qwR,q4Y (hf _ (qxI _)) (hf _ (qxI _)),qwR,Q8 hi (by omega),qfT ha hb]
  cases Qh l[k] l[i]
  ·rw[if_pos (show(!false)=true by decide),Qs,if_pos ⟨by omega,by omega⟩,ZB (by omega),qwR,if_pos ⟨by omega,by omega⟩,ZB (by omega),qwR]
   by_cases hlt:t.1.getD i 0<t.1.getD k 0
   ·rw[if_pos (by omega),if_pos ⟨by omega,by omega⟩,qwR,if_pos ⟨by omega,by omega⟩,if_pos (by omega),if_pos ⟨by decide,hlt⟩,q4v]
   ·rw[if_neg (by omega),if_neg (fun h=>hlt h.2)]
  ·rw[if_neg (show ¬ (!true)=true by decide),if_neg (fun h=>by cases h.1)]) (by
  unfold zB
  dsimp only
  rw[if_neg (by omega)])
theorem qgj (l:List qa) (hl:l.length≤1000) (hf:∀a∈l,zd a) (s:List Nat×Bool) (hs:s.1.length=l.length) :
  qx (zy l) (zq s.1,s.2,(0:Int))=some (zq (Zn (eF l) (prs l.length) s).1,(Zn (eF l) (prs l.length) s).2):=by
 have e:prs l.length=(List.range l.length).flatMap fun k=>(List.range l.length).map fun i=>(k,i):=rfl
 rw[e]
 exact Zp (step:=zy l) (fun k=>(zq (Zn (eF l) ((List.range k).flatMap fun k=>(List.range l.length).map fun i=>(k,i)) s).1,(Zn (eF l) ((List.range k).flatMap fun k=>(List.range l.length).map fun i=>(k,i)) s).2,(k:Int))) 0 l.length (qxh _) (fun k _ hk=>by
  obtain⟨t,ht⟩:∃t,t=Zn (eF l) ((List.range k).flatMap fun k=>(List.range l.length).map fun i=>(k,i)) s:=⟨_,rfl⟩
  have htl:t.1.length=l.length:=by rw[ht,q4w,hs]
  have e1:Zn (eF l) ((List.range (k+1)).flatMap fun k=>(List.range l.length).map fun i=>(k,i)) s=Zn (eF l) ((List.range l.length).map fun i=>(k,i)) t:=by
   unfold Zn at ht ⊢
   rw[List.range_succ,List.flatMap_append,List.foldl_append,ht]
   simp
  rw[e1,←ht]
  unfold zy
  dsimp only
  rw[if_pos (by omega),qkp l hl hf k hk t htl,qwR,Q8 hk (by omega)]) (by
  unfold zy
  dsimp only
  rw[if_neg (by omega)])
theorem qf1 (l:List qa) (hl:l.length≤1000) (hf:∀a∈l,zd a):∃g:List Nat,qx (zl l) (zq (List.range l.length),true)=some (zq g)∧g.length=l.length∧∀k,k<l.length→Lw (fun i j=>eF l i j=true) k (g.getD k 0):=by
 have hstep:∀g:List Nat,g.length=l.length→zl l (zq g,true)=some (.inl (zq (Zn (eF l) (prs l.length) (g,false)).1,(Zn (eF l) (prs l.length) (g,false)).2)):=fun g hg=>by
  unfold zl
  dsimp only
  rw[if_pos rfl]
  have:=qgj l hl hf (g,false) hg
  dsimp only at this
  rw[this,qwR]
 have hps:∀p∈prs l.length,p.1<l.length∧p.2<l.length:=fun p hp=>qeb.1 hp
 refine q9h (e:=eF l) (n:=l.length) (prs l.length) hps (Q:=fun g0=>∃g:List Nat,qx (zl l) (zq g0,true)=some (zq g)∧g.length=l.length∧∀k,k<l.length→Lw (fun i j=>eF l i j=true) k (g.getD k 0)) (fun g hg ha hq=>?_) (fun g hg ha hle hc hk=>?_) (List.range l.length).sum (List.range l.length) (qx7 _) (List.length_range) (fun k hk=>?_) (fun k hk=>?_)
 ·have:=hstep g hg
  rw[ha] at this
  rw[zS this]
  exact hq
 ·have h1:=hstep g hg
  have ok:=q3y (e:=eF l) (prs l.length) g false (fun p hp=>by rw[hg];exact hps p hp)
  rw[ha,(ok.eq ha).1] at h1
  refine⟨g,?_,hg,fun k hkl=>qaT (fun i j h=>q7J h) (fun i j h=>q3U h) hc hk (fun i k h=>hle (k,i) (qeb.2 ⟨(q7J h).2,(q7J h).1⟩) (q3U h)) hkl⟩
  rw[zS h1]
  refine qW ?_
  unfold zl
  rfl
 ·rw[List.getD_eq_getElem?_getD,List.getElem?_range hk];exact .refl k
 ·rw[List.getD_eq_getElem?_getD,List.getElem?_range hk];exact qx7 _
theorem qa1 (g:List Nat) (l:List qa) (hgl:g.length=l.length) (hl:l.length≤1000) (w1:List (List Int)) (r:Nat):qx (z7 (zq g) w1 l (r:Int)) ([],(0:Int))=some (zq ((List.range l.length).filter fun i=>decide (g.getD i 0=r))):=by
 have hML:10000000≤maxLen:=by unfold maxLen;omega
 exact Zp (step:=z7 (zq g) w1 l (r:Int)) (fun i=>(zq ((List.range i).filter fun i=>decide (g.getD i 0=r)),(i:Int))) 0 l.length (qxh _) (fun i _ hi=>by
  have hfl:(zq ((List.range i).filter fun i=>decide (g.getD i 0=r))).length≤i:=by
   rw[Qs]
   exact qxs (List.length_filter_le _ _) (by rw[List.length_range];exact qx7 _)
  unfold z7
  dsimp only
  rw[if_pos (by omega),Qs,if_pos ⟨by omega,by omega⟩,qwU,ZB (by omega),qwR,Q8 hi (by omega),List.range_succ,List.filter_append,List.filter_cons]
  by_cases h:g.getD i 0=r
  ·rw[if_pos (beq_iff_eq.2 (by omega:((g.getD i 0:Nat):Int)=(r:Int))),if_pos ⟨by omega,by omega⟩,if_pos (qxR h)]
   unfold zq
   rw[List.map_append];rfl
  ·rw[if_neg (fun hh=>h (by have:=beq_iff_eq.1 hh;omega)),if_neg (by simpa using h),List.filter_nil,qxc]) (by
  unfold z7
  dsimp only
  rw[if_neg (by omega)])
theorem q63 (g:List Nat) (l:List qa) (hgl:g.length=l.length) (hl:l.length≤1000):qx (z8 (zq g) l) ([],(0:Int))=some ((q5G l.length fun k=>g.getD k 0).map zq):=by
 have hML:10000000≤maxLen:=by unfold maxLen;omega
 have e0:∀k,((rts k fun k=>g.getD k 0).map fun r=>zq ((List.range l.length).filter fun i=>decide (g.getD i 0=r))).length≤k:=fun k=>by
  rw[qxz];unfold rts;exact qxs (List.length_filter_le _ _) (by rw[List.length_range];exact qx7 _)
 have e1:(q5G l.length fun k=>g.getD k 0).map zq=(rts l.length fun k=>g.getD k 0).map fun r=>zq ((List.range l.length).filter fun i=>decide (g.getD i 0=r)):=by
  unfold q5G rts
  rw[List.map_map];rfl
 rw[e1]
 exact Zp (step:=z8 (zq g) l) (fun k=>((rts k fun k=>g.getD k 0).map fun r=>zq ((List.range l.length).filter fun i=>decide (g.getD i 0=r)),(k:Int))) 0 l.length (qxh _) (fun k _ hk=>by
  have hk0:=e0 k
  have es:rts (k+1) (fun k=>g.getD k 0)=rts k (fun k=>g.getD k 0)++if g.getD k 0=k then[k] else[]:=by
   unfold rts
   rw[List.range_succ,List.filter_append,List.filter_cons]
   by_cases h:g.getD k 0=k
   ·rw[if_pos (qxR h),if_pos h];rfl
   ·rw[if_neg (by simpa using h),if_neg h];rfl
  unfold z8
  dsimp only
  rw[if_pos (by omega),Qs,if_pos ⟨by omega,by omega⟩,qwU,ZB (by omega),qwR,Q8 hk (by omega),es]
  by_cases h:g.getD k 0=k
  ·rw[if_neg (by rw[h];simp),qa1 g l hgl hl,qwR,if_pos ⟨by omega,by omega⟩,if_pos h,List.map_append];rfl
  ·rw[if_pos (by rw[bne_iff_ne];omega),if_neg h,qxc]) (by
  unfold z8
  dsimp only
  rw[if_neg (by omega)])
theorem q9Y (l:List qa) (hl:l.length≤1000) (hf:∀a∈l,zd a):QS l=some ((q5G l.length (lwF l)).map zq):=by
 obtain⟨g,h1,h2,h3⟩:=qf1 l hl hf
 unfold QS
 rw[q9Q l hl,qwR,h1,qwR,q63 g l h2 hl,qwR]
 congr 2
 exact q4Z fun k hk=>(h3 k hk).uniq (q6G l hk)
end
noncomputable section
open Go.RowKit
theorem qdc (l:List qa) (hl:l.length≤100) (hf:∀a∈l,zd a):∀(r set:List qa) (k:Nat) (b:Int),r.length+k=l.length→l.drop k=r→set.length≤k→(∀a∈set,zd a)→
  qx (zi zX set) (b,l,(k:Int))=some (.inr (dfs Z3 q8P r set b,l)):=by
 have hML:100000≤maxLen:=by unfold maxLen;omega
 intro r
 induction r with
 | nil=>
  intro set k b hk hd hs hsf
  have hk:k=l.length:=by simpa using hk
  refine qW ?_
  unfold zi
  dsimp only
  rw[if_neg (by omega)];rfl
 | cons a r ih=>
  intro set k b hk hd hs hsf
  simp only[qx2] at hk
  have ha:l[k]?=some a:=by have:=congrArg (fun x:List qa=>x[0]?) hd;simpa [List.getElem?_drop] using this
  have hd1:l.drop (k+1)=r:=by rw[←qxE,hd];rfl
  have hklt:=Q5 ha
  have hsf1:∀x∈set++[a],zd x:=fun x hx=>by
   rcases qxl.1 hx with h|h
   ·exact hsf x h
   ·rw[qxH.1 h];exact hf a (qwS ha)
  have hlen:(set++[a]).length=set.length+1:=by simp
  have e:zi zX set (b,l,(k:Int))=some (.inl (if Z3 (set++[a])=true then dfs Z3 q8P r (set++[a]) (max b (q8P (set++[a]))) else b,l,((k+1:Nat):Int))):=by
   unfold zi
   dsimp only
   rw[if_pos (by omega),if_pos ⟨by omega,by omega⟩,qwU,ha,qwR,if_pos ⟨by omega,by omega⟩,qjt _ (by omega) hsf1,qwR,Q8 hklt (by omega)]
   by_cases hfr:Z3 (set++[a])=true
   ·rw[if_pos hfr,if_pos hfr,ZX]
    unfold zI QH
    dsimp only
    rw[q5b _ (by omega),qwR,qwR,ih (set++[a]) (k+1) _ (by omega) hd1 (by omega) hsf1,qwR]
    rfl
   ·rw[if_neg hfr,if_neg hfr]
  rw[zS e,ih set (k+1) _ (by omega) hd1 (by omega) hsf]
  rfl
theorem qdh (l:List qa) (hl:l.length≤10) (hf:∀a∈l,zd a):zL l=some (dfs Z3 q8P l [] 0,0):=by
 unfold zL Zq
 rw[if_neg (by omega),ZX]
 unfold zI QH
 dsimp only
 rw[q5b [] (by simp),qwR,qwR]
 change Option.bind (Option.bind (Option.bind (qx _ (max 0 (q8P []),l,((0:Nat):Int))) _) _) _=_
 rw[qdc l (by omega) hf l [] 0 _ (by omega) rfl (by simp) (by simp)]
 rfl
theorem qdR (l:List qa) (hl:10<l.length):zL l=some (0,2):=by
 unfold zL
 rw[if_pos (by omega)]
theorem qlU (l:List qa):q73 Z3 q8P l (dfs Z3 q8P l [] 0):=qfN qe9 rfl rfl l
end
noncomputable section
open Go.RowKit
theorem qg3 (a:Nat) (h:a<9223372036854775808):IntKind.i64.wrap (a:Int)=a:=wi _ (by omega) (by omega)
theorem qcK (a:Nat):BitVec.ofInt IntKind.i64.bits (a:Int)=BitVec.ofNat 64 a:=by
 show BitVec.ofInt 64 (a:Int)=_
 simp
theorem qi9 (a b:Nat) (ha:a<9223372036854775808) (hb:b<9223372036854775808):q01 .and .i64 (a:Int) (b:Int)=((a &&& b:Nat):Int):=by
 unfold q01
 simp only[qcK]
 have h1:(BitVec.ofNat 64 a &&& BitVec.ofNat 64 b).toNat=a &&& b:=by
  rw[BitVec.toNat_and,BitVec.toNat_ofNat,BitVec.toNat_ofNat,Nat.mod_eq_of_lt (by omega),Nat.mod_eq_of_lt (by omega)]
 have h2:a &&& b≤a:=Nat.and_le_left
 show IntKind.i64.wrap (((BitVec.ofNat 64 a &&& BitVec.ofNat 64 b).toNat:Nat):Int)=_
 rw[h1]
 exact qg3 _ (by omega)
theorem qgn (a k:Nat) (hk:k≤64):((a:Int)).fdiv (2 ^ min k IntKind.i64.bits)=((a / 2 ^ k:Nat):Int):=by
 have:min k IntKind.i64.bits=k:=Nat.min_eq_left hk
 rw[this]
 show((a:Int)).fdiv (2 ^ k)=_
 rw[show((2:Int) ^ k)=((2 ^ k:Nat):Int) by simp]
 rw[Int.fdiv_eq_ediv_of_nonneg _ (Int.natCast_nonneg _)]
 simp
theorem qk1 (a k:Nat) (ha:a<9223372036854775808) (hk:k≤64):(q01 .and .i64 ((a:Int).fdiv (2 ^ min k IntKind.i64.bits)) 1==1)=a.testBit k:=by
 rw[qgn a k hk,show(1:Int)=((1:Nat):Int) from rfl,qi9 _ _ (Nat.lt_of_le_of_lt (Nat.div_le_self _ _) ha) (by decide),Nat.and_one_is_mod,Nat.testBit_eq_decide_div_mod_eq]
 have:a / 2 ^ k % 2<2:=Nat.mod_lt _ (by decide)
 by_cases h:a / 2 ^ k % 2=1
 ·simp[h]
 ·have:a / 2 ^ k % 2=0:=by omega
  simp[this]
end
noncomputable section
open Go.RowKit
theorem q7v (m k:Nat):m.testBit k=decide (m / 2 ^ k % 2=1):=Nat.testBit_eq_decide_div_mod_eq
theorem qbG (l:List qa) (hl:l.length≤10) (best:Int) (m:Nat) (hm:m<1000000):∀(r p:List qa) (k:Nat),r.length+k=l.length→l.drop k=r→p.length≤k→qx (zA l best (m:Int)) (p,(k:Int))=some (p++pt r (m / 2 ^ k)):=by
 have hML:100000≤maxLen:=by unfold maxLen;omega
 intro r
 induction r with
 | nil=>
  intro p k hk hd hp
  have hk:k=l.length:=by simpa using hk
  refine(qW (e:=p) ?_).trans (by rw[pt,qxc])
  unfold zA
  dsimp only
  rw[if_neg (by omega)]
 | cons a r ih=>
  intro p k hk hd hp
  simp only[qx2] at hk
  have ha:l[k]?=some a:=by have:=congrArg (fun x:List qa=>x[0]?) hd;simpa [List.getElem?_drop] using this
  have hd1:l.drop (k+1)=r:=by rw[←qxE,hd];rfl
  have hklt:=Q5 ha
  have hdiv:m / 2 ^ k / 2=m / 2 ^ (k+1):=by rw[Nat.pow_succ,Nat.div_div_eq_div_mul]
  have e:zA l best (m:Int) (p,(k:Int))=some (.inl (if m / 2 ^ k % 2=1 then p++[a] else p,((k+1:Nat):Int))):=by
   unfold zA
   dsimp only
   rw[if_pos (by omega),if_pos (by omega),qwU,qk1 m k (by omega) (by omega),q7v,Q8 hklt (by omega)]
   by_cases hb:m / 2 ^ k % 2=1
   ·rw[if_pos (qxR hb),if_pos ⟨by omega,by omega⟩,ha,qwR,if_pos ⟨by omega,by omega⟩,if_pos hb]
   ·rw[if_neg (by simpa using hb),if_neg hb]
  rw[zS e]
  unfold pt
  by_cases hb:m / 2 ^ k % 2=1
  ·rw[if_pos hb,if_pos hb,ih (p++[a]) (k+1) (by omega) hd1 (by simp;omega),←hdiv,qxw];rfl
  ·rw[if_neg hb,if_neg hb,ih p (k+1) (by omega) hd1 (by omega),←hdiv]
theorem qgD (l:List qa) (hl:l.length≤10) (hf:∀a∈l,zd a):Qv l=some (qba Z3 q8P l 0 (List.range (2 ^ l.length)),0):=by
 have hp:2 ^ l.length≤1024:=qxs (Nat.pow_le_pow_right (by omega) hl) (by decide)
 have hw:w64 ((1:Int)*(2:Int) ^ min l.length (IntKind.bits IntKind.i64))=((2 ^ l.length:Nat):Int):=by
  have e:min l.length (IntKind.bits IntKind.i64)=l.length:=by show min l.length 64=l.length;omega
  have e2:(1:Int)*(2:Int) ^ l.length=((2 ^ l.length:Nat):Int):=by rw[Int.one_mul];exact(Int.natCast_pow 2 l.length).symm
  rw[e,e2,Qo (Int.le_trans (by decide) (Int.natCast_nonneg _)) (Int.le_trans (Int.ofNat_le.2 hp) (by decide))]
 have key:∀(j m:Nat) (b:Int),j+m=2 ^ l.length→qx (Q9 l) (b,(m:Int))=some (qba Z3 q8P l b (List.range' m j)):=by
  intro j
  induction j with
  | zero=>
   intro m b hm
   refine qW ?_
   unfold Q9
   dsimp only
   rw[if_pos (by omega),hw,if_neg (by omega)];rfl
  | succ j ih=>
   intro m b hm
   have hpf:∀a∈pt l m,zd a:=fun a ha=>hf a ((q6Y l m).subset ha)
   have hpl:(pt l m).length≤10:=qxs (q6Y l m).length_le hl
   have hpart:=qbG l hl b m (by omega) l [] 0 (by omega) rfl (qx7 _)
   rw[Nat.pow_zero,Nat.div_one,qxb] at hpart
   have e:Q9 l (b,(m:Int))=some (.inl (if Z3 (pt l m)=true then max b (q8P (pt l m)) else b,((m+1:Nat):Int))):=by
    unfold Q9
    dsimp only
    rw[if_pos (by omega),hw,if_pos (by omega)]
    change Option.bind (qx (zA l b (m:Int)) ([],((0:Nat):Int))) _=_
    rw[hpart,qwR,qeZ _ (by omega) hpf,qwR,q7u _ (by omega),qwR,Qo (by omega) (by omega)]
    split<;>rfl
   rw[zS e,ih (m+1) _ (by omega)]
   rfl
 unfold Qv
 rw[if_neg (by omega)]
 change Option.bind (qx _ ((0:Int),((0:Nat):Int))) _=_
 rw[key (2 ^ l.length) 0 0 (by omega),qwR,←List.range_eq_range']
theorem qaw (l:List qa) (hl:10<l.length):Qv l=some (0,2):=by
 unfold Qv
 rw[if_pos (by omega)]
theorem qeo (l:List qa) (hl:l.length≤100) (hf:∀a∈l,zd a):∃n e,zL l=some (n,e)∧Qv l=some (n,e):=by
 by_cases h:l.length≤10
 ·have e:=qaN (qlU l) (qcr (fr:=Z3) (cr:=q8P) rfl rfl l)
  exact⟨_,_,qdh l h hf,by rw[qgD l h hf,e]⟩
 ·exact⟨_,_,qdR l (by omega),qaw l (by omega)⟩
end
noncomputable section
open Go.RowKit
def q8s (n a b:Int):Int:=max (min a b) (min n (max a b))
def q5x (s:qe):Bool:=q8s s.Worst (-1000) 1000==s.Worst&&q8s s.Best (-1000) 1000==s.Best&&s.Worst != s.Best&&q8s s.Pass s.Worst s.Best==s.Pass
def q8C (s:qe) (g:Int):Bool:=q5x s&&q8s g s.Worst s.Best==g
def qcz (s:qe) (g m:Int):Bool:=q8C s g&&(g==m||(decide (m<g)==decide (s.Worst<s.Best)))
theorem q5Q (s:qe):Zd s=some (if q5x s then 0 else 10):=by
 have h1:=qcA (ε:=Unit⊕Unit) (step:=zW [s.Worst,s.Best] s 2) [s.Worst,s.Best] (fun i=>(i:Int)) (fun a=>if q8s a (-1000) 1000 != a then some (.inl ()) else none) (.inr ()) (fun i a ha=>by
   have hi:i<2:=by obtain⟨h,_⟩:=qwV.1 ha;simpa using h
   have hw:w64 ((i:Int)+1)=((i+1:Nat):Int):=q5z hi (by omega)
   unfold zW
   rw[if_pos (by omega),if_pos ⟨by omega,by simpa using by omega⟩,qwU,ha,qwR,hw]
   show(if(q8s a (-1000) 1000 != a)=true then _ else _)=_
   split<;>simp_all) (by
   unfold zW
   rfl)
 unfold Zd
 rw[show((0:Int))=((0:Nat):Int) from rfl,h1,qwR]
 unfold q5x qO
 simp only[List.findSome?_cons,List.findSome?_nil]
 show _=some (if(q8s s.Worst (-1000) 1000==s.Worst&&q8s s.Best (-1000) 1000==s.Best&&s.Worst != s.Best&&q8s s.Pass s.Worst s.Best==s.Pass)=true then 0 else 10)
 change (Sum.elim _ (fun _=>if(s.Worst==s.Best)=true then some (10:Int) else if(q8s s.Pass s.Worst s.Best != s.Pass)=true then some 10 else some 0) _)=_
 by_cases e1:q8s s.Worst (-1000) 1000=s.Worst<;>by_cases e2:q8s s.Best (-1000) 1000=s.Best<;>by_cases e3:s.Worst=s.Best<;>by_cases e4:q8s s.Pass s.Worst s.Best=s.Pass<;>simp[e1,e2,e3,e4,bne]
theorem q5S (s:qe) (g:Int):Zc s g=some (q8C s g):=by
 unfold Zc q8C
 rw[q5Q,qwR]
 cases h:q5x s<;>simp[qO,q8s]
theorem qay (s:qe) (g m:Int):QJ s g m=some (qcz s g m):=by
 unfold QJ qcz
 rw[q5S,qwR]
 cases h:q8C s g
 ·simp
 ·by_cases h2:g=m<;>simp[h2]
def q5t (s:qe) (a b:qa):Bool:=ceq a.Course b.Course&&(a.Bundle==b.Bundle)&&decide (a.Path=b.Path)&&decide (b.Credits≤a.Credits)&&decide (b.Day≤a.Day)&&qcz s a.Grade b.Grade
theorem qe2 (s:qe) {a b:qa} (ha:zd a):QX s a b=some (q5t s a b):=by
 have h2:=ha.2
 unfold QX q5t
 rw[q6j _ _ (by omega),qay]
 simp only[qwR]
 by_cases hc:ceq a.Course b.Course=true
 ·rw[if_pos (by unfold ceq at hc;rw[qxn] at hc;exact hc),hc]
  cases a.Bundle==b.Bundle
  ·rfl
  ·rw[if_pos rfl]
   by_cases hp:a.Path=b.Path
   ·rw[qxR hp,if_pos rfl]
    by_cases h3:b.Credits≤a.Credits
    ·rw[if_pos h3,qxR h3]
     by_cases h4:b.Day≤a.Day
     ·rw[if_pos h4,qxR h4];simp
     ·rw[if_neg h4,decide_eq_false h4];simp
    ·rw[if_neg h3,decide_eq_false h3];simp
   ·rw[decide_eq_false hp,if_neg (by decide)];simp
 ·rw[if_neg (by unfold ceq at hc;rw[qxn] at hc;exact hc),qxj.2 hc];rfl
theorem qch {ε:Type} {step:Int→Option (Int⊕ε)} (n:Nat) (q:Nat→Bool) (e0 e1:ε) (hs:∀i,i<n→step (i:Int)=some (if q i=true then .inr e0 else .inl ((i+1:Nat):Int))) (he:step ((n:Nat):Int)=some (.inr e1)) :
  qx step (0:Int)=some (if(List.range n).any q=true then e0 else e1):=
 q2c (List.range n) q e0 e1 (fun i a ha=>by
  have hi:=Q5 ha
  rw[List.length_range] at hi
  rw[List.getElem?_range hi] at ha
  injection ha with ha
  subst ha
  exact hs i hi) (by rw[List.length_range];exact he)
def qiX (l:List qa) (i:Nat) (n:Int):Bool:=(List.range l.length).any fun j=>decide (j≠i)&&(l[j]?.any fun c=>c.Sources.any fun x=>x==n)
def qt3 (s:qe) (l:List qa) (i k:Nat) (a b:qa):Bool:=decide (i≠k)&&q5t s a b&&a.Sources.all fun n=>(b.Sources.any fun x=>n==x) || !qiX l i n
def plc (s:qe) (l:List qa) (k i:Nat):Bool:=match l[i]?,l[k]? with
 | some a,some b=>qt3 s l i k a b
 | _,_=>false
def qbk (s:qe) (l:List qa) (k:Nat):Bool:=(List.range l.length).any (plc s l k)
theorem qkE {l:List qa} {i:Nat} {n:Int}:qiX l i n=true↔∃j t,j≠i∧(l.map fun a=>a.Sources)[j]?=some t∧n∈t:=by
 unfold qiX
 rw[qxL]
 constructor
 ·rintro⟨j,h1,h2⟩
  rw[qxn] at h2
  obtain⟨h2,h3⟩:=h2
  cases hj:l[j]? with
  | none=>rw[hj] at h3;cases h3
  | some c=>
   rw[hj] at h3
   refine⟨j,c.Sources,of_decide_eq_true h2,by rw[qx5,hj];rfl,?_⟩
   obtain⟨x,h4,h5⟩:=qxL.1 (show(c.Sources.any fun x=>x==n)=true from h3)
   rw[show n=x by simpa using (eq_comm.1 (beq_iff_eq.1 h5))];exact h4
 ·rintro⟨j,t,h1,h2,h3⟩
  rw[qx5] at h2
  obtain⟨c,h4,rfl⟩:=qx4.1 h2
  refine⟨j,qxN.2 (Q5 h4),?_⟩
  rw[qxR h1,h4]
  show(c.Sources.any fun x=>x==n)=true
  exact qxL.2 ⟨n,h3,by simp⟩
theorem qfa (w:List Int) (hw:w.length≤1000) (l:List qa) (t11 t12:Int) (M:List (Int×Int)):qx (Qj w l t11 t12 ((w.length:Nat):Int)) (M,(0:Int))=some (w.foldl q4G M):=by
 exact q0Y (step:=Qj w l t11 t12 ((w.length:Nat):Int)) w (fun(b:List (Int×Int)) k=>(b,(k:Int))) q4G (fun b=>b) (fun b k a ha=>by
  have hi:=Q5 ha
  unfold Qj
  dsimp only
  rw[if_pos (by omega),if_pos ⟨by omega,by omega⟩,qwU,ha,qwR,Q8 hi (by omega)]
  rfl) (fun b=>by
  unfold Qj
  dsimp only
  rw[if_neg (by omega)]) M
theorem qnr (l:List qa) (hl:l.length≤1000) (hf:∀a∈l,zd a):ZY l=some (qbe (l.map fun a=>a.Sources) []):=by
 have hML:100000≤maxLen:=by unfold maxLen;omega
 have h:=q0Y (step:=QA l ((l.length:Nat):Int)) l (fun(b:List (Int×Int)) k=>(b,(k:Int))) (fun M a=>(cpI (ZK a.Sources)).foldl q4G M) (fun b=>b) (fun b k a ha=>by
  have hi:=Q5 ha
  have hfa:=(hf a (qwS ha)).1
  have hc:(cpI (ZK a.Sources)).length≤1000:=qxs (q7s _) (by rw[q0j];exact hfa)
  unfold QA qR qB
  dsimp only
  rw[if_pos (by omega),if_pos ⟨by omega,by omega⟩,qwU,ha,qwR,if_pos ⟨by omega,by omega⟩,qwR,if_pos (by omega),qfa _ hc,qwR,Q8 hi (by omega)]) (fun b=>by
  unfold QA
  dsimp only
  rw[if_neg (by omega)]) []
 unfold ZY
 change Option.bind (qx _ ([],((0:Nat):Int))) _=_
 rw[h,qwR]
 unfold qbe
 rw[List.foldl_map]
theorem q9J (S:List Int) (hS:S.length≤1000) (M:List (Int×Int)) (l:List qa) (k:Nat) (b:qa) (hb:l[k]?=some b) (hfb:zd b):qL S M l (k:Int)=some (S.any fun n=>decide (1<Z8 0 M n) && !(b.Sources.any fun x=>n==x)):=by
 have h2:=hfb.1
 have hk:=Q5 hb
 have hq:∀n,Qt n M l (k:Int)=some (decide (1<Z8 0 M n) && !(b.Sources.any fun x=>n==x)):=fun n=>by
  unfold Qt
  by_cases h:1<Z8 0 M n
  ·rw[if_pos h,if_pos ⟨by omega,by omega⟩,qwU,hb,qwR,q2U _ (by omega),qwR,qxR h,qxo]
  ·rw[if_neg h,decide_eq_false h,Bool.false_and]
 have h:=q26 (step:=qz M l (k:Int) S ((S.length:Nat):Int)) S (fun n=>decide (1<Z8 0 M n) && !(b.Sources.any fun x=>n==x)) (fun i => .inl (i:Int)) (.inr ()) (fun i n hn=>by
  have hi:=Q5 hn
  unfold qz
  rw[if_pos (by omega),if_pos ⟨by omega,by omega⟩,qwU,hn,qwR,hq,qwR,Q8 hi (by omega)]
  split<;>rfl) (by
  unfold qz
  rw[if_neg (by omega)])
 unfold qL zp
 rcases h with ⟨h1,i,h2⟩|⟨h1,h2⟩
 ·rw[h2,qwR,Sum.elim_inl,qwR,h1,qxR (by omega)]
 ·rw[h2,qwR,Sum.elim_inr,qwR,h1,decide_eq_false (by omega)]
theorem qkf {l:List qa} (hl:l.length≤1000) {i:Nat} {a:qa} (ha:l[i]?=some a) (T:List Int):(!a.Sources.any fun n=>decide (1<Z8 0 (qbe (l.map fun a=>a.Sources) []) n) && !(T.any fun x=>n==x))=a.Sources.all fun n=>(T.any fun x=>n==x) || !qiX l i n:=by
 rw[List.not_any_eq_all_not]
 have key:∀n∈a.Sources,(!(decide (1<Z8 0 (qbe (l.map fun a=>a.Sources) []) n) && !(T.any fun x=>n==x)))=((T.any fun x=>n==x) || !qiX l i n):=fun n hn=>by
  have e:decide (1<Z8 0 (qbe (l.map fun a=>a.Sources) []) n)=qiX l i n:=by
   rw[Bool.eq_iff_iff,decide_eq_true_iff,qkE,qkz _ (by rw[qxz];omega)]
   exact qeI (i:=i) (s:=a.Sources) (by rw[qx5,ha];rfl) hn
  rw[e]
  cases qiX l i n<;>cases(T.any fun x=>n==x)<;>rfl
 rw[Bool.eq_iff_iff,qx8,qx8]
 exact⟨fun h n hn=>by rw[←key n hn];exact h n hn,fun h n hn=>by rw[key n hn];exact h n hn⟩
theorem qaz (s:qe) (l:List qa) (hl:l.length≤1000) (hf:∀a∈l,zd a) (k:Nat) (hk:k<l.length):Q7 l s (k:Int)=some (qbk s l k):=by
 have hb:l[k]?=some l[k]:=qwT hk
 have hfb:zd l[k]:=hf _ (qxI hk)
 have h:=qch (step:=zP l s (k:Int) (qbe (l.map fun a=>a.Sources) []) l ((l.length:Nat):Int)) l.length (plc s l k) (Sum.inl ()) (Sum.inr ()) (fun i hi=>by
  have ha:l[i]?=some l[i]:=qwT hi
  have hfa:zd l[i]:=hf _ (qxI hi)
  have hp:plc s l k i=qt3 s l i k l[i] l[k]:=by unfold plc;rw[ha,hb]
  rw[hp]
  unfold zP qt3
  rw[if_pos (by omega),if_pos ⟨by omega,by omega⟩,qwU,ha,qwR,Q8 hi (by omega)]
  by_cases hik:i=k
  ·rw[if_pos (beq_iff_eq.2 (by omega:(i:Int)=(k:Int))),decide_eq_false (by simpa using hik)];rfl
  ·rw[if_neg (by simpa using fun h:(i:Int)=(k:Int)=>hik (by omega)),if_pos ⟨by omega,by omega⟩,qwU,hb,qwR,qe2 s hfa,qwR,qxR hik,qxo]
   cases q5t s l[i] l[k]
   ·rfl
   ·rw[if_neg (by decide),q9J _ hfa.1 _ _ _ _ hb hfb,qwR,qkf hl ha,qxo]
    split<;>rfl) (by
  unfold zP
  rw[if_neg (by omega)])
 unfold Q7
 rw[qnr l hl hf,qwR,h,qwR]
 unfold qbk
 cases(List.range l.length).any (plc s l k)<;>rfl
end
noncomputable section
def q2r (p:Nat→Bool):Nat→Option Nat
 | 0=>none
 | n+1=>if p n=true then some n else q2r p n
theorem q4T {p:Nat→Bool}:∀{n:Nat},q2r p n=none↔∀k,k<n→p k=false
 | 0=>Iff.intro (fun _ k hk=>absurd hk (Nat.not_lt_zero k)) (fun _=>rfl)
 | n+1=>by
  unfold q2r
  by_cases h:p n=true
  ·rw[if_pos h]
   exact Iff.intro (fun h'=>by cases h') (fun h'=>by rw[h' n (by omega)] at h;cases h)
  ·rw[if_neg h,q4T]
   refine⟨fun h' k hk=>?_,fun h' k hk=>h' k (by omega)⟩
   by_cases hkn:k=n
   ·rw[hkn];exact qxj.2 h
   ·exact h' k (by omega)
theorem q0X {p:Nat→Bool} {i:Nat}:∀{n:Nat},q2r p n=some i→i<n∧p i=true∧∀k,i<k→k<n→p k=false
 | 0,h=>by cases h
 | n+1,h=>by
  unfold q2r at h
  by_cases hp:p n=true
  ·rw[if_pos hp] at h
   injection h with h
   subst h
   exact⟨by omega,hp,fun k h1 h2=>by omega⟩
  ·rw[if_neg hp] at h
   obtain⟨h1,h2,h3⟩:=q0X h
   refine⟨by omega,h2,fun k hk1 hk2=>?_⟩
   by_cases hkn:k=n
   ·rw[hkn];exact qxj.2 hp
   ·exact h3 k hk1 (by omega)
section
variable {A:Type} (cv:List A→Nat→Bool)
def qcR:Nat→List A→List A
 | 0,l=>l
 | f+1,l=>match q2r (cv l) l.length with
  | none=>l
  | some k=>qcR f (l.eraseIdx k)
def red (l:List A):List A:=qcR cv l.length l
variable {cv}
theorem q6n:∀(f g:Nat) (l:List A),l.length≤f→l.length≤g→qcR cv f l=qcR cv g l
 | 0,0,l,_,_=>rfl
 | 0,g+1,l,h,_=>by
  have:l=[]:=qxa (by omega)
  subst this;rfl
 | f+1,0,l,_,h=>by
  have:l=[]:=qxa (by omega)
  subst this;rfl
 | f+1,g+1,l,h1,h2=>by
  unfold qcR
  cases h:q2r (cv l) l.length with
  | none=>rfl
  | some k=>
   have hk:=(q0X h).1
   have hl:(l.eraseIdx k).length=l.length-1:=by rw[List.length_eraseIdx,if_pos hk]
   exact q6n f g _ (by omega) (by omega)
theorem q8h {l:List A} (h:q2r (cv l) l.length=none):red cv l=l:=by
 unfold red
 cases hl:l.length with
 | zero=>rfl
 | succ n=>unfold qcR;rw[h]
theorem q8S {l:List A} {k:Nat} (h:q2r (cv l) l.length=some k):red cv l=red cv (l.eraseIdx k):=by
 have hk:=(q0X h).1
 have hl:(l.eraseIdx k).length=l.length-1:=by rw[List.length_eraseIdx,if_pos hk]
 show qcR cv l.length l=qcR cv (l.eraseIdx k).length (l.eraseIdx k)
 cases hn:l.length with
 | zero=>omega
 | succ n=>
  have e:qcR cv (n+1) l=qcR cv n (l.eraseIdx k):=by
   conv=>lhs;unfold qcR
   rw[h]
  rw[e]
  exact q6n n _ (l.eraseIdx k) (by omega) (qx7 _)
theorem qcw {M:List A→Prop} (hstep:∀l k,q2r (cv l) l.length=some k→M l→M (l.eraseIdx k)):∀(n:Nat) (l:List A),l.length≤n→M l→M (red cv l)
 | 0,l,hl,h=>by
  have:l=[]:=qxa (by omega)
  subst this;exact h
 | n+1,l,hl,h=>by
  cases hc:q2r (cv l) l.length with
  | none=>rw[q8h hc];exact h
  | some k=>
   have hk:=(q0X hc).1
   have hlen:(l.eraseIdx k).length=l.length-1:=by rw[List.length_eraseIdx,if_pos hk]
   rw[q8S hc]
   exact qcw hstep n _ (by omega) (hstep l k hc h)
theorem qdu (l:List A):(red cv l).Sublist l:=
 qcw (M:=fun x=>x.Sublist l) (fun x k _ h=>(List.eraseIdx_sublist x k).trans h) l.length l (qx7 _) (List.Sublist.refl l)
end
end
noncomputable section
open Go.RowKit
theorem q9u {p:Nat→Bool}:∀{n k:Nat},k<n→p k=true→(∀j,k<j→j<n→p j=false)→q2r p n=some k
 | n+1,k,hk,hp,h=>by
  unfold q2r
  by_cases e:k=n
  ·subst e;rw[if_pos hp]
  ·rw[if_neg (by rw[h n (by omega) (by omega)];decide)]
   exact q9u (by omega) hp fun j h1 h2=>h j h1 (by omega)
def q0D (s:qe):(List qa×Int)→Option ((List qa×Int)⊕(List qa))|(left,k)=>if 0≤k then Option.bind (Q7 left s k) fun(a:Bool)=>if a=Bool.true then Option.bind (qm k (w64 (k+1)) left) fun(a2:List qa)=>some (Sum.inl (a2,w64 (((a2.length:Nat):Int)-1))) else some (Sum.inl (left,w64 (k-1))) else some (Sum.inr left)
theorem q8w (s:qe):∀(n k:Nat) (l:List qa),l.length≤n→n≤1000→(∀a∈l,zd a)→k≤l.length→(∀j,k≤j→j<l.length→qbk s l j=false)→qx (q0D s) (l,((k:Int)-1))=some (red (qbk s) l):=by
 intro n
 induction n with
 | zero=>
  intro k l hl _ hf hk hc
  have hl0:l=[]:=qxa (by omega)
  subst hl0
  have hk:k=0:=by simpa using hk
  subst hk
  refine qW ?_
  unfold q0D
  dsimp only
  rw[if_neg (by omega)];rfl
 | succ n ih=>
  intro k
  induction k with
  | zero=>
   intro l hl _ hf hk hc
   rw[q8h (q4T.2 fun j hj=>hc j (qxh _) hj)]
   refine qW ?_
   unfold q0D
   dsimp only
   rw[if_neg (by omega)]
  | succ k ihk=>
   intro l hl hn hf hk hc
   have e1:((k+1:Nat):Int)-1=(k:Int):=by omega
   rw[e1]
   have hcov:=qaz s l (by omega) hf k (by omega)
   cases hq:qbk s l k
   ·have e:q0D s (l,(k:Int))=some (.inl (l,((k:Int)-1))):=by
     unfold q0D
     dsimp only
     rw[if_pos (by omega),hcov,qwR,hq,if_neg (by decide),Qo (by omega) (by omega)]
    rw[zS e]
    refine ihk l hl hn hf (by omega) fun j h1 h2=>?_
    by_cases hj:j=k
    ·rw[hj];exact hq
    ·exact hc j (by omega) h2
   ·have hlen:(l.eraseIdx k).length=l.length-1:=by rw[List.length_eraseIdx,if_pos (by omega)]
    have e:q0D s (l,(k:Int))=some (.inl (l.eraseIdx k,(((l.eraseIdx k).length:Int)-1))):=by
     unfold q0D qm
     dsimp only
     rw[if_pos (by omega),hcov,qwR,hq,if_pos rfl,Qo (by omega) (by omega),if_pos ⟨by omega,rfl,by omega⟩,qwR,qwU,Qo (by omega) (by omega)]
    rw[zS e,q8S (q9u (by omega) hq fun j h1 h2=>hc j (by omega) h2)]
    exact ih (l.eraseIdx k).length (l.eraseIdx k) (by omega) (by omega) (fun a ha=>hf a (List.mem_of_mem_eraseIdx ha)) (qx7 _) fun j h1 h2=>by omega
end
noncomputable section
open Go.RowKit
theorem qe7 (a b c:qa) (s:qe):qk a b c s=q0D s:=rfl
def exO (c:List UInt8) (cr g d:Int) (S:List Int) (bd:Int):qa:=qa.mk (qb.mk 1 (ByteArray.mk (List.toArray c))) cr g d S bd []
def exP:qg:=qg.mk 1 0 0 0 (ByteArray.mk (List.toArray [])) (qh.mk 0 0 0 [] []) 0 0 0 []
def exS:qe:=qe.mk 0 100 50
theorem qkY (a:qa) (d:Int):qG exP a d=some false:=by
 unfold qG
 rw[if_neg (by decide)]
theorem Jt {a:qa} (ha:zd a):qv a=some ():=by
 have hML:100000≤maxLen:=by unfold maxLen;omega
 have h1:=ha.1;have h2:=ha.2
 unfold qv qR
 rw[if_pos ⟨by omega,by omega⟩,qwR,if_pos ⟨by omega,by omega⟩,qwR]
theorem q9S (a b c:qa) (ha:zd a) (hb:zd b) (hc:zd c):Qf 3 exP exS 100 a b c=some (red (qbk exS) [a,b,c],0):=by
 have hML:100000≤maxLen:=by unfold maxLen;omega
 have hl:=q8w exS 3 3 [a,b,c] (by simp) (by omega) (by simp[ha,hb,hc]) (by simp) (fun j h1 h2=>by simp at h2;omega)
 have hr:=(qdu (cv:=qbk exS) [a,b,c]).length_le
 unfold Qf
 rw[if_pos (by omega),if_pos (by omega),qkY,qwR,if_pos (by decide),Jt ha,qwR,if_pos (by omega),if_pos (by omega),if_pos (by omega),qkY,qwR,if_pos (by decide),Jt hb,qwR,if_pos (by omega),if_pos (by omega),if_pos (by omega),qkY,qwR,if_pos (by decide),Jt hc,qwR,if_pos (by omega),if_neg (by omega),qe7]
 change Option.bind (qx _ ([a,b,c],((3:Nat):Int)-1)) _=_
 rw[hl,qwR,if_neg (by simp at hr;omega)]
theorem qa9 (a b:qa) (w:List Int) (x1:Int) (x2:ByteArray) (x3 x4 x5 x6:Int) (x7:List Int) (ha:zd a) (hb:zd b) (hc:zd (qa.mk (qb.mk x1 x2) x3 x4 x5 w x6 x7)) :
  Qg 3 exP exS 100 w a b x1 x2 x3 x4 x5 x6 x7=some (.inl (red (qbk exS) [a,b,qa.mk (qb.mk x1 x2) x3 x4 x5 w x6 x7],0,qa.mk (qb.mk x1 x2) x3 x4 x5 w x6 x7)):=by
 have hML:100000≤maxLen:=by unfold maxLen;omega
 obtain⟨c,hce⟩:∃c,c=qa.mk (qb.mk x1 x2) x3 x4 x5 w x6 x7:=⟨_,rfl⟩
 have hl:=q8w exS 3 3 [a,b,c] (by simp) (by omega) (by rw[hce];simp[ha,hb,hc]) (by simp) (fun j h1 h2=>by simp at h2;omega)
 have hr:=(qdu (cv:=qbk exS) [a,b,c]).length_le
 unfold Qg
 rw[if_pos (by omega),if_pos (by omega),qkY,qwR,if_pos (by decide),Jt ha,qwR,if_pos (by omega),if_pos (by omega),if_pos (by omega),qkY,qwR,if_pos (by decide),Jt hb,qwR,if_pos (by omega),if_pos (by omega),if_pos (by omega),qkY,qwR,if_pos (by decide),Jt hc,qwR,if_pos (by omega),if_neg (by omega),qe7,←hce]
 change Option.bind (qx _ ([a,b,c],((3:Nat):Int)-1)) _=_
 rw[hl,qwR,if_neg (by simp at hr;omega)]
theorem q4X (a:List (List Int)) (ha:a.length≤1000000) (hs:∀x∈a,x.length≤1000000):qU a a=some true:=by
 have h:=q9o (step:=zm a a) a (fun _=>true) (Sum.inl ()) (Sum.inr ()) (fun i x hx=>by
  have hi:=Q5 hx
  unfold zm
  rw[if_pos (by omega),if_pos ⟨by omega,by omega⟩,qwU,hx,qwR,if_pos ⟨by omega,by omega⟩,qwR,q8T _ _ (hs x (qwS hx)),qwR,qxR rfl,if_neg (by decide),Q8 hi ha]
  rfl) (by
  unfold zm
  rw[if_neg (by omega)])
 unfold qU
 rw[if_neg (by simp),h,qwR,if_pos (by simp)]
 rfl
theorem qjw:red (qbk exS) [exO [65,49] 5 60 5 [1] 0,exO [65,49] 5 70 9 [2] 0,exO [66,49] 5 50 0 [3] 0]=[exO [65,49] 5 70 9 [2] 0,exO [66,49] 5 50 0 [3] 0]:=by kernel_rfl
theorem qjj:red (qbk exS) [exO [65,49] 5 60 5 [1] 0,exO [65,49] 5 70 9 [2] 0,exO [66,49] 5 50 0 [2] 1]=[exO [65,49] 5 60 5 [1] 0,exO [65,49] 5 70 9 [2] 0,exO [66,49] 5 50 0 [2] 1]:=by kernel_rfl
theorem qit:dfs Z3 q8P [exO [65,49] 5 60 0 [1] 0,exO [66,49] 10 60 0 [3] 0,exO [65,49] 6 60 0 [2] 0] [] 0=16:=by kernel_rfl
theorem qks:(q5G 4 (lwF [exO [65,49] 5 60 0 [1] 0,exO [66,49] 10 60 0 [3] 0,exO [65,49] 6 60 0 [2] 0,exO [67,49] 5 60 0 [2] 1])).map zq=[[0,2,3],[1]]:=by kernel_rfl
theorem q0p (c:List UInt8) (cr g d x:Int) (bd:Int):zd (exO c cr g d [x] bd):=⟨by show 1≤1000;omega,by show 0≤1000;omega⟩
theorem q7H:QY=some true:=by
 have h1:=q9S (exO [65,49] 5 60 5 [1] 0) (exO [65,49] 5 70 9 [2] 0) (exO [66,49] 5 50 0 [3] 0) (q0p ..) (q0p ..) (q0p ..)
 have h2:=qa9 (exO [65,49] 5 60 5 [1] 0) (exO [65,49] 5 70 9 [2] 0) [2] 1 (ByteArray.mk (List.toArray [66,49])) 5 50 0 1 [] (q0p ..) (q0p ..) (q0p [66,49] 5 50 0 2 1)
 have h3:=qdh [exO [65,49] 5 60 0 [1] 0,exO [66,49] 10 60 0 [3] 0,exO [65,49] 6 60 0 [2] 0] (by simp) (by simp[q0p])
 have h4:=q70 [exO [65,49] 5 60 0 [1] 0,exO [66,49] 10 60 0 [3] 0,exO [65,49] 6 60 0 [2] 0,exO [67,49] 5 60 0 [2] 1] (by simp) (by simp[q0p])
 rw[qjw] at h1
 rw[show(qa.mk (qb.mk 1 (ByteArray.mk (List.toArray [66,49]))) 5 50 0 [2] 1 [])=exO [66,49] 5 50 0 [2] 1 from rfl,qjj] at h2
 rw[qit] at h3
 rw[show[exO [65,49] 5 60 0 [1] 0,exO [66,49] 10 60 0 [3] 0,exO [65,49] 6 60 0 [2] 0,exO [67,49] 5 60 0 [2] 1].length=4 from rfl,qks] at h4
 unfold exO exP exS at h1 h2
 unfold exO at h3 h4
 have hc:(ByteArray.toList (ByteArray.mk (List.toArray [66,49]))==ByteArray.toList (ByteArray.mk (List.toArray [66,49])))=true:=by simp
 unfold QY
 rw[h1,qwR,h2,qwR,Sum.elim_inl]
 dsimp only
 rw[if_neg (by decide),if_neg (by decide),if_neg (by decide),if_pos (by decide)]
 simp only[qx1,qxg,qwR]
 rw[if_neg (by decide),if_pos (by decide),hc,if_neg (by decide),if_neg (by decide),h3,qwR]
 dsimp only
 rw[if_pos (by decide),if_pos (by decide),h4,qwR,q4X _ (by simp) (by simp)]
 rfl
end
noncomputable section
open Go.RowKit
theorem qf8 (n:Nat) (f:Nat→Nat):(q5G n f).length≤n:=by
 unfold q5G
 rw[qxz]
 exact qxs (List.length_filter_le _ _) (by rw[List.length_range];exact qx7 _)
theorem qhZ {n:Nat} {f:Nat→Nat} {g:List Nat} (h:g∈q5G n f):g.length≤n:=by
 unfold q5G at h
 obtain⟨r,-,rfl⟩:=qxB.1 h
 exact qxs (List.length_filter_le _ _) (by rw[List.length_range];exact qx7 _)
theorem qad (l:List qa) (hl:l.length≤1000):qU ((q5G l.length (lwF l)).map zq) ((q5G l.length (lwF l)).map zq)=some true:=by
 have h1:=qf8 l.length (lwF l)
 refine q4X _ (by rw[qxz];omega) fun x hx=>?_
 obtain⟨g,hg,rfl⟩:=qxB.1 hx
 have:=qhZ hg
 rw[Qs];omega
theorem qav (w:List (List qa)) (hw:∀x∈w,x.length≤100∧∀a∈x,zd a) (hwl:w.length≤1000) (t3:Bool):qx (qH w t3 ((w.length:Nat):Int)) (0:Int)=some (.inr ()):=by
 have h:=q9o (step:=qH w t3 ((w.length:Nat):Int)) w (fun _=>true) (Sum.inl ()) (Sum.inr ()) (fun i x hx=>by
  have hi:=Q5 hx
  obtain⟨h1,h2⟩:=hw x (qwS hx)
  obtain⟨n,e,q1,q2⟩:=qeo x h1 h2
  unfold qH
  rw[if_pos (by omega),if_pos ⟨by omega,by omega⟩,qwU,hx,qwR,q1,qwR,q2,qwR]
  dsimp only
  rw[if_neg (by simp),if_neg (by simp),q70 x (by omega) h2,qwR,q9Y x (by omega) h2,qwR,qad x (by omega),qwR,if_neg (by decide),Q8 hi (by omega)]
  rfl) (by
  unfold qH
  rw[if_neg (by omega)])
 rw[h,if_pos (by simp)]
theorem q4F (c:Qq) (hq:∀q∈c.Has,q.length≤9223372036854775807) (ht:c.Has.length≤9223372036854775807) (hp:c.Programme.length≤9223372036854775807):Qr c=some true:=by
 have hML:100000≤maxLen:=by unfold maxLen;omega
 obtain⟨l,p,d,e,l8,hs⟩:=qc9 c hq ht hp
 have hf:∀a∈l,zd a:=fun a ha=>(hs a ha).fit (by omega)
 have h:=qav [l,l++l,List.take (Int.toNat (min ((l.length+l.length:Nat):Int) (10:Int))) (l++l)] (fun x hx=>by
  have hl2:(l++l).length≤100:=by rw[qwY];omega
  have hf2:∀a∈l++l,zd a:=fun a ha=>(qxl.1 ha).elim (hf a) (hf a)
  rcases qxd.1 hx with rfl|hx
  ·exact⟨by omega,hf⟩
  ·rcases qxd.1 hx with rfl|hx
   ·exact⟨hl2,hf2⟩
   ·rw[qxH.1 hx]
    exact⟨qxs (List.length_take_le' ..) hl2,fun a ha=>hf2 a (List.mem_of_mem_take ha)⟩) (by simp) true
 unfold Qr
 rw[q7H,qwR,e,qwR]
 dsimp only
 rw[if_pos ⟨by omega,by omega⟩,if_pos ⟨by omega,by omega⟩,if_pos ⟨by omega,by omega⟩]
 change Option.bind (qx (qH _ true (([l,l++l,List.take (Int.toNat (min ((l.length+l.length:Nat):Int) (10:Int))) (l++l)].length:Nat):Int)) 0) _=_
 rw[h];rfl
end
noncomputable section
open Go.RowKit
set_option maxRecDepth 100000
theorem q2a {α:Type} (ds:List α) (o s:Nat):ds.drop o=(ds.drop o).take s++ds.drop (o+s):=by
 rw[←qxE];exact(qxF s _).symm
theorem q7E {X:Type} {E:X→List D} {W:X→Prop} {sz:Nat} (hz:0<sz):∀(m:Nat) (es:List D),es.length=m*sz→(∀i,i<m→∃x,(es.drop (i*sz)).take sz=E x∧W x)→∃l:List X,es=l.flatMap E∧l.length=m∧∀x∈l,W x
 | 0,es,hl,_=>⟨[],by rw[Nat.zero_mul] at hl;exact qxa hl,rfl,by simp⟩
 | m+1,es,hl,h=>by
  obtain⟨x,hx,wx⟩:=h 0 (by omega)
  obtain⟨l,g1,g2,g3⟩:=q7E hz m (es.drop sz) (by rw[qxD,hl,Nat.add_mul];omega) fun i hi=>by
   obtain⟨y,hy,wy⟩:=h (i+1) (by omega)
   refine⟨y,?_,wy⟩
   rw[qxE,show sz+i*sz=(i+1)*sz by rw[Nat.add_mul,Nat.one_mul,Nat.add_comm]];exact hy
  refine⟨x::l,?_,by simp[g2],fun y hy=>?_⟩
  ·rw[Nat.zero_mul,List.drop_zero] at hx
   rw[qxU,←g1,←hx,qxF]
  ·rcases qxd.1 hy with rfl|hy
   ·exact wx
   ·exact g3 y hy
abbrev qsO:List TypeId:=[28,22,25,3,24,23,26,5,30]
theorem qmK:qtw Try.prog qsO=true:=by kernel_rfl
theorem ty3:∀(n:Nat) (ds:List D),Z1 Try.prog n 3 ds→∃v:Int,ds=[D.int .i64 v]∧(Lit.int .i64 v).wf=true:=by
 intro n ds h
 cases n with
 | zero=>exact h.elim
 | succ n=>
  unfold Z1 at h
  rw[Try.underlying3] at h
  obtain⟨z,h1,h2⟩:=h
  exact⟨z,h1,h2⟩
theorem cz3:Try.prog.cellsOf 3=1:=by kernel_rfl
theorem quq:∀(n:Nat) (ds:List D),Z1 Try.prog n 25 ds→∃v:List Int,ds=[D.sl 1 v.length (v.flatMap eI)]∧(v.length≤maxLen∧∀y∈v,(Lit.int .i64 y).wf=true):=by
 intro n ds h
 cases n with
 | zero=>exact h.elim
 | succ n=>
  unfold Z1 at h
  rw[Try.underlying25] at h
  obtain⟨m,es,h1,h2,h3,h4⟩:=h
  rw[cz3] at h1 h3 h4
  obtain⟨l,g1,g2,g3⟩:=q7E (E:=eI) (W:=fun y=>(Lit.int .i64 y).wf=true) (sz:=1) (by decide) m es h3 fun i hi=>by
   obtain⟨v,q1,q2⟩:=ty3 n _ (h4 i hi)
   exact⟨v,q1.trans (rfl),q2⟩
  refine⟨l,?_,by omega,g3⟩
  rw[h1,g1,g2]
theorem qtP:Try.prog.cellsOf 25=1:=by kernel_rfl
theorem quP:∀(n:Nat) (ds:List D),Z1 Try.prog n 22 ds→∃v:List (List Int),ds=[D.sl 1 v.length (v.flatMap (eL 1 eI))]∧(v.length≤maxLen∧∀y∈v,(y.length≤maxLen∧∀yy∈y,(Lit.int .i64 yy).wf=true)):=by
 intro n ds h
 cases n with
 | zero=>exact h.elim
 | succ n=>
  unfold Z1 at h
  rw[Try.underlying22] at h
  obtain⟨m,es,h1,h2,h3,h4⟩:=h
  rw[qtP] at h1 h3 h4
  obtain⟨l,g1,g2,g3⟩:=q7E (E:=(eL 1 eI)) (W:=fun y=>(y.length≤maxLen∧∀yy∈y,(Lit.int .i64 yy).wf=true)) (sz:=1) (by decide) m es h3 fun i hi=>by
   obtain⟨v,q1,q2⟩:=quq n _ (h4 i hi)
   exact⟨v,q1.trans (rfl),q2⟩
  refine⟨l,?_,by omega,g3⟩
  rw[h1,g1,g2]
theorem qpv:Try.prog.cellsOf 23=3:=by kernel_rfl
theorem qun:∀(n:Nat) (ds:List D),Z1 Try.prog n 23 ds→∃v:qhA Int,ds=[D.int .i64 v.a0,D.int .i64 v.a1,D.int .i64 v.a2]∧((Lit.int .i64 v.a0).wf=true∧(Lit.int .i64 v.a1).wf=true∧(Lit.int .i64 v.a2).wf=true):=by
 intro n ds h
 cases n with
 | zero=>exact h.elim
 | succ n=>
  unfold Z1 at h
  rw[Try.underlying23] at h
  obtain⟨hl,hf⟩:=h
  rw[qpv] at hl
  have h0:Z1 Try.prog n 3 ((ds.drop 0).take (Try.prog.cellsOf 3)):=by
   have:=hf 0 (by decide)
   rwa [cz3] at this ⊢
  rw[cz3] at h0
  obtain⟨v0,e0,w0⟩:=ty3 _ _ h0
  have c0:=q2a ds 0 1
  rw[e0] at c0
  have h1:Z1 Try.prog n 3 ((ds.drop 1).take (Try.prog.cellsOf 3)):=by
   have:=hf 1 (by decide)
   rwa [cz3] at this ⊢
  rw[cz3] at h1
  obtain⟨v1,e1,w1⟩:=ty3 _ _ h1
  have c1:=q2a ds 1 1
  rw[e1] at c1
  have h2:Z1 Try.prog n 3 ((ds.drop 2).take (Try.prog.cellsOf 3)):=by
   have:=hf 2 (by decide)
   rwa [cz3] at this ⊢
  rw[cz3] at h2
  obtain⟨v2,e2,w2⟩:=ty3 _ _ h2
  have c2:=q2a ds 2 1
  rw[e2] at c2
  have cl:ds.drop 3=[]:=qxx (by omega)
  refine⟨⟨v0,v1,v2⟩,?_,⟨w0,w1,w2⟩⟩
  have c:ds.drop 0=_:=c0
  simp only[Nat.reduceAdd] at c0 c1 c2 c
  rw[c1,c2,cl] at c
  exact c
theorem qtb:Try.prog.cellsOf 24=6:=by kernel_rfl
theorem qwK:∀(n:Nat) (ds:List D),Z1 Try.prog n 24 ds→∃v:QT (qhA Int),ds=[D.int .i64 v.a0.a0,D.int .i64 v.a0.a1,D.int .i64 v.a0.a2,D.int .i64 v.a1.a0,D.int .i64 v.a1.a1,D.int .i64 v.a1.a2]∧(((Lit.int .i64 v.a0.a0).wf=true∧(Lit.int .i64 v.a0.a1).wf=true∧(Lit.int .i64 v.a0.a2).wf=true)∧((Lit.int .i64 v.a1.a0).wf=true∧(Lit.int .i64 v.a1.a1).wf=true∧(Lit.int .i64 v.a1.a2).wf=true)):=by
 intro n ds h
 cases n with
 | zero=>exact h.elim
 | succ n=>
  unfold Z1 at h
  rw[Try.underlying24] at h
  obtain⟨hl,hf⟩:=h
  rw[qtb] at hl
  have h0:Z1 Try.prog n 23 ((ds.drop 0).take (Try.prog.cellsOf 23)):=by
   have:=hf 0 (by decide)
   rwa [qpv] at this ⊢
  rw[qpv] at h0
  obtain⟨v0,e0,w0⟩:=qun _ _ h0
  have c0:=q2a ds 0 3
  rw[e0] at c0
  have h1:Z1 Try.prog n 23 ((ds.drop 3).take (Try.prog.cellsOf 23)):=by
   have:=hf 1 (by decide)
   rwa [qpv] at this ⊢
  rw[qpv] at h1
  obtain⟨v1,e1,w1⟩:=qun _ _ h1
  have c1:=q2a ds 3 3
  rw[e1] at c1
  have cl:ds.drop 6=[]:=qxx (by omega)
  refine⟨⟨v0,v1⟩,?_,⟨w0,w1⟩⟩
  have c:ds.drop 0=_:=c0
  simp only[Nat.reduceAdd] at c0 c1 c
  rw[c1,cl] at c
  exact c
theorem qwq:∀(n:Nat) (ds:List D),Z1 Try.prog n 26 ds→∃v:Int,ds=[D.int .u16 v]∧(Lit.int .u16 v).wf=true:=by
 intro n ds h
 cases n with
 | zero=>exact h.elim
 | succ n=>
  unfold Z1 at h
  rw[Try.underlying26] at h
  obtain⟨z,h1,h2⟩:=h
  exact⟨z,h1,h2⟩
theorem qwF:Try.prog.cellsOf 22=1:=by kernel_rfl
theorem qvq:Try.prog.cellsOf 26=1:=by kernel_rfl
theorem qwn:Try.prog.cellsOf 28=9:=by kernel_rfl
def q0r (x:Qq):Prop:=(x.Has.length≤maxLen∧∀y∈x.Has,(y.length≤maxLen∧∀yy∈y,(Lit.int .i64 yy).wf=true))∧(((Lit.int .i64 x.Odd.a0.a0).wf=true∧(Lit.int .i64 x.Odd.a0.a1).wf=true∧(Lit.int .i64 x.Odd.a0.a2).wf=true)∧((Lit.int .i64 x.Odd.a1.a0).wf=true∧(Lit.int .i64 x.Odd.a1.a1).wf=true∧(Lit.int .i64 x.Odd.a1.a2).wf=true))∧(x.Programme.length≤maxLen∧∀y∈x.Programme,(Lit.int .i64 y).wf=true)∧(Lit.int .u16 x.Day).wf=true
theorem ty28:∀(n:Nat) (ds:List D),Z1 Try.prog n 28 ds→∃v:Qq,ds=[D.sl 1 v.Has.length (v.Has.flatMap (eL 1 eI)),D.int .i64 v.Odd.a0.a0,D.int .i64 v.Odd.a0.a1,D.int .i64 v.Odd.a0.a2,D.int .i64 v.Odd.a1.a0,D.int .i64 v.Odd.a1.a1,D.int .i64 v.Odd.a1.a2,D.sl 1 v.Programme.length (v.Programme.flatMap eI),D.int .u16 v.Day]∧q0r v:=by
 intro n ds h
 cases n with
 | zero=>exact h.elim
 | succ n=>
  unfold Z1 at h
  rw[Try.underlying28] at h
  obtain⟨hl,hf⟩:=h
  rw[qwn] at hl
  have h0:Z1 Try.prog n 22 ((ds.drop 0).take (Try.prog.cellsOf 22)):=hf _ (qwS (i:=0) rfl)
  rw[qwF] at h0
  obtain⟨v0,e0,w0⟩:=quP _ _ h0
  have c0:=q2a ds 0 1
  rw[e0] at c0
  have h1:Z1 Try.prog n 24 ((ds.drop 1).take (Try.prog.cellsOf 24)):=hf _ (qwS (i:=1) rfl)
  rw[qtb] at h1
  obtain⟨v1,e1,w1⟩:=qwK _ _ h1
  have c1:=q2a ds 1 6
  rw[e1] at c1
  have h2:Z1 Try.prog n 25 ((ds.drop 7).take (Try.prog.cellsOf 25)):=hf _ (qwS (i:=2) rfl)
  rw[qtP] at h2
  obtain⟨v2,e2,w2⟩:=quq _ _ h2
  have c2:=q2a ds 7 1
  rw[e2] at c2
  have h3:Z1 Try.prog n 26 ((ds.drop 8).take (Try.prog.cellsOf 26)):=hf _ (qwS (i:=3) rfl)
  rw[qvq] at h3
  obtain⟨v3,e3,w3⟩:=qwq _ _ h3
  have c3:=q2a ds 8 1
  rw[e3] at c3
  have cl:ds.drop 9=[]:=qxx (by omega)
  refine⟨⟨v0,v1,v2,v3⟩,?_,⟨w0,w1,w2,w3⟩⟩
  have c:ds.drop 0=_:=c0
  simp only[Nat.reduceAdd] at c0 c1 c2 c3 c
  rw[c1,c2,c3,cl] at c
  exact c
end
noncomputable section
open Go.RowKit
theorem qoH {c:Qq} (w:q0r c):(∀q∈c.Has,q.length≤9223372036854775807)∧c.Has.length≤9223372036854775807∧c.Programme.length≤9223372036854775807:=by
 have hm:maxLen≤9223372036854775807:=by unfold maxLen;omega
 obtain⟨⟨h1,h2⟩,-,⟨h3,-⟩,-⟩:=w
 exact⟨fun q hq=>qxs (h2 q hq).1 hm,qxs h1 hm,qxs h3 hm⟩
end
noncomputable section
theorem q6h (c:Qq) (w:q0r c):Qr c=some true:=by
 obtain⟨h1,h2,h3⟩:=qoH w
 exact q4F c h1 h2 h3
end
end Go.Proofs.Ytofbcijbpfjliaa.Vc
namespace Go.Proofs.Ytofbcijbpfjliaa
open Go.Proofs.Ytofbcijbpfjliaa.Vc (qwZ qx0 qx3 qx6 qxc)
open Go.ChangeShapes Go.WideShapes Go.ChangeAt Go.RowKit Go.ChangeMaps
theorem own:ownKnob Try.prog.godebug=none:=by kernel_rfl
theorem qka:laidOutB Try.prog=true:=by kernel_rfl
section
variable {H:Type} {enc:TypeId×Value→H} {P:Program} {W W':World}
theorem q6r (hl:laidOutB P=true) (hb:Below W.heap.size W W'):∀{ts:List TypeId} {vs:List Value} {ds:List (DataW H)} {ps:List MemPlace},(∀t∈ts,P.readableRec t=true∧t<P.types.size)→
  DataW.TrodAll enc P W 0 (fun _=>true) true ts vs ds ps→(∀p∈ps,p.block<W.heap.size)→DataW.TrodAll enc P W' 0 (fun b=>decide (b<W.heap.size)) true ts vs ds ps
 | [],_,_,_,_,h,_=>by
  obtain⟨rfl,rfl,rfl⟩:=trodAll_nil h
  exact trodAll_mk0
 | t::ts,_,_,_,ht,h,hlt=>by
  obtain⟨v,vs,d,ds,p,q,rfl,rfl,rfl,h1,h2⟩:=trodAll_cons h
  exact trodAll_cons_mk (Below.trod hl (ht t qx6).1 (ht t qx6).2 h1 hb (fun x hx=>hlt x (qx3 _ hx)))
   (q6r hl hb (fun u hu=>ht u (qwZ _ hu)) h2 (fun x hx=>hlt x (qx0 _ hx)))
theorem qeF {f:Func} {s:ChangeSpec} {apart fresh handsOn:Bool} {args:Array Value} {ds gs:List (DataW H)} {before:List MemPlace} {tb:TypeId} (hl:laidOutB P=true)
  (hts:∀t∈f.params.toList,P.readableRec t=true∧t<P.types.size) (hr:f.resultTypes=#[tb]) (htb:P.underlying tb=some .bool) (hv:s.vars=[])
  (h1:(s.fn H (ds++gs)).results=[.lit (.bool true)]) (h2:(s.fn H (ds++gs)).args=ds) (h3:(s.fn H (ds++gs)).vars=[])
  (hW:DataW.Whole enc P f.params.toList s.vars apart W args.toList ds gs before) (hb:Below W.heap.size W W') :
  s.post enc P f apart fresh handsOn false W args (.bool true) W':=by
 have hlt:∀p∈before,p.block<W.heap.size:=fun p hp=>hW.lt p hp
 have hW2:=hW
 obtain⟨pa,pv,hA,hV,hp,-,-⟩:=hW2
 rw[hv] at hV
 obtain⟨rfl,rfl⟩:=trodVars_none hV
 rw[qxc] at hp
 subst hp
 refine⟨ds,[],before,[],before,[],hW,?_,?_,?_,?_,fun h=>by cases h⟩
 ·rw[h1,hr]
  exact trodAll_mk1 (shut_bool htb true)
 ·rw[h2]
  exact q6r hl hb hts hA hlt
 ·rw[h3,hv]
  exact hV
 ·exact World.keptBut_mono (fun p hp=>⟨hp,.inr (.inl hp)⟩) (hb.frame (·∈before))
end
end Go.Proofs.Ytofbcijbpfjliaa
namespace Go.Proofs.Ytofbcijbpfjliaa.Vc
end Go.Proofs.Ytofbcijbpfjliaa.Vc
